/- Numbers g between two ends, narrowed by lines from below and from above (Wear). Plain: no program in sight. A number is a pair (p, q), q above 0. -/
import Derived.KernelRfl
namespace Go.Proofs.YtnfndiafabhhdaaGreat
structure Bd where
  n : Int
  d : Int
  s : Bool
def Bd.ge (b : Bd) (p q : Int) : Prop := if b.s then b.n * q < p * b.d else b.n * q ≤ p * b.d
def Bd.le (b : Bd) (p q : Int) : Prop := if b.s then p * b.d < b.n * q else p * b.d ≤ b.n * q
def Bd.lt (a b : Bd) : Prop := a.n * b.d < b.n * a.d
def Bd.eqv (a b : Bd) : Prop := a.n * b.d = b.n * a.d
theorem mul_lt_r {a b c : Int} (hc : 0 < c) : a * c < b * c ↔ a < b :=
  ⟨fun h => Int.lt_of_mul_lt_mul_right h (Int.le_of_lt hc), fun h => Int.mul_lt_mul_of_pos_right h hc⟩
theorem mul_le_r {a b c : Int} (hc : 0 < c) : a * c ≤ b * c ↔ a ≤ b :=
  ⟨fun h => Int.le_of_mul_le_mul_right h hc, fun h => Int.mul_le_mul_of_nonneg_right h (Int.le_of_lt hc)⟩
theorem cross {a b : Bd} {p q : Int} (hq : 0 < q) (ha : 0 < a.d) (hb : 0 < b.d) :
    (a.n * b.d < b.n * a.d ↔ a.n * q * b.d < b.n * q * a.d) ∧ (a.n * b.d = b.n * a.d ↔ a.n * q * b.d = b.n * q * a.d) ∧
    (a.n * q < p * a.d ↔ a.n * q * b.d < p * (a.d * b.d)) ∧ (a.n * q ≤ p * a.d ↔ a.n * q * b.d ≤ p * (a.d * b.d)) ∧
    (p * a.d < a.n * q ↔ p * (a.d * b.d) < a.n * q * b.d) ∧ (p * a.d ≤ a.n * q ↔ p * (a.d * b.d) ≤ a.n * q * b.d) ∧
    (b.n * q < p * b.d ↔ b.n * q * a.d < p * (a.d * b.d)) ∧ (b.n * q ≤ p * b.d ↔ b.n * q * a.d ≤ p * (a.d * b.d)) ∧
    (p * b.d < b.n * q ↔ p * (a.d * b.d) < b.n * q * a.d) ∧ (p * b.d ≤ b.n * q ↔ p * (a.d * b.d) ≤ b.n * q * a.d) := by
  have e1 : a.n * q * b.d = a.n * b.d * q := by ac_rfl
  have e2 : b.n * q * a.d = b.n * a.d * q := by ac_rfl
  have e3 : p * (a.d * b.d) = p * a.d * b.d := by ac_rfl
  have e4 : p * (a.d * b.d) = p * b.d * a.d := by ac_rfl
  refine ⟨by rw [e1, e2]; exact (mul_lt_r hq).symm, ⟨fun h => by rw [e1, e2, h], fun h => ?_⟩, by rw [e3]; exact (mul_lt_r hb).symm, by rw [e3]; exact (mul_le_r hb).symm, by rw [e3]; exact (mul_lt_r hb).symm,
    by rw [e3]; exact (mul_le_r hb).symm, by rw [e4]; exact (mul_lt_r ha).symm, by rw [e4]; exact (mul_le_r ha).symm, by rw [e4]; exact (mul_lt_r ha).symm, by rw [e4]; exact (mul_le_r ha).symm⟩
  rw [e1, e2] at h
  exact Int.eq_of_mul_eq_mul_right (by omega) h
def mxR (lo r : Bd) : Bd := if lo.n * r.d < r.n * lo.d then r else if lo.n * r.d = r.n * lo.d then ⟨lo.n, lo.d, lo.s || r.s⟩ else lo
def mxW (lo r : Bd) : Bd := if lo.n * r.d < r.n * lo.d ∨ lo.n * r.d = r.n * lo.d ∧ r.s = true then r else lo
def mnR (hi r : Bd) : Bd := if r.n * hi.d < hi.n * r.d then r else if r.n * hi.d = hi.n * r.d then ⟨hi.n, hi.d, hi.s || r.s⟩ else hi
def mnW (hi r : Bd) : Bd := if r.n * hi.d < hi.n * r.d ∨ r.n * hi.d = hi.n * r.d ∧ r.s = true then r else hi
theorem mxR_ge {lo r : Bd} {p q : Int} (hq : 0 < q) (h1 : 0 < lo.d) (h2 : 0 < r.d) : (mxR lo r).ge p q ↔ lo.ge p q ∧ r.ge p q := by
  obtain ⟨c1, c2, c3, c4, c5, c6, c7, c8, c9, c10⟩ := cross (a := lo) (b := r) (p := p) hq h1 h2
  unfold mxR
  split
  · rename_i h
    have h := c1.1 h
    unfold Bd.ge
    cases lo.s <;> cases r.s <;> simp only [Bool.false_eq_true, if_false, if_true, c3, c4, c7, c8] <;> omega
  · split
    · rename_i h
      have h := c2.1 h
      unfold Bd.ge
      cases lo.s <;> cases r.s <;> simp only [Bool.or_false, Bool.or_true, Bool.false_eq_true, if_false, if_true, c3, c4, c7, c8] <;> omega
    · rename_i h h'
      have h := fun k => h (c1.2 k)
      have h' := fun k => h' (c2.2 k)
      unfold Bd.ge
      cases lo.s <;> cases r.s <;> simp only [Bool.false_eq_true, if_false, if_true, c3, c4, c7, c8] <;> omega
theorem mxW_ge {lo r : Bd} {p q : Int} (hq : 0 < q) (h1 : 0 < lo.d) (h2 : 0 < r.d) : (mxW lo r).ge p q ↔ lo.ge p q ∧ r.ge p q := by
  obtain ⟨c1, c2, c3, c4, c5, c6, c7, c8, c9, c10⟩ := cross (a := lo) (b := r) (p := p) hq h1 h2
  unfold mxW
  split
  · rename_i h
    rw [c1, c2] at h
    unfold Bd.ge
    cases hl : lo.s <;> cases hr : r.s <;> simp only [hr, Bool.false_eq_true, if_false, if_true, c3, c4, c7, c8, and_true, and_false, or_false] at h ⊢ <;> omega
  · rename_i h
    rw [c1, c2] at h
    unfold Bd.ge
    cases hl : lo.s <;> cases hr : r.s <;> simp only [hr, Bool.false_eq_true, if_false, if_true, c3, c4, c7, c8, and_true, and_false, or_false] at h ⊢ <;> omega
theorem mnR_le {hi r : Bd} {p q : Int} (hq : 0 < q) (h1 : 0 < hi.d) (h2 : 0 < r.d) : (mnR hi r).le p q ↔ hi.le p q ∧ r.le p q := by
  obtain ⟨c1, c2, c3, c4, c5, c6, c7, c8, c9, c10⟩ := cross (a := r) (b := hi) (p := p) hq h2 h1
  unfold mnR
  split
  · rename_i h
    have h := c1.1 h
    unfold Bd.le
    cases hi.s <;> cases r.s <;> simp only [Bool.false_eq_true, if_false, if_true, c5, c6, c9, c10] <;> omega
  · split
    · rename_i h
      have h := c2.1 h
      unfold Bd.le
      cases hi.s <;> cases r.s <;> simp only [Bool.or_false, Bool.or_true, Bool.false_eq_true, if_false, if_true, c5, c6, c9, c10] <;> omega
    · rename_i h h'
      have h := fun k => h (c1.2 k)
      have h' := fun k => h' (c2.2 k)
      unfold Bd.le
      cases hi.s <;> cases r.s <;> simp only [Bool.false_eq_true, if_false, if_true, c5, c6, c9, c10] <;> omega
theorem mnW_le {hi r : Bd} {p q : Int} (hq : 0 < q) (h1 : 0 < hi.d) (h2 : 0 < r.d) : (mnW hi r).le p q ↔ hi.le p q ∧ r.le p q := by
  obtain ⟨c1, c2, c3, c4, c5, c6, c7, c8, c9, c10⟩ := cross (a := r) (b := hi) (p := p) hq h2 h1
  unfold mnW
  split
  · rename_i h
    rw [c1, c2] at h
    unfold Bd.le
    cases hl : hi.s <;> cases hr : r.s <;> simp only [hr, Bool.false_eq_true, if_false, if_true, c5, c6, c9, c10, and_true, and_false, or_false] at h ⊢ <;> omega
  · rename_i h
    rw [c1, c2] at h
    unfold Bd.le
    cases hl : hi.s <;> cases hr : r.s <;> simp only [hr, Bool.false_eq_true, if_false, if_true, c5, c6, c9, c10, and_true, and_false, or_false] at h ⊢ <;> omega
theorem some_iff {lo hi : Bd} (h1 : 0 < lo.d) (h2 : 0 < hi.d) : (∃ p q, 0 < q ∧ lo.ge p q ∧ hi.le p q) ↔ lo.n * hi.d < hi.n * lo.d ∨ lo.n * hi.d = hi.n * lo.d ∧ lo.s = false ∧ hi.s = false := by
  constructor
  · rintro ⟨p, q, hq, hl, hh⟩
    obtain ⟨c1, c2, c3, c4, c5, c6, c7, c8, c9, c10⟩ := cross (a := lo) (b := hi) (p := p) hq h1 h2
    unfold Bd.ge at hl
    unfold Bd.le at hh
    rw [c1, c2]
    cases hl' : lo.s <;> cases hh' : hi.s <;> simp only [hl', hh', Bool.false_eq_true, if_false, if_true, c3, c4, c9, c10] at hl hh ⊢ <;> simp <;> omega
  · intro h
    rcases h with h | ⟨h, e1, e2⟩
    · refine ⟨lo.n * hi.d + hi.n * lo.d, 2 * (lo.d * hi.d), Int.mul_pos (by decide) (Int.mul_pos h1 h2), ?_, ?_⟩
      · have : lo.n * (2 * (lo.d * hi.d)) < (lo.n * hi.d + hi.n * lo.d) * lo.d := by
          rw [show lo.n * (2 * (lo.d * hi.d)) = (lo.n * hi.d + lo.n * hi.d) * lo.d by rw [Int.add_mul, Int.two_mul, Int.mul_add]; ac_rfl]
          exact Int.mul_lt_mul_of_pos_right (by omega) h1
        unfold Bd.ge
        split
        · exact this
        · exact Int.le_of_lt this
      · have : (lo.n * hi.d + hi.n * lo.d) * hi.d < hi.n * (2 * (lo.d * hi.d)) := by
          rw [show hi.n * (2 * (lo.d * hi.d)) = (hi.n * lo.d + hi.n * lo.d) * hi.d by rw [Int.add_mul, Int.two_mul, Int.mul_add]; ac_rfl]
          exact Int.mul_lt_mul_of_pos_right (by omega) h2
        unfold Bd.le
        split
        · exact this
        · exact Int.le_of_lt this
    · refine ⟨lo.n, lo.d, h1, ?_, ?_⟩
      · unfold Bd.ge; rw [e1]; simp
      · unfold Bd.le; rw [e2]; simp only [Bool.false_eq_true, if_false]; omega
end Go.Proofs.YtnfndiafabhhdaaGreat
/- A line from below and one from above leave some numbers g (Wear): the program's step and the reference's mean the same. Plain. -/
namespace Go.Proofs.YtnfndiafabhhdaaGreat
structure Ln where
  k : Int
  n : Int
  d : Int
  s : Bool
def lnN (l u : Ln) : Int := u.n * l.d - l.n * u.d
def lnD (l u : Ln) : Int := l.d * u.d
def Fit (l u : Ln) (p q : Int) : Prop := if l.s || u.s then (l.k - u.k) * p * lnD l u < lnN l u * q else (l.k - u.k) * p * lnD l u ≤ lnN l u * q
structure Rn where
  lo : Bd
  hi : Bd
  e : Bool
structure RnOk (r : Rn) : Prop where
  l : 0 < r.lo.d
  h : 0 < r.hi.d
def Rn.has (r : Rn) (p q : Int) : Prop := r.e = false ∧ r.lo.ge p q ∧ r.hi.le p q
def pairW (r : Rn) (l u : Ln) : Rn :=
  if l.k - u.k = 0 then { r with e := r.e || decide (lnN l u < 0) || (decide (lnN l u = 0) && (l.s || u.s)) }
  else if 0 < l.k - u.k ∧ lnN l u ≤ 0 then { r with e := true }
  else if 0 < l.k - u.k then { r with hi := mnW r.hi ⟨lnN l u, lnD l u * (l.k - u.k), l.s || u.s⟩ }
  else if lnN l u < 0 then { r with lo := mxW r.lo ⟨-lnN l u, lnD l u * -(l.k - u.k), l.s || u.s⟩ }
  else r
def pairR (r : Rn) (l u : Ln) : Rn :=
  if 0 < l.k - u.k then { r with hi := mnR r.hi ⟨lnN l u, lnD l u * (l.k - u.k), l.s || u.s⟩ }
  else if l.k - u.k < 0 then { r with lo := mxR r.lo ⟨-lnN l u, lnD l u * -(l.k - u.k), l.s || u.s⟩ }
  else { r with e := r.e || decide (lnN l u < 0) || (decide (lnN l u = 0) && (l.s || u.s)) }
theorem fit_hi {l u : Ln} {p q : Int} : Fit l u p q ↔ (Bd.mk (lnN l u) (lnD l u * (l.k - u.k)) (l.s || u.s)).le p q := by
  unfold Fit Bd.le
  rw [show (l.k - u.k) * p * lnD l u = p * (lnD l u * (l.k - u.k)) by ac_rfl]
theorem fit_lo {l u : Ln} {p q : Int} : Fit l u p q ↔ (Bd.mk (-lnN l u) (lnD l u * -(l.k - u.k)) (l.s || u.s)).ge p q := by
  unfold Fit Bd.ge
  have e1 : p * (lnD l u * -(l.k - u.k)) = -((l.k - u.k) * p * lnD l u) := by rw [Int.mul_neg, Int.mul_neg]; congr 1; ac_rfl
  have e2 : -lnN l u * q = -(lnN l u * q) := Int.neg_mul _ _
  rw [e1, e2]
  cases l.s || u.s <;> simp only [Bool.false_eq_true, if_false, if_true] <;> omega
theorem fit_0 {l u : Ln} {p q : Int} (hq : 0 < q) (h : l.k - u.k = 0) : Fit l u p q ↔ (decide (lnN l u < 0) || (decide (lnN l u = 0) && (l.s || u.s))) = false := by
  unfold Fit
  rw [h, Int.zero_mul, Int.zero_mul]
  have a : 0 < lnN l u * q ↔ 0 < lnN l u := by have := mul_lt_r (a := 0) (b := lnN l u) hq; rwa [Int.zero_mul] at this
  have b : 0 ≤ lnN l u * q ↔ 0 ≤ lnN l u := by have := mul_le_r (a := 0) (b := lnN l u) hq; rwa [Int.zero_mul] at this
  cases l.s || u.s <;> simp only [Bool.false_eq_true, if_false, if_true, a, b] <;> simp <;> omega
theorem or_false3 (a b c : Bool) : (a || b || c) = false ↔ a = false ∧ (b || c) = false := by cases a <;> cases b <;> cases c <;> decide
theorem pairR_ok {r : Rn} {l u : Ln} (h : RnOk r) (hl : 0 < l.d) (hu : 0 < u.d) : RnOk (pairR r l u) := by
  have hD : 0 < lnD l u := Int.mul_pos hl hu
  unfold pairR
  split
  · rename_i hk
    have := Int.mul_pos hD hk
    refine ⟨h.l, ?_⟩
    simp only [mnR]
    split
    · exact this
    · split <;> exact h.h
  · split
    · rename_i hk
      have : 0 < lnD l u * -(l.k - u.k) := Int.mul_pos hD (by omega)
      refine ⟨?_, h.h⟩
      simp only [mxR]
      split
      · exact this
      · split <;> exact h.l
    · exact ⟨h.l, h.h⟩
theorem pairW_ok {r : Rn} {l u : Ln} (h : RnOk r) (hl : 0 < l.d) (hu : 0 < u.d) : RnOk (pairW r l u) := by
  have hD : 0 < lnD l u := Int.mul_pos hl hu
  unfold pairW
  split
  · exact ⟨h.l, h.h⟩
  · split
    · exact ⟨h.l, h.h⟩
    · split
      · rename_i hk
        have := Int.mul_pos hD hk
        refine ⟨h.l, ?_⟩
        simp only [mnW]
        split
        · exact this
        · exact h.h
      · split
        · have : 0 < lnD l u * -(l.k - u.k) := Int.mul_pos hD (by omega)
          refine ⟨?_, h.h⟩
          simp only [mxW]
          split
          · exact this
          · exact h.l
        · exact h
theorem pairR_has {r : Rn} {l u : Ln} {p q : Int} (h : RnOk r) (hl : 0 < l.d) (hu : 0 < u.d) (hq : 0 < q) : (pairR r l u).has p q ↔ r.has p q ∧ Fit l u p q := by
  have hD : 0 < lnD l u := Int.mul_pos hl hu
  unfold pairR
  split
  · rename_i hk
    rw [fit_hi]
    simp only [Rn.has]
    rw [mnR_le hq h.h (Int.mul_pos hD hk)]
    exact ⟨fun ⟨a, b, c, d⟩ => ⟨⟨a, b, c⟩, d⟩, fun ⟨⟨a, b, c⟩, d⟩ => ⟨a, b, c, d⟩⟩
  · split
    · rename_i hk
      rw [fit_lo]
      simp only [Rn.has]
      rw [mxR_ge hq h.l (Int.mul_pos hD (by omega))]
      exact ⟨fun ⟨a, ⟨b, d⟩, c⟩ => ⟨⟨a, b, c⟩, d⟩, fun ⟨⟨a, b, c⟩, d⟩ => ⟨a, ⟨b, d⟩, c⟩⟩
    · rw [fit_0 hq (by omega)]
      simp only [Rn.has]
      rw [or_false3]
      exact ⟨fun ⟨⟨a, d⟩, b, c⟩ => ⟨⟨a, b, c⟩, d⟩, fun ⟨⟨a, b, c⟩, d⟩ => ⟨⟨a, d⟩, b, c⟩⟩
theorem pairW_has {r : Rn} {l u : Ln} {p q : Int} (h : RnOk r) (hl : 0 < l.d) (hu : 0 < u.d) (hq : 0 < q) (hp : 0 < p) : (pairW r l u).has p q ↔ r.has p q ∧ Fit l u p q := by
  have hD : 0 < lnD l u := Int.mul_pos hl hu
  unfold pairW
  split
  · rename_i hk
    rw [fit_0 hq hk]
    simp only [Rn.has]
    rw [or_false3]
    exact ⟨fun ⟨⟨a, d⟩, b, c⟩ => ⟨⟨a, b, c⟩, d⟩, fun ⟨⟨a, b, c⟩, d⟩ => ⟨⟨a, d⟩, b, c⟩⟩
  · rename_i h0
    split
    · rename_i hk
      constructor
      · rintro ⟨a, _⟩; cases a
      · rintro ⟨_, hf⟩
        exfalso
        have a : 0 < (l.k - u.k) * p * lnD l u := Int.mul_pos (Int.mul_pos hk.1 hp) hD
        have b : lnN l u * q ≤ 0 := Int.mul_nonpos_of_nonpos_of_nonneg hk.2 (Int.le_of_lt hq)
        unfold Fit at hf
        split at hf <;> omega
    · split
      · rename_i _ hk
        rw [fit_hi]
        simp only [Rn.has]
        rw [mnW_le hq h.h (Int.mul_pos hD hk)]
        exact ⟨fun ⟨a, b, c, d⟩ => ⟨⟨a, b, c⟩, d⟩, fun ⟨⟨a, b, c⟩, d⟩ => ⟨a, b, c, d⟩⟩
      · rename_i _ hk
        split
        · rw [fit_lo]
          simp only [Rn.has]
          rw [mxW_ge hq h.l (Int.mul_pos hD (by omega))]
          exact ⟨fun ⟨a, ⟨b, d⟩, c⟩ => ⟨⟨a, b, c⟩, d⟩, fun ⟨⟨a, b, c⟩, d⟩ => ⟨a, ⟨b, d⟩, c⟩⟩
        · rename_i hn
          refine ⟨fun a => ⟨a, ?_⟩, fun a => a.1⟩
          have a : 0 < -(l.k - u.k) * p * lnD l u := Int.mul_pos (Int.mul_pos (by omega) hp) hD
          have b : 0 ≤ lnN l u * q := Int.mul_nonneg (by omega) (Int.le_of_lt hq)
          rw [Int.neg_mul, Int.neg_mul] at a
          unfold Fit
          split <;> omega
def allP (f : Rn → Ln → Ln → Rn) (r : Rn) (A B : List Ln) : Rn := A.foldl (fun r l => B.foldl (fun r u => f r l u) r) r
theorem allR {B : List Ln} (hB : ∀ u ∈ B, 0 < u.d) : ∀ (A : List Ln) (r : Rn), (∀ l ∈ A, 0 < l.d) → RnOk r → RnOk (allP pairR r A B) ∧ ∀ p q, 0 < q → ((allP pairR r A B).has p q ↔ r.has p q ∧ ∀ l ∈ A, ∀ u ∈ B, Fit l u p q)
  | [], r, _, h => ⟨h, fun p q _ => by simp [allP]⟩
  | l :: A, r, hA, h => by
    have hl := hA l (by simp)
    have inner : ∀ (C : List Ln) (r : Rn), (∀ u ∈ C, 0 < u.d) → RnOk r → RnOk (C.foldl (fun r u => pairR r l u) r) ∧ ∀ p q, 0 < q → ((C.foldl (fun r u => pairR r l u) r).has p q ↔ r.has p q ∧ ∀ u ∈ C, Fit l u p q) := by
      intro C
      induction C with
      | nil => intro r _ h; exact ⟨h, fun p q _ => by simp⟩
      | cons u C ih =>
        intro r hC h
        have hu := hC u (by simp)
        obtain ⟨i1, i2⟩ := ih (pairR r l u) (fun x hx => hC x (by simp [hx])) (pairR_ok h hl hu)
        refine ⟨i1, fun p q hq => ?_⟩
        rw [List.foldl_cons, i2 p q hq, pairR_has h hl hu hq]
        simp only [List.mem_cons, forall_eq_or_imp]
        exact ⟨fun ⟨⟨a, b⟩, c⟩ => ⟨a, b, c⟩, fun ⟨a, b, c⟩ => ⟨⟨a, b⟩, c⟩⟩
    obtain ⟨j1, j2⟩ := inner B r hB h
    obtain ⟨k1, k2⟩ := allR hB A _ (fun x hx => hA x (by simp [hx])) j1
    refine ⟨k1, fun p q hq => ?_⟩
    have := k2 p q hq
    rw [show allP pairR r (l :: A) B = allP pairR (B.foldl (fun r u => pairR r l u) r) A B from rfl, this, j2 p q hq]
    simp only [List.mem_cons, forall_eq_or_imp]
    exact ⟨fun ⟨⟨a, b⟩, c⟩ => ⟨a, b, c⟩, fun ⟨a, b, c⟩ => ⟨⟨a, b⟩, c⟩⟩
theorem allW {B : List Ln} (hB : ∀ u ∈ B, 0 < u.d) : ∀ (A : List Ln) (r : Rn), (∀ l ∈ A, 0 < l.d) → RnOk r → RnOk (allP pairW r A B) ∧ ∀ p q, 0 < q → 0 < p → ((allP pairW r A B).has p q ↔ r.has p q ∧ ∀ l ∈ A, ∀ u ∈ B, Fit l u p q)
  | [], r, _, h => ⟨h, fun p q _ _ => by simp [allP]⟩
  | l :: A, r, hA, h => by
    have hl := hA l (by simp)
    have inner : ∀ (C : List Ln) (r : Rn), (∀ u ∈ C, 0 < u.d) → RnOk r → RnOk (C.foldl (fun r u => pairW r l u) r) ∧ ∀ p q, 0 < q → 0 < p → ((C.foldl (fun r u => pairW r l u) r).has p q ↔ r.has p q ∧ ∀ u ∈ C, Fit l u p q) := by
      intro C
      induction C with
      | nil => intro r _ h; exact ⟨h, fun p q _ _ => by simp⟩
      | cons u C ih =>
        intro r hC h
        have hu := hC u (by simp)
        obtain ⟨i1, i2⟩ := ih (pairW r l u) (fun x hx => hC x (by simp [hx])) (pairW_ok h hl hu)
        refine ⟨i1, fun p q hq hp => ?_⟩
        rw [List.foldl_cons, i2 p q hq hp, pairW_has h hl hu hq hp]
        simp only [List.mem_cons, forall_eq_or_imp]
        exact ⟨fun ⟨⟨a, b⟩, c⟩ => ⟨a, b, c⟩, fun ⟨a, b, c⟩ => ⟨⟨a, b⟩, c⟩⟩
    obtain ⟨j1, j2⟩ := inner B r hB h
    obtain ⟨k1, k2⟩ := allW hB A _ (fun x hx => hA x (by simp [hx])) j1
    refine ⟨k1, fun p q hq hp => ?_⟩
    have := k2 p q hq hp
    rw [show allP pairW r (l :: A) B = allP pairW (B.foldl (fun r u => pairW r l u) r) A B from rfl, this, j2 p q hq hp]
    simp only [List.mem_cons, forall_eq_or_imp]
    exact ⟨fun ⟨⟨a, b⟩, c⟩ => ⟨a, b, c⟩, fun ⟨a, b, c⟩ => ⟨⟨a, b⟩, c⟩⟩
end Go.Proofs.YtnfndiafabhhdaaGreat
/- Two narrowings that leave the same numbers g leave the same ends (Wear). Plain. -/
namespace Go.Proofs.YtnfndiafabhhdaaGreat
def Rn.some (r : Rn) : Bool := !r.e && (decide (r.lo.n * r.hi.d < r.hi.n * r.lo.d) || (decide (r.lo.n * r.hi.d = r.hi.n * r.lo.d) && !r.lo.s && !r.hi.s))
theorem Rn.some_iff {r : Rn} (h : RnOk r) : r.some = true ↔ ∃ p q, 0 < q ∧ r.has p q := by
  unfold Rn.some Rn.has
  cases he : r.e
  · simp only [Bool.not_false, Bool.true_and, true_and]
    rw [_root_.Go.Proofs.YtnfndiafabhhdaaGreat.some_iff h.l h.h]
    simp only [Bool.or_eq_true, Bool.and_eq_true, decide_eq_true_eq, Bool.not_eq_true', and_assoc]
  · simp
theorem ge_pos {b : Bd} {p q : Int} (hb : 0 < b.n) (hd : 0 < b.d) (hq : 0 < q) (h : b.ge p q) : 0 < p := by
  have a : 0 < b.n * q := Int.mul_pos hb hq
  have c : 0 < p * b.d := by
    unfold Bd.ge at h
    split at h <;> omega
  rcases Int.lt_or_le 0 p with k | k
  · exact k
  · have := Int.mul_nonpos_of_nonpos_of_nonneg k (Int.le_of_lt hd)
    omega
def Same (r r' : Rn) : Prop := ∀ p q, 0 < q → (r.has p q ↔ r'.has p q)
theorem same_some {r r' : Rn} (h : RnOk r) (h' : RnOk r') (e : Same r r') : r.some = r'.some := by
  rw [Bool.eq_iff_iff, Rn.some_iff h, Rn.some_iff h']
  exact ⟨fun ⟨p, q, hq, k⟩ => ⟨p, q, hq, (e p q hq).1 k⟩, fun ⟨p, q, hq, k⟩ => ⟨p, q, hq, (e p q hq).2 k⟩⟩
theorem some_parts {r : Rn} (h : r.some = true) : r.e = false ∧ (r.lo.n * r.hi.d < r.hi.n * r.lo.d ∨ r.lo.n * r.hi.d = r.hi.n * r.lo.d ∧ r.lo.s = false ∧ r.hi.s = false) := by
  simp only [Rn.some, Bool.and_eq_true, Bool.or_eq_true, decide_eq_true_eq, Bool.not_eq_true', and_assoc] at h
  exact h
theorem near_lo {r : Rn} (h : RnOk r) (hs : r.some = true) {c : Bd} (hc : 0 < c.d) (hlt : r.lo.n * c.d < c.n * r.lo.d) : ∃ p q, 0 < q ∧ r.has p q ∧ p * c.d < c.n * q := by
  obtain ⟨he, hh⟩ := some_parts hs
  have hd : 0 < (mnR r.hi ⟨c.n, c.d, true⟩).d := by
    unfold mnR
    split
    · exact hc
    · split <;> exact h.h
  have := (_root_.Go.Proofs.YtnfndiafabhhdaaGreat.some_iff (lo := r.lo) (hi := mnR r.hi ⟨c.n, c.d, true⟩) h.l hd).2 (by
    unfold mnR
    split
    · exact .inl hlt
    · rename_i k1
      split
      · rename_i k2
        simp only at k1 k2 ⊢
        left
        -- the two upper ends are the same
        have e1 : r.lo.n * c.d * r.hi.d < c.n * r.lo.d * r.hi.d := (mul_lt_r h.h).2 hlt
        have e2 : c.n * r.lo.d * r.hi.d = r.hi.n * r.lo.d * c.d := by
          rw [show c.n * r.lo.d * r.hi.d = c.n * r.hi.d * r.lo.d by ac_rfl, k2]; ac_rfl
        rw [e2, show r.lo.n * c.d * r.hi.d = r.lo.n * r.hi.d * c.d by ac_rfl] at e1
        exact (mul_lt_r hc).1 e1
      · exact hh)
  obtain ⟨p, q, hq, k1, k2⟩ := this
  obtain ⟨k3, k4⟩ := (mnR_le (r := ⟨c.n, c.d, true⟩) hq h.h hc).1 k2
  refine ⟨p, q, hq, ⟨he, k1, k3⟩, ?_⟩
  simpa [Bd.le] using k4
theorem near_hi {r : Rn} (h : RnOk r) (hs : r.some = true) {c : Bd} (hc : 0 < c.d) (hlt : c.n * r.hi.d < r.hi.n * c.d) : ∃ p q, 0 < q ∧ r.has p q ∧ c.n * q < p * c.d := by
  obtain ⟨he, hh⟩ := some_parts hs
  have hd : 0 < (mxR r.lo ⟨c.n, c.d, true⟩).d := by
    unfold mxR
    split
    · exact hc
    · split <;> exact h.l
  have := (_root_.Go.Proofs.YtnfndiafabhhdaaGreat.some_iff (lo := mxR r.lo ⟨c.n, c.d, true⟩) (hi := r.hi) hd h.h).2 (by
    unfold mxR
    split
    · exact .inl hlt
    · rename_i k1
      split
      · rename_i k2
        simp only at k1 k2 ⊢
        left
        have e1 : c.n * r.hi.d * r.lo.d < r.hi.n * c.d * r.lo.d := (mul_lt_r h.l).2 hlt
        have e2 : c.n * r.hi.d * r.lo.d = r.lo.n * r.hi.d * c.d := by
          rw [show c.n * r.hi.d * r.lo.d = c.n * r.lo.d * r.hi.d by ac_rfl, ← k2]; ac_rfl
        rw [e2, show r.hi.n * c.d * r.lo.d = r.hi.n * r.lo.d * c.d by ac_rfl] at e1
        exact (mul_lt_r hc).1 e1
      · exact hh)
  obtain ⟨p, q, hq, k1, k2⟩ := this
  obtain ⟨k3, k4⟩ := (mxR_ge (r := ⟨c.n, c.d, true⟩) hq h.l hc).1 k1
  refine ⟨p, q, hq, ⟨he, k3, k2⟩, ?_⟩
  simpa [Bd.ge] using k4
theorem same_lo {r r' : Rn} (h : RnOk r) (h' : RnOk r') (e : Same r r') (hs : r.some = true) : r.lo.n * r'.lo.d = r'.lo.n * r.lo.d := by
  have hs' : r'.some = true := by rw [← same_some h h' e]; exact hs
  rcases Int.lt_trichotomy (r.lo.n * r'.lo.d) (r'.lo.n * r.lo.d) with k | k | k
  · obtain ⟨p, q, hq, k1, k2⟩ := near_lo h hs (c := r'.lo) h'.l k
    have := ((e p q hq).1 k1).2.1
    unfold Bd.ge at this
    split at this <;> omega
  · exact k
  · obtain ⟨p, q, hq, k1, k2⟩ := near_lo h' hs' (c := r.lo) h.l k
    have := ((e p q hq).2 k1).2.1
    unfold Bd.ge at this
    split at this <;> omega
theorem same_hi {r r' : Rn} (h : RnOk r) (h' : RnOk r') (e : Same r r') (hs : r.some = true) : r.hi.n * r'.hi.d = r'.hi.n * r.hi.d := by
  have hs' : r'.some = true := by rw [← same_some h h' e]; exact hs
  rcases Int.lt_trichotomy (r.hi.n * r'.hi.d) (r'.hi.n * r.hi.d) with k | k | k
  · obtain ⟨p, q, hq, k1, k2⟩ := near_hi h' hs' (c := r.hi) h.h k
    have := ((e p q hq).2 k1).2.2
    unfold Bd.le at this
    split at this <;> omega
  · exact k
  · obtain ⟨p, q, hq, k1, k2⟩ := near_hi h hs (c := r'.hi) h'.h k
    have := ((e p q hq).1 k1).2.2
    unfold Bd.le at this
    split at this <;> omega
theorem pairs_same {r r' : Rn} {A B : List Ln} (h : RnOk r) (h' : RnOk r') (hp' : ∀ p q, 0 < q → r'.has p q → 0 < p) (e : Same r r') (hA : ∀ l ∈ A, 0 < l.d) (hB : ∀ u ∈ B, 0 < u.d)
    (hW : 0 < (allP pairW r A B).lo.n) : Same (allP pairW r A B) (allP pairR r' A B) := by
  obtain ⟨a1, a2⟩ := allW hB A r hA h
  obtain ⟨b1, b2⟩ := allR hB A r' hA h'
  intro p q hq
  rw [b2 p q hq]
  constructor
  · intro k
    have pp := ge_pos hW a1.l hq k.2.1
    obtain ⟨k1, k2⟩ := (a2 p q hq pp).1 k
    exact ⟨(e p q hq).1 k1, k2⟩
  · rintro ⟨k1, k2⟩
    have pp := hp' p q hq k1
    exact (a2 p q hq pp).2 ⟨(e p q hq).2 k1, k2⟩
theorem pairW_pos {r : Rn} {l u : Ln} (h : 0 < r.lo.n) : 0 < (pairW r l u).lo.n := by
  unfold pairW
  split
  · exact h
  · split
    · exact h
    · split
      · exact h
      · split
        · rename_i hn
          simp only [mxW]
          split
          · show 0 < -lnN l u
            omega
          · exact h
        · exact h
theorem allW_pos {B : List Ln} : ∀ (A : List Ln) (r : Rn), 0 < r.lo.n → 0 < (allP pairW r A B).lo.n
  | [], _, h => h
  | l :: A, r, h => by
    have inner : ∀ (C : List Ln) (r : Rn), 0 < r.lo.n → 0 < (C.foldl (fun r u => pairW r l u) r).lo.n := by
      intro C
      induction C with
      | nil => intro r h; exact h
      | cons u C ih => intro r h; exact ih _ (pairW_pos h)
    exact allW_pos A _ (inner B r h)
end Go.Proofs.YtnfndiafabhhdaaGreat
/- Further lines on what has been narrowed already; lowest terms; searches by halves (Wear). Plain. -/
namespace Go.Proofs.YtnfndiafabhhdaaGreat
theorem can_same {r r' : Rn} {A B C D : List Ln} (h : RnOk r) (h' : RnOk r') (hn : 0 < r.lo.n) (hp' : ∀ p q, 0 < q → r'.has p q → 0 < p) (e : Same r r')
    (hA : ∀ l ∈ A ++ C, 0 < l.d) (hB : ∀ u ∈ B ++ D, 0 < u.d) : Same (allP pairW (allP pairW r A B) (A ++ C) (B ++ D)) (allP pairR r' (A ++ C) (B ++ D)) := by
  have hA1 : ∀ l ∈ A, 0 < l.d := fun l k => hA l (by simp [k])
  have hB1 : ∀ u ∈ B, 0 < u.d := fun l k => hB l (by simp [k])
  obtain ⟨a1, a2⟩ := allW hB1 A r hA1 h
  obtain ⟨c1, c2⟩ := allW hB (A ++ C) _ hA a1
  obtain ⟨b1, b2⟩ := allR hB (A ++ C) r' hA h'
  have hW := allW_pos (B := B ++ D) (A ++ C) _ (allW_pos (B := B) A r hn)
  intro p q hq
  rw [b2 p q hq]
  constructor
  · intro k
    have pp := ge_pos hW c1.l hq k.2.1
    obtain ⟨k1, k2⟩ := (c2 p q hq pp).1 k
    exact ⟨(e p q hq).1 ((a2 p q hq pp).1 k1).1, k2⟩
  · rintro ⟨k1, k2⟩
    have pp := hp' p q hq k1
    exact (c2 p q hq pp).2 ⟨(a2 p q hq pp).2 ⟨(e p q hq).2 k1, fun l hl u hu => k2 l (by simp [hl]) u (by simp [hu])⟩, k2⟩
theorem lowN {n d n' d' : Nat} (hd : 0 < d) (hd' : 0 < d') (e : n * d' = n' * d) : n / Nat.gcd n d = n' / Nat.gcd n' d' ∧ d / Nat.gcd n d = d' / Nat.gcd n' d' := by
  have g1 : 0 < Nat.gcd n d := Nat.gcd_pos_of_pos_right _ hd
  have g2 : 0 < Nat.gcd n' d' := Nat.gcd_pos_of_pos_right _ hd'
  -- the greatest common divisor of n d' and d d', both ways
  have k1 : Nat.gcd (n * d') (d * d') = Nat.gcd n d * d' := Nat.gcd_mul_right n d' d
  have k2 : Nat.gcd (n' * d) (d' * d) = Nat.gcd n' d' * d := Nat.gcd_mul_right n' d d'
  have k3 : Nat.gcd n d * d' = Nat.gcd n' d' * d := by rw [← k1, ← k2, e, Nat.mul_comm d d']
  have e1 : n / Nat.gcd n d = (n * d') / (Nat.gcd n d * d') := (Nat.mul_div_mul_right _ _ hd').symm
  have e2 : n' / Nat.gcd n' d' = (n' * d) / (Nat.gcd n' d' * d) := (Nat.mul_div_mul_right _ _ hd).symm
  have e3 : d / Nat.gcd n d = (d * d') / (Nat.gcd n d * d') := (Nat.mul_div_mul_right _ _ hd').symm
  have e4 : d' / Nat.gcd n' d' = (d' * d) / (Nat.gcd n' d' * d) := (Nat.mul_div_mul_right _ _ hd).symm
  exact ⟨by rw [e1, e2, e, k3], by rw [e3, e4, k3, Nat.mul_comm d d']⟩
def lastNot (P : Int → Bool) : Nat → Int → Int → Int
  | 0, lo, _ => lo
  | f + 1, lo, hi => if lo < hi then (if P ((lo + hi + 1) / 2) then lastNot P f lo ((lo + hi + 1) / 2 - 1) else lastNot P f ((lo + hi + 1) / 2) hi) else lo
def firstNot (P : Int → Bool) : Nat → Int → Int → Int
  | 0, lo, _ => lo
  | f + 1, lo, hi => if lo < hi then (if P ((lo + hi) / 2) then firstNot P f ((lo + hi) / 2 + 1) hi else firstNot P f lo ((lo + hi) / 2)) else lo
theorem half_up (lo hi : Int) : lo + (hi - lo + 1) / 2 = (lo + hi + 1) / 2 := by omega
theorem half_dn (lo hi : Int) : lo + (hi - lo) / 2 = (lo + hi) / 2 := by omega
theorem lastNot_in (P : Int → Bool) : ∀ (f : Nat) (lo hi : Int), lo ≤ hi → lo ≤ lastNot P f lo hi ∧ lastNot P f lo hi ≤ hi
  | 0, lo, hi, h => ⟨Int.le_refl _, h⟩
  | f + 1, lo, hi, h => by
    unfold lastNot
    split
    · split
      · have := lastNot_in P f lo ((lo + hi + 1) / 2 - 1) (by omega)
        omega
      · have := lastNot_in P f ((lo + hi + 1) / 2) hi (by omega)
        omega
    · omega
theorem firstNot_in (P : Int → Bool) : ∀ (f : Nat) (lo hi : Int), lo ≤ hi → lo ≤ firstNot P f lo hi ∧ firstNot P f lo hi ≤ hi
  | 0, lo, hi, h => ⟨Int.le_refl _, h⟩
  | f + 1, lo, hi, h => by
    unfold firstNot
    split
    · split
      · have := firstNot_in P f ((lo + hi) / 2 + 1) hi (by omega)
        omega
      · have := firstNot_in P f lo ((lo + hi) / 2) (by omega)
        omega
    · omega
theorem lastNot_eq {P : Int → Bool} {x : Int} : ∀ (f : Nat) (lo hi : Int), lo ≤ x → x ≤ hi → (∀ m, lo < m → m ≤ x → P m = false) → (∀ m, x < m → m ≤ hi → P m = true) → (hi - lo).toNat < 2 ^ f → lastNot P f lo hi = x
  | 0, lo, hi, h1, h2, _, _, hf => by
    simp only [lastNot]
    simp at hf
    omega
  | f + 1, lo, hi, h1, h2, hn, hy, hf => by
    unfold lastNot
    have hp : 2 ^ (f + 1) = 2 * 2 ^ f := by rw [Nat.pow_succ]; omega
    split
    · split
      · rename_i hP
        have hx : x ≤ (lo + hi + 1) / 2 - 1 := by
          rcases Int.lt_or_le x ((lo + hi + 1) / 2) with k | k
          · omega
          · rw [hn _ (by omega) k] at hP; cases hP
        exact lastNot_eq f lo _ h1 hx hn (fun m k1 k2 => hy m k1 (by omega)) (by omega)
      · rename_i hP
        have hx : (lo + hi + 1) / 2 ≤ x := by
          rcases Int.lt_or_le x ((lo + hi + 1) / 2) with k | k
          · exact absurd (hy _ k (by omega)) hP
          · exact k
        exact lastNot_eq f _ hi hx h2 (fun m k1 k2 => hn m (by omega) k2) hy (by omega)
    · omega
theorem firstNot_eq {P : Int → Bool} {x : Int} : ∀ (f : Nat) (lo hi : Int), lo ≤ x → x ≤ hi → (∀ m, lo ≤ m → m < x → P m = true) → (∀ m, x ≤ m → m < hi → P m = false) → (hi - lo).toNat < 2 ^ f → firstNot P f lo hi = x
  | 0, lo, hi, h1, h2, _, _, hf => by
    simp only [firstNot]
    simp at hf
    omega
  | f + 1, lo, hi, h1, h2, hy, hn, hf => by
    unfold firstNot
    have hp : 2 ^ (f + 1) = 2 * 2 ^ f := by rw [Nat.pow_succ]; omega
    split
    · split
      · rename_i hP
        have hx : (lo + hi) / 2 + 1 ≤ x := by
          rcases Int.lt_or_le ((lo + hi) / 2) x with k | k
          · omega
          · rw [hn _ k (by omega)] at hP; cases hP
        exact firstNot_eq f _ hi hx h2 (fun m k1 k2 => hy m (by omega) k2) hn (by omega)
      · rename_i hP
        have hx : x ≤ (lo + hi) / 2 := by
          rcases Int.lt_or_le ((lo + hi) / 2) x with k | k
          · exact absurd (hy _ (by omega) k) hP
          · exact k
        exact firstNot_eq f lo _ h1 hx hy (fun m k1 k2 => hn m k1 (by omega)) (by omega)
    · omega
end Go.Proofs.YtnfndiafabhhdaaGreat
/- Rings of a vessel, the points of its emptying curve, the time of a level (Wear). Plain. -/
namespace Go.Proofs.YtnfndiafabhhdaaGreat
def gcdW (n d : Int) : Int := (Nat.gcd n.toNat d.toNat : Nat)
def lowN1 (n d : Int) : Int := n / gcdW n d
def lowN2 (n d : Int) : Int := d / gcdW n d
theorem low_eqv {n d n' d' : Int} (h0 : 0 ≤ n) (h0' : 0 ≤ n') (hd : 0 < d) (hd' : 0 < d') (e : n * d' = n' * d) : lowN1 n d = lowN1 n' d' ∧ lowN2 n d = lowN2 n' d' := by
  obtain ⟨a, rfl⟩ : ∃ a : Nat, n = a := ⟨n.toNat, by omega⟩
  obtain ⟨b, rfl⟩ : ∃ a : Nat, d = a := ⟨d.toNat, by omega⟩
  obtain ⟨c, rfl⟩ : ∃ a : Nat, n' = a := ⟨n'.toNat, by omega⟩
  obtain ⟨f, rfl⟩ : ∃ a : Nat, d' = a := ⟨d'.toNat, by omega⟩
  have e' : a * f = c * b := by
    have := e
    rw [← Int.natCast_mul, ← Int.natCast_mul] at this
    exact Int.ofNat_inj.1 this
  obtain ⟨k1, k2⟩ := lowN (n := a) (d := b) (n' := c) (d' := f) (by omega) (by omega) e'
  unfold lowN1 lowN2 gcdW
  simp only [Int.toNat_natCast]
  rw [← Int.natCast_ediv, ← Int.natCast_ediv, ← Int.natCast_ediv, ← Int.natCast_ediv, k1, k2]
  exact ⟨rfl, rfl⟩
theorem gcdW_pos {n d : Int} (hd : 0 < d) : 0 < gcdW n d := by
  unfold gcdW
  have : 0 < Nat.gcd n.toNat d.toNat := Nat.gcd_pos_of_pos_right _ (by omega)
  omega
theorem gcdW_dvd {n d : Int} (hn : 0 ≤ n) (hd : 0 < d) : gcdW n d ∣ n ∧ gcdW n d ∣ d := by
  unfold gcdW
  have h1 := Nat.gcd_dvd_left n.toNat d.toNat
  have h2 := Nat.gcd_dvd_right n.toNat d.toNat
  constructor
  · have := Int.natCast_dvd_natCast.2 h1; rwa [Int.toNat_of_nonneg hn] at this
  · have := Int.natCast_dvd_natCast.2 h2; rwa [Int.toNat_of_nonneg (Int.le_of_lt hd)] at this
theorem lowN_mul {n d : Int} (hn : 0 ≤ n) (hd : 0 < d) : lowN1 n d * gcdW n d = n ∧ lowN2 n d * gcdW n d = d :=
  ⟨Int.ediv_mul_cancel (gcdW_dvd hn hd).1, Int.ediv_mul_cancel (gcdW_dvd hn hd).2⟩
theorem lowN_bd {n d : Int} (hn : 0 ≤ n) (hd : 0 < d) : (0 ≤ lowN1 n d ∧ lowN1 n d ≤ n) ∧ (0 < lowN2 n d ∧ lowN2 n d ≤ d) := by
  have hg := gcdW_pos (n := n) hd
  refine ⟨⟨Int.ediv_nonneg hn (Int.le_of_lt hg), Int.ediv_le_self _ hn⟩, ?_, Int.ediv_le_self _ (Int.le_of_lt hd)⟩
  have h1 := (lowN_mul hn hd).2
  rcases Int.lt_or_le 0 (lowN2 n d) with h | h
  · exact h
  · have := Int.mul_nonpos_of_nonpos_of_nonneg h (Int.le_of_lt hg)
    omega
theorem lowN_cross {n d : Int} (hn : 0 ≤ n) (hd : 0 < d) : lowN1 n d * d = n * lowN2 n d := by
  obtain ⟨h1, h2⟩ := lowN_mul hn hd
  have : lowN1 n d * (lowN2 n d * gcdW n d) = lowN1 n d * gcdW n d * lowN2 n d := by rw [Int.mul_assoc, Int.mul_comm (gcdW n d)]
  rw [h2, h1] at this
  exact this
structure Rg where
  h : Int
  v : Int
  d : Int
def rg (l : List Rg) (i : Nat) : Rg := l[i]?.getD ⟨1, 1, 1⟩
def okRg (r : Rg) : Bool := (decide (1 ≤ r.h) && decide (r.h ≤ 1000)) && (decide (1 ≤ r.v) && decide (r.v ≤ 100000)) && (decide (1 ≤ r.d) && decide (r.d ≤ 20000))
def okFrom (l : List Rg) : Nat → Bool
  | 0 => true
  | k + 1 => okFrom l k && okRg (rg l k) && (decide (k = 0) || decide ((rg l (k - 1)).v * (rg l k).d ≤ (rg l k).v * (rg l (k - 1)).d))
def okVs (l : List Rg) : Bool := decide (1 ≤ l.length) && decide (l.length ≤ 24) && okFrom l l.length
def vX (l : List Rg) : Nat → Int
  | 0 => 0
  | k + 1 => vX l k + (rg l k).h
def vY (l : List Rg) : Nat → Int
  | 0 => 0
  | k + 1 => vY l k + (rg l k).d
def vV (l : List Rg) : Nat → Int
  | 0 => 0
  | k + 1 => vV l k + (rg l k).v
theorem okFrom_at {l : List Rg} : ∀ {n : Nat}, okFrom l n = true → ∀ i, i < n → okRg (rg l i) = true
  | 0, _, i, hi => by omega
  | n + 1, h, i, hi => by
    simp only [okFrom, Bool.and_eq_true] at h
    rcases Nat.lt_or_ge i n with k | k
    · exact okFrom_at h.1.1 i k
    · obtain rfl : i = n := by omega
      exact h.1.2
theorem okRg_bd {r : Rg} (h : okRg r = true) : (1 ≤ r.h ∧ r.h ≤ 1000) ∧ (1 ≤ r.v ∧ r.v ≤ 100000) ∧ (1 ≤ r.d ∧ r.d ≤ 20000) := by
  simp only [okRg, Bool.and_eq_true, decide_eq_true_eq] at h
  exact ⟨h.1.1, h.1.2, h.2⟩
theorem vXY_bd {l : List Rg} {n : Nat} (h : okFrom l n = true) : ∀ k : Nat, k ≤ n → ((k : Int) ≤ vX l k ∧ vX l k ≤ 1000 * (k : Int)) ∧ ((k : Int) ≤ vY l k ∧ vY l k ≤ 20000 * (k : Int)) ∧ ((k : Int) ≤ vV l k ∧ vV l k ≤ 100000 * (k : Int))
  | 0, _ => by simp [vX, vY, vV]
  | k + 1, hk => by
    have a := vXY_bd h k (by omega)
    obtain ⟨b, c, d⟩ := okRg_bd (okFrom_at h k (by omega))
    simp only [vX, vY, vV]
    omega
theorem vX_lt {l : List Rg} {n : Nat} (h : okFrom l n = true) {i j : Nat} (hij : i < j) (hj : j ≤ n) : vX l i < vX l j ∧ vY l i < vY l j := by
  induction j with
  | zero => omega
  | succ j ih =>
    obtain ⟨b, _, d⟩ := okRg_bd (okFrom_at h j (by omega))
    simp only [vX, vY]
    rcases Nat.lt_or_ge i j with k | k
    · have := ih k (by omega)
      omega
    · obtain rfl : i = j := by omega
      omega
def tN0 (l : List Rg) (i : Nat) (x : Int) : Int := vY l i * (rg l i).h + (x - vX l i) * (rg l i).d
theorem tN0_top (l : List Rg) (i : Nat) : tN0 l i (vX l (i + 1)) = vY l (i + 1) * (rg l i).h := by
  simp only [tN0, vX, vY]
  rw [show vX l i + (rg l i).h - vX l i = (rg l i).h by omega, Int.add_mul, Int.mul_comm (rg l i).d]
theorem tN0_bot (l : List Rg) (i : Nat) : tN0 l i (vX l i) = vY l i * (rg l i).h := by
  simp only [tN0]
  rw [Int.sub_self, Int.zero_mul, Int.add_zero]
theorem tN0_join {l : List Rg} {n : Nat} (h : okFrom l n = true) {i j : Nat} {x : Int} (hi : i < n) (hj : j < n) (i1 : vX l i ≤ x) (i2 : x ≤ vX l (i + 1)) (j1 : vX l j ≤ x) (j2 : x ≤ vX l (j + 1)) :
    tN0 l i x * (rg l j).h = tN0 l j x * (rg l i).h := by
  have key : ∀ a b : Nat, a < b → b < n → vX l b ≤ x → x ≤ vX l (a + 1) → tN0 l a x * (rg l b).h = tN0 l b x * (rg l a).h := by
    intro a b hab hb b1 a2
    have hx : b = a + 1 := by
      rcases Nat.lt_or_ge (a + 1) b with k | k
      · have := (vX_lt h k (by omega)).1
        omega
      · omega
    subst hx
    obtain rfl : x = vX l (a + 1) := by omega
    rw [tN0_top, tN0_bot]
    ac_rfl
  rcases Nat.lt_trichotomy i j with k | k | k
  · exact key i j k hj j1 i2
  · subst k; rfl
  · exact (key j i k hi i1 j2).symm
theorem tN0_nn {l : List Rg} {n : Nat} (h : okFrom l n = true) {i : Nat} {x : Int} (hi : i < n) (i1 : vX l i ≤ x) (i2 : x ≤ vX l (i + 1)) : 0 ≤ tN0 l i x ∧ tN0 l i x ≤ vY l (i + 1) * (rg l i).h := by
  obtain ⟨b, _, d⟩ := okRg_bd (okFrom_at h i hi)
  have a := (vXY_bd h i (by omega)).2.1
  constructor
  · unfold tN0
    have e1 := Int.mul_nonneg (show 0 ≤ vY l i by omega) (show 0 ≤ (rg l i).h by omega)
    have e2 := Int.mul_nonneg (show 0 ≤ x - vX l i by omega) (show 0 ≤ (rg l i).d by omega)
    omega
  · rw [← tN0_top]
    unfold tN0
    have := Int.mul_le_mul_of_nonneg_right (show x - vX l i ≤ vX l (i + 1) - vX l i by omega) (show 0 ≤ (rg l i).d by omega)
    omega
def ringF (l : List Rg) (x : Int) : Nat → Nat → Nat
  | 0, i => i
  | f + 1, i => if x ≤ vX l (i + 1) then i else ringF l x f (i + 1)
theorem ringF_in {l : List Rg} {x : Int} : ∀ (f i : Nat), vX l i ≤ x → x ≤ vX l (i + f) → 0 < f → i ≤ ringF l x f i ∧ ringF l x f i < i + f ∧ vX l (ringF l x f i) ≤ x ∧ x ≤ vX l (ringF l x f i + 1)
  | 0, _, _, _, h => by omega
  | f + 1, i, h1, h2, _ => by
    unfold ringF
    split
    · rename_i h
      exact ⟨Nat.le_refl _, by omega, h1, h⟩
    · rename_i h
      rcases Nat.eq_zero_or_pos f with rfl | hf
      · simp at h2; omega
      · have := ringF_in (l := l) (x := x) f (i + 1) (by omega) (by rw [show i + 1 + f = i + (f + 1) by omega]; exact h2) hf
        exact ⟨by omega, by omega, this.2.2⟩
def tmN (l : List Rg) (x : Int) : Int := lowN1 (tN0 l (ringF l x l.length 0) x) (rg l (ringF l x l.length 0)).h
def tmD (l : List Rg) (x : Int) : Int := lowN2 (tN0 l (ringF l x l.length 0) x) (rg l (ringF l x l.length 0)).h
theorem tm_at {l : List Rg} (hv : okVs l = true) {x : Int} {j : Nat} (hj : j < l.length) (j1 : vX l j ≤ x) (j2 : x ≤ vX l (j + 1)) : lowN1 (tN0 l j x) (rg l j).h = tmN l x ∧ lowN2 (tN0 l j x) (rg l j).h = tmD l x := by
  simp only [okVs, Bool.and_eq_true, decide_eq_true_eq] at hv
  obtain ⟨⟨n1, n2⟩, h⟩ := hv
  have x0 : vX l 0 ≤ x := by
    rcases Nat.eq_zero_or_pos j with rfl | k
    · exact j1
    · have := (vX_lt h k (by omega)).1
      omega
  have xn : x ≤ vX l (0 + l.length) := by
    rw [Nat.zero_add]
    rcases Nat.lt_or_ge (j + 1) l.length with k | k
    · have := (vX_lt h k (Nat.le_refl _)).1
      omega
    · rw [show l.length = j + 1 by omega]; exact j2
  obtain ⟨_, r1, r2, r3⟩ := ringF_in l.length 0 x0 xn (by omega)
  rw [Nat.zero_add] at r1
  obtain ⟨a, _, _⟩ := okRg_bd (okFrom_at h j hj)
  obtain ⟨b, _, _⟩ := okRg_bd (okFrom_at h _ r1)
  exact low_eqv (tN0_nn h hj j1 j2).1 (tN0_nn h r1 r2 r3).1 (by omega) (by omega) (tN0_join h hj r1 j1 j2 r2 r3)
theorem tm_bd {l : List Rg} (hv : okVs l = true) {x : Int} (x0 : 0 ≤ x) (xn : x ≤ vX l l.length) : (0 ≤ tmN l x ∧ tmN l x ≤ 480000000) ∧ (0 < tmD l x ∧ tmD l x ≤ 1000) := by
  simp only [okVs, Bool.and_eq_true, decide_eq_true_eq] at hv
  obtain ⟨⟨n1, n2⟩, h⟩ := hv
  obtain ⟨_, r1, r2, r3⟩ := ringF_in (l := l) (x := x) l.length 0 x0 (by rw [Nat.zero_add]; exact xn) (by omega)
  rw [Nat.zero_add] at r1
  obtain ⟨b, _, _⟩ := okRg_bd (okFrom_at h _ r1)
  obtain ⟨c1, c2⟩ := tN0_nn h r1 r2 r3
  obtain ⟨k1, k2⟩ := lowN_bd c1 (show 0 < (rg l (ringF l x l.length 0)).h by omega)
  have y := (vXY_bd h (ringF l x l.length 0 + 1) (by omega)).2.1
  have c3 := Int.mul_le_mul_of_nonneg_right (show vY l (ringF l x l.length 0 + 1) ≤ 480000 by omega) (show 0 ≤ (rg l (ringF l x l.length 0)).h by omega)
  unfold tmN tmD
  omega
end Go.Proofs.YtnfndiafabhhdaaGreat
/- Fillings, their items' lines; a set of items can be so: the program's Boolean and the reference's are one (Wear). Plain. -/
namespace Go.Proofs.YtnfndiafabhhdaaGreat
structure Lk where
  lv : Int
  er : Int
structure Sn where
  lo : Int
  hi : Int
  k : Lk
structure Fl where
  v : List Rg
  f : Lk
  wlo : Int
  whi : Int
  s : List Sn
def hgt (v : List Rg) : Int := vX v v.length
def okLk (H : Int) (k : Lk) : Bool := (decide (0 ≤ k.lv) && decide (k.lv ≤ H)) && (decide (0 ≤ k.er) && decide (k.er ≤ 1000))
def okSn (H : Int) (x : Sn) : Bool := (decide (0 ≤ x.lo) && decide (x.lo ≤ x.hi) && decide (x.hi ≤ 1048576)) && okLk H x.k
def okFl (F : Fl) : Bool := okVs F.v && okLk (hgt F.v) F.f && (decide (1 ≤ F.wlo) && decide (F.wlo ≤ F.whi) && decide (F.whi ≤ 4000)) && decide (F.s.length ≤ 24) && F.s.all (okSn (hgt F.v))
def endA (k : Lk) : Int := max 0 (k.lv - k.er)
def endB (H : Int) (k : Lk) : Int := min H (k.lv + k.er)
theorem end_in {H : Int} {k : Lk} (h : okLk H k = true) : (0 ≤ endA k ∧ endA k ≤ k.lv) ∧ (k.lv ≤ endB H k ∧ endB H k ≤ H) := by
  simp only [okLk, Bool.and_eq_true, decide_eq_true_eq] at h
  unfold endA endB
  omega
def lnT (v : List Rg) (k x : Int) (s : Bool) : Ln := ⟨k, tmN v x, tmD v x, s⟩
def sn (F : Fl) (i : Int) : Sn := F.s[i.toNat]?.getD ⟨0, 0, ⟨0, 0⟩⟩
def itemL (F : Fl) (i : Int) : List (Ln × Bool) :=
  if i = -1 then [(lnT F.v 0 (endA F.f) false, false), (lnT F.v 0 (endB (hgt F.v) F.f) false, true)]
  else (lnT F.v (sn F i).hi (endB (hgt F.v) (sn F i).k) false, true) :: (if 0 < endA (sn F i).k then [(lnT F.v (sn F i).lo (endA (sn F i).k) false, false)] else [])
def frameL (F : Fl) : List (Ln × Bool) := [(⟨0, 0, 1, false⟩, false), (lnT F.v 0 (hgt F.v) false, true)]
def linesL (F : Fl) (I : List Int) : List (Ln × Bool) := frameL F ++ I.flatMap fun i => if i = -2 then [] else itemL F i
def lows (L : List (Ln × Bool)) : List Ln := (L.filter fun x => !x.2).map (·.1)
def ups (L : List (Ln × Bool)) : List Ln := (L.filter fun x => x.2).map (·.1)
def rnW (F : Fl) (I : List Int) : Rn := I.foldl (fun r i => if i = -2 then { r with lo := mxW r.lo ⟨1000, F.whi, false⟩, hi := mnW r.hi ⟨1000, F.wlo, false⟩ } else r) ⟨⟨1, 4, false⟩, ⟨1000, 1, false⟩, false⟩
def rnR (F : Fl) (I : List Int) : Rn := I.foldl (fun r i => if i = -2 then { r with lo := mxR r.lo ⟨1000, F.whi, false⟩, hi := mnR r.hi ⟨1000, F.wlo, false⟩ } else r) ⟨⟨1000, 4000, false⟩, ⟨1000, 1, false⟩, false⟩
def leftR (r : Rn) (L : List (Ln × Bool)) : Rn := L.foldl (fun r i => L.foldl (fun r k => if (!i.2 && k.2) = true then pairR r i.1 k.1 else r) r) r
theorem inner_eq (i : Ln × Bool) : ∀ (L : List (Ln × Bool)) (r : Rn), L.foldl (fun r k => if (!i.2 && k.2) = true then pairR r i.1 k.1 else r) r = if i.2 = true then r else (ups L).foldl (fun r u => pairR r i.1 u) r
  | [], r => by simp [ups]
  | k :: L, r => by
    rw [List.foldl_cons, inner_eq i L]
    cases hi : i.2 <;> cases hk : k.2 <;> simp [ups, hk]
theorem outer_eq (U : List Ln) : ∀ (L : List (Ln × Bool)) (r : Rn), L.foldl (fun r i => if i.2 = true then r else U.foldl (fun r u => pairR r i.1 u) r) r = allP pairR r (lows L) U
  | [], r => by simp [lows, allP]
  | k :: L, r => by
    rw [List.foldl_cons, outer_eq U L]
    cases hk : k.2 <;> simp [lows, hk, allP]
theorem leftR_eq (r : Rn) (L : List (Ln × Bool)) : leftR r L = allP pairR r (lows L) (ups L) := by
  unfold leftR
  rw [show (fun (r : Rn) (i : Ln × Bool) => L.foldl (fun r k => if (!i.2 && k.2) = true then pairR r i.1 k.1 else r) r) = fun r i => if i.2 = true then r else (ups L).foldl (fun r u => pairR r i.1 u) r from by
    funext r i; exact inner_eq i L r]
  exact outer_eq (ups L) L r
structure OkF (F : Fl) : Prop where
  v : okVs F.v = true
  f : okLk (hgt F.v) F.f = true
  w1 : 1 ≤ F.wlo
  w2 : F.wlo ≤ F.whi
  w3 : F.whi ≤ 4000
  n : F.s.length ≤ 24
  s : ∀ x ∈ F.s, okSn (hgt F.v) x = true
theorem okFl_iff (F : Fl) : okFl F = true ↔ OkF F := by
  simp only [okFl, Bool.and_eq_true, decide_eq_true_eq, List.all_eq_true]
  exact ⟨fun ⟨⟨⟨⟨a, b⟩, ⟨c, d⟩, e⟩, f⟩, g⟩ => ⟨a, b, c, d, e, f, g⟩, fun ⟨a, b, c, d, e, f, g⟩ => ⟨⟨⟨⟨a, b⟩, ⟨c, d⟩, e⟩, f⟩, g⟩⟩
theorem rnW_ok {F : Fl} (h : OkF F) : ∀ (I : List Int) (r : Rn), RnOk r → 0 < r.lo.n → RnOk (I.foldl (fun r i => if i = -2 then { r with lo := mxW r.lo ⟨1000, F.whi, false⟩, hi := mnW r.hi ⟨1000, F.wlo, false⟩ } else r) r) ∧ 0 < (I.foldl (fun r i => if i = -2 then { r with lo := mxW r.lo ⟨1000, F.whi, false⟩, hi := mnW r.hi ⟨1000, F.wlo, false⟩ } else r) r).lo.n
  | [], r, k, p => ⟨k, p⟩
  | i :: I, r, k, p => by
    have h1 := h.w1
    have h2 := h.w2
    rw [List.foldl_cons]
    split
    · refine rnW_ok h I _ ⟨?_, ?_⟩ ?_
      · simp only [mxW]
        split
        · show 0 < F.whi
          omega
        · exact k.l
      · simp only [mnW]
        split
        · show 0 < F.wlo
          omega
        · exact k.h
      · simp only [mxW]
        split
        · show (0 : Int) < 1000
          decide
        · exact p
    · exact rnW_ok h I _ k p
theorem rnR_ok {F : Fl} (h : OkF F) : ∀ (I : List Int) (r : Rn), RnOk r → RnOk (I.foldl (fun r i => if i = -2 then { r with lo := mxR r.lo ⟨1000, F.whi, false⟩, hi := mnR r.hi ⟨1000, F.wlo, false⟩ } else r) r)
  | [], r, k => k
  | i :: I, r, k => by
    have h1 := h.w1
    have h2 := h.w2
    rw [List.foldl_cons]
    split
    · refine rnR_ok h I _ ⟨?_, ?_⟩
      · simp only [mxR]
        split
        · show 0 < F.whi
          omega
        · split <;> exact k.l
      · simp only [mnR]
        split
        · show 0 < F.wlo
          omega
        · split <;> exact k.h
    · exact rnR_ok h I _ k
theorem rn_step {F : Fl} (h : OkF F) : ∀ (I : List Int) (r r' : Rn), RnOk r → RnOk r' → Same r r' → Same (I.foldl (fun r i => if i = -2 then { r with lo := mxW r.lo ⟨1000, F.whi, false⟩, hi := mnW r.hi ⟨1000, F.wlo, false⟩ } else r) r) (I.foldl (fun r i => if i = -2 then { r with lo := mxR r.lo ⟨1000, F.whi, false⟩, hi := mnR r.hi ⟨1000, F.wlo, false⟩ } else r) r')
  | [], _, _, _, _, e => e
  | i :: I, r, r', k, k', e => by
    have h1 := h.w1
    have h2 := h.w2
    have a : 0 < F.whi := by omega
    have b : 0 < F.wlo := by omega
    rw [List.foldl_cons, List.foldl_cons]
    by_cases hi : i = -2
    · rw [if_pos hi, if_pos hi]
      have q1 : RnOk { r with lo := mxW r.lo ⟨1000, F.whi, false⟩, hi := mnW r.hi ⟨1000, F.wlo, false⟩ } := by
        refine ⟨?_, ?_⟩
        · simp only [mxW]
          split
          · exact a
          · exact k.l
        · simp only [mnW]
          split
          · exact b
          · exact k.h
      have q2 : RnOk { r' with lo := mxR r'.lo ⟨1000, F.whi, false⟩, hi := mnR r'.hi ⟨1000, F.wlo, false⟩ } := by
        refine ⟨?_, ?_⟩
        · simp only [mxR]
          split
          · exact a
          · split <;> exact k'.l
        · simp only [mnR]
          split
          · exact b
          · split <;> exact k'.h
      refine rn_step h I _ _ q1 q2 fun p q hq => ?_
      have e := e p q hq
      simp only [Rn.has] at e ⊢
      rw [mxW_ge hq k.l a, mnW_le hq k.h b, mxR_ge hq k'.l a, mnR_le hq k'.h b]
      exact ⟨fun ⟨u, ⟨v1, v2⟩, w1, w2⟩ => by
          obtain ⟨x, y, z⟩ := e.1 ⟨u, v1, w1⟩
          exact ⟨x, ⟨y, v2⟩, z, w2⟩,
        fun ⟨u, ⟨v1, v2⟩, w1, w2⟩ => by
          obtain ⟨x, y, z⟩ := e.2 ⟨u, v1, w1⟩
          exact ⟨x, ⟨y, v2⟩, z, w2⟩⟩
    · rw [if_neg hi, if_neg hi]
      exact rn_step h I _ _ k k' e
theorem rn_same {F : Fl} (h : OkF F) (I : List Int) : RnOk (rnW F I) ∧ 0 < (rnW F I).lo.n ∧ RnOk (rnR F I) ∧ Same (rnW F I) (rnR F I) := by
  obtain ⟨a, b⟩ := rnW_ok h I ⟨⟨1, 4, false⟩, ⟨1000, 1, false⟩, false⟩ ⟨by decide, by decide⟩ (by decide)
  refine ⟨a, b, rnR_ok h I _ ⟨by decide, by decide⟩, rn_step h I _ _ ⟨by decide, by decide⟩ ⟨by decide, by decide⟩ fun p q hq => ?_⟩
  simp only [Rn.has, Bd.ge, Bd.le, Bool.false_eq_true, if_false]
  exact ⟨fun ⟨_, a, b⟩ => ⟨trivial, by omega, by omega⟩, fun ⟨_, a, b⟩ => ⟨trivial, by omega, by omega⟩⟩
theorem lines_pos {F : Fl} (h : OkF F) {I : List Int} (hI : ∀ i ∈ I, i < F.s.length) : ∀ x ∈ linesL F I, 0 < x.1.d := by
  have H : 0 ≤ hgt F.v := by
    have hv := h.v
    simp only [okVs, Bool.and_eq_true, decide_eq_true_eq] at hv
    have := (vXY_bd hv.2 F.v.length (Nat.le_refl _)).1
    unfold hgt
    omega
  have T : ∀ k x s, 0 ≤ x → x ≤ hgt F.v → 0 < (lnT F.v k x s).d := fun k x s a b => (tm_bd h.v a b).2.1
  intro x hx
  unfold linesL at hx
  rcases List.mem_append.1 hx with hx | hx
  · simp only [frameL, List.mem_cons, List.not_mem_nil, or_false] at hx
    rcases hx with rfl | rfl
    · decide
    · exact T _ _ _ H (Int.le_refl _)
  · obtain ⟨i, hi, hx⟩ := List.mem_flatMap.1 hx
    by_cases h2 : i = -2
    · rw [if_pos h2] at hx; cases hx
    · rw [if_neg h2] at hx
      unfold itemL at hx
      split at hx
      · have e := end_in h.f
        simp only [List.mem_cons, List.not_mem_nil, or_false] at hx
        rcases hx with rfl | rfl
        · exact T _ _ _ e.1.1 (by omega)
        · exact T _ _ _ (by omega) e.2.2
      · have hk : i.toNat < F.s.length ∨ F.s.length ≤ i.toNat := Nat.lt_or_ge _ _
        have hn := hI i hi
        have ks : okLk (hgt F.v) (sn F i).k = true := by
          rcases hk with hk | hk
          · have := h.s _ (List.getElem_mem hk)
            simp only [okSn, Bool.and_eq_true] at this
            unfold sn
            rw [List.getElem?_eq_getElem hk]
            exact this.2
          · unfold sn
            rw [List.getElem?_eq_none hk]
            simp [okLk, H]
        have e := end_in ks
        simp only [List.mem_cons] at hx
        rcases hx with rfl | hx
        · exact T _ _ _ (by omega) e.2.2
        · split at hx
          · simp only [List.mem_cons, List.not_mem_nil, or_false] at hx
            subst hx
            exact T _ _ _ e.1.1 (by omega)
          · cases hx
end Go.Proofs.YtnfndiafabhhdaaGreat
/- What can be so, with a further line: one Boolean for the program and the reference; how it turns with the minutes (Wear). Plain. -/
namespace Go.Proofs.YtnfndiafabhhdaaGreat
def solvedW (F : Fl) (I : List Int) : Rn := allP pairW (rnW F I) (lows (linesL F I)) (ups (linesL F I))
def solvedR (F : Fl) (I : List Int) : Rn := leftR (rnR F I) (linesL F I)
theorem lows_pos {L : List (Ln × Bool)} (h : ∀ x ∈ L, 0 < x.1.d) : ∀ l ∈ lows L, 0 < l.d := fun l hl => by
  obtain ⟨x, hx, rfl⟩ := List.mem_map.1 hl
  exact h x (List.mem_filter.1 hx).1
theorem ups_pos {L : List (Ln × Bool)} (h : ∀ x ∈ L, 0 < x.1.d) : ∀ l ∈ ups L, 0 < l.d := fun l hl => by
  obtain ⟨x, hx, rfl⟩ := List.mem_map.1 hl
  exact h x (List.mem_filter.1 hx).1
theorem rnR_pos {F : Fl} (h : OkF F) (I : List Int) : ∀ p q, 0 < q → (rnR F I).has p q → 0 < p := fun p q hq k => by
  obtain ⟨a, b, _, e⟩ := rn_same h I
  exact ge_pos b a.l hq ((e p q hq).2 k).2.1
theorem solved_same {F : Fl} (h : OkF F) {I : List Int} (hI : ∀ i ∈ I, i < F.s.length) : RnOk (solvedW F I) ∧ RnOk (solvedR F I) ∧ 0 < (solvedW F I).lo.n ∧ Same (solvedW F I) (solvedR F I) := by
  obtain ⟨a, b, c, e⟩ := rn_same h I
  have L := lines_pos h hI
  have hW := allW_pos (B := ups (linesL F I)) (lows (linesL F I)) _ b
  refine ⟨(allW (ups_pos L) _ _ (lows_pos L) a).1, ?_, hW, ?_⟩
  · unfold solvedR
    rw [leftR_eq]
    exact (allR (ups_pos L) _ _ (lows_pos L) c).1
  · unfold solvedR
    rw [leftR_eq]
    exact pairs_same a c (rnR_pos h I) e (lows_pos L) (ups_pos L) hW
def canI (F : Fl) (I : List Int) : Bool := (solvedW F I).some
theorem canI_R {F : Fl} (h : OkF F) {I : List Int} (hI : ∀ i ∈ I, i < F.s.length) : (solvedR F I).some = canI F I := by
  obtain ⟨a, b, _, e⟩ := solved_same h hI
  exact (same_some a b e).symm
def moreW (F : Fl) (I : List Int) (x : Ln × Bool) : Rn := allP pairW (solvedW F I) (lows (linesL F I) ++ lows [x]) (ups (linesL F I) ++ ups [x])
def moreR (F : Fl) (I : List Int) (x : Ln × Bool) : Rn := leftR (rnR F I) (linesL F I ++ [x])
def canM (F : Fl) (I : List Int) (x : Ln × Bool) : Bool := (moreW F I x).some
theorem lows_app (L M : List (Ln × Bool)) : lows (L ++ M) = lows L ++ lows M := by simp [lows]
theorem ups_app (L M : List (Ln × Bool)) : ups (L ++ M) = ups L ++ ups M := by simp [ups]
theorem moreW_same {F : Fl} (h : OkF F) {I : List Int} (hI : ∀ i ∈ I, i < F.s.length) {x : Ln × Bool} (hx : 0 < x.1.d) :
    RnOk (moreW F I x) ∧ RnOk (moreR F I x) ∧ Same (moreW F I x) (moreR F I x) ∧
    ∀ p q, 0 < q → ((moreR F I x).has p q ↔ (rnR F I).has p q ∧ ∀ l ∈ lows (linesL F I) ++ lows [x], ∀ u ∈ ups (linesL F I) ++ ups [x], Fit l u p q) := by
  obtain ⟨a, b, c, e⟩ := rn_same h I
  have L : ∀ y ∈ linesL F I ++ [x], 0 < y.1.d := fun y hy => by
    rcases List.mem_append.1 hy with k | k
    · exact lines_pos h hI y k
    · obtain rfl : y = x := by simpa using k
      exact hx
  have hA : ∀ l ∈ lows (linesL F I) ++ lows [x], 0 < l.d := by rw [← lows_app]; exact lows_pos L
  have hB : ∀ l ∈ ups (linesL F I) ++ ups [x], 0 < l.d := by rw [← ups_app]; exact ups_pos L
  obtain ⟨s1, _, _, _⟩ := solved_same h hI
  unfold moreR
  rw [leftR_eq, lows_app, ups_app]
  exact ⟨(allW hB _ _ hA s1).1, (allR hB _ _ hA c).1, can_same a c b (rnR_pos h I) e hA hB, (allR hB _ _ hA c).2⟩
theorem canM_R {F : Fl} (h : OkF F) {I : List Int} (hI : ∀ i ∈ I, i < F.s.length) {x : Ln × Bool} (hx : 0 < x.1.d) : (moreR F I x).some = canM F I x := by
  obtain ⟨a, b, e, _⟩ := moreW_same h hI hx
  exact (same_some a b e).symm
theorem canM_iff {F : Fl} (h : OkF F) {I : List Int} (hI : ∀ i ∈ I, i < F.s.length) {x : Ln × Bool} (hx : 0 < x.1.d) :
    canM F I x = true ↔ ∃ p q, 0 < q ∧ 0 < p ∧ (rnR F I).has p q ∧ ∀ l ∈ lows (linesL F I) ++ lows [x], ∀ u ∈ ups (linesL F I) ++ ups [x], Fit l u p q := by
  obtain ⟨a, b, e, m⟩ := moreW_same h hI hx
  rw [← canM_R h hI hx, Rn.some_iff b]
  constructor
  · rintro ⟨p, q, hq, k⟩
    obtain ⟨k1, k2⟩ := (m p q hq).1 k
    exact ⟨p, q, hq, rnR_pos h I p q hq k1, k1, k2⟩
  · rintro ⟨p, q, hq, _, k1, k2⟩
    exact ⟨p, q, hq, (m p q hq).2 ⟨k1, k2⟩⟩
theorem fit_up {l : Ln} {k k' n d : Int} {s : Bool} {p q : Int} (hl : 0 < l.d) (hd : 0 < d) (hp : 0 < p) (hk : k ≤ k') (h : Fit l ⟨k, n, d, s⟩ p q) : Fit l ⟨k', n, d, s⟩ p q := by
  have D : 0 < lnD l ⟨k, n, d, s⟩ := Int.mul_pos hl hd
  have := Int.mul_le_mul_of_nonneg_right (Int.mul_le_mul_of_nonneg_right (show l.k - k' ≤ l.k - k by omega) (Int.le_of_lt hp)) (Int.le_of_lt D)
  unfold Fit at h ⊢
  simp only [lnD, lnN] at h this ⊢
  split at h
  · rename_i c
    rw [if_pos c]; omega
  · rename_i c
    rw [if_neg c]; omega
theorem fit_dn {u : Ln} {k k' n d : Int} {s : Bool} {p q : Int} (hu : 0 < u.d) (hd : 0 < d) (hp : 0 < p) (hk : k' ≤ k) (h : Fit ⟨k, n, d, s⟩ u p q) : Fit ⟨k', n, d, s⟩ u p q := by
  have D : 0 < lnD ⟨k, n, d, s⟩ u := Int.mul_pos hd hu
  have := Int.mul_le_mul_of_nonneg_right (Int.mul_le_mul_of_nonneg_right (show k' - u.k ≤ k - u.k by omega) (Int.le_of_lt hp)) (Int.le_of_lt D)
  unfold Fit at h ⊢
  simp only [lnD, lnN] at h this ⊢
  split at h
  · rename_i c
    rw [if_pos c]; omega
  · rename_i c
    rw [if_neg c]; omega
theorem under_mono {F : Fl} (h : OkF F) {I : List Int} (hI : ∀ i ∈ I, i < F.s.length) {k k' n d : Int} {s : Bool} (hd : 0 < d) (hk : k ≤ k') (hc : canM F I (⟨k, n, d, s⟩, true) = true) : canM F I (⟨k', n, d, s⟩, true) = true := by
  rw [canM_iff h hI hd] at hc ⊢
  obtain ⟨p, q, hq, hp, k1, k2⟩ := hc
  have L := lows_pos (lines_pos h hI)
  refine ⟨p, q, hq, hp, k1, fun l hl u hu => ?_⟩
  have e1 : lows [((⟨k, n, d, s⟩ : Ln), true)] = [] := rfl
  have e1' : lows [((⟨k', n, d, s⟩ : Ln), true)] = [] := rfl
  have e2 : ups [((⟨k, n, d, s⟩ : Ln), true)] = [⟨k, n, d, s⟩] := rfl
  have e2' : ups [((⟨k', n, d, s⟩ : Ln), true)] = [⟨k', n, d, s⟩] := rfl
  rw [e1, e2, List.append_nil] at k2
  rw [e1', List.append_nil] at hl
  rw [e2'] at hu
  rcases List.mem_append.1 hu with hu | hu
  · exact k2 l hl u (List.mem_append.2 (.inl hu))
  · obtain rfl : u = ⟨k', n, d, s⟩ := by simpa using hu
    exact fit_up (L l hl) hd hp hk (k2 l hl _ (List.mem_append.2 (.inr (by simp))))
theorem over_mono {F : Fl} (h : OkF F) {I : List Int} (hI : ∀ i ∈ I, i < F.s.length) {k k' n d : Int} {s : Bool} (hd : 0 < d) (hk : k' ≤ k) (hc : canM F I (⟨k, n, d, s⟩, false) = true) : canM F I (⟨k', n, d, s⟩, false) = true := by
  rw [canM_iff h hI hd] at hc ⊢
  obtain ⟨p, q, hq, hp, k1, k2⟩ := hc
  have L := ups_pos (lines_pos h hI)
  refine ⟨p, q, hq, hp, k1, fun l hl u hu => ?_⟩
  have e1 : lows [((⟨k, n, d, s⟩ : Ln), false)] = [⟨k, n, d, s⟩] := rfl
  have e1' : lows [((⟨k', n, d, s⟩ : Ln), false)] = [⟨k', n, d, s⟩] := rfl
  have e2 : ups [((⟨k, n, d, s⟩ : Ln), false)] = [] := rfl
  have e2' : ups [((⟨k', n, d, s⟩ : Ln), false)] = [] := rfl
  rw [e1, e2, List.append_nil] at k2
  rw [e2', List.append_nil] at hu
  rw [e1'] at hl
  rcases List.mem_append.1 hl with hl | hl
  · exact k2 l (List.mem_append.2 (.inl hl)) u hu
  · obtain rfl : l = ⟨k', n, d, s⟩ := by simpa using hl
    exact fit_dn (L u hu) hd hp hk (k2 _ (List.mem_append.2 (.inr (by simp))) u hu)
end Go.Proofs.YtnfndiafabhhdaaGreat
/- The searches of Seen agree; bounds of the wear agree (Wear). Plain. -/
namespace Go.Proofs.YtnfndiafabhhdaaGreat
theorem lastNot_spec {P : Int → Bool} (mono : ∀ m m', m ≤ m' → P m = true → P m' = true) : ∀ (f : Nat) (lo hi : Int), lo ≤ hi → (hi - lo).toNat < 2 ^ f → (∀ m, lo < m → m ≤ lastNot P f lo hi → P m = false) ∧ (∀ m, lastNot P f lo hi < m → m ≤ hi → P m = true)
  | 0, lo, hi, h, hf => by
    simp only [lastNot]
    simp at hf
    exact ⟨fun m a b => by omega, fun m a b => by omega⟩
  | f + 1, lo, hi, h, hf => by
    have hp : 2 ^ (f + 1) = 2 * 2 ^ f := by rw [Nat.pow_succ]; omega
    unfold lastNot
    split
    · split
      · rename_i hP
        obtain ⟨a, b⟩ := lastNot_spec mono f lo ((lo + hi + 1) / 2 - 1) (by omega) (by omega)
        refine ⟨a, fun m k1 k2 => ?_⟩
        rcases Int.lt_or_le m ((lo + hi + 1) / 2) with k | k
        · exact b m k1 (by omega)
        · exact mono _ _ k hP
      · rename_i hP
        have hP : P ((lo + hi + 1) / 2) = false := by simpa using hP
        obtain ⟨a, b⟩ := lastNot_spec mono f ((lo + hi + 1) / 2) hi (by omega) (by omega)
        refine ⟨fun m k1 k2 => ?_, b⟩
        rcases Int.lt_or_le ((lo + hi + 1) / 2) m with k | k
        · exact a m k k2
        · cases e : P m with
          | false => rfl
          | true => rw [mono _ _ k e] at hP; cases hP
    · exact ⟨fun m a b => by omega, fun m a b => by omega⟩
theorem firstNot_spec {P : Int → Bool} (mono : ∀ m m', m ≤ m' → P m' = true → P m = true) : ∀ (f : Nat) (lo hi : Int), lo ≤ hi → (hi - lo).toNat < 2 ^ f → (∀ m, lo ≤ m → m < firstNot P f lo hi → P m = true) ∧ (∀ m, firstNot P f lo hi ≤ m → m < hi → P m = false)
  | 0, lo, hi, h, hf => by
    simp only [firstNot]
    simp at hf
    exact ⟨fun m a b => by omega, fun m a b => by omega⟩
  | f + 1, lo, hi, h, hf => by
    have hp : 2 ^ (f + 1) = 2 * 2 ^ f := by rw [Nat.pow_succ]; omega
    unfold firstNot
    split
    · split
      · rename_i hP
        obtain ⟨a, b⟩ := firstNot_spec mono f ((lo + hi) / 2 + 1) hi (by omega) (by omega)
        refine ⟨fun m k1 k2 => ?_, b⟩
        rcases Int.lt_or_le ((lo + hi) / 2) m with k | k
        · exact a m (by omega) k2
        · exact mono _ _ k hP
      · rename_i hP
        have hP : P ((lo + hi) / 2) = false := by simpa using hP
        obtain ⟨a, b⟩ := firstNot_spec mono f lo ((lo + hi) / 2) (by omega) (by omega)
        refine ⟨a, fun m k1 k2 => ?_⟩
        rcases Int.lt_or_le m ((lo + hi) / 2) with k | k
        · exact b m k1 k
        · cases e : P m with
          | false => rfl
          | true => rw [mono _ _ k e] at hP; cases hP
    · exact ⟨fun m a b => by omega, fun m a b => by omega⟩
theorem seen_lo {U : Int → Bool} (mono : ∀ m m', m ≤ m' → U m = true → U m' = true) {lo hi : Int} (h0 : 0 ≤ lo) (h1 : lo ≤ hi) (h2 : hi ≤ 1048576) (he : U (hi + 1) = true) :
    max lo (lastNot (fun m => decide (0 < m) && U m) 22 0 2097152) = lastNot U 21 lo hi := by
  obtain ⟨a, b⟩ := lastNot_spec mono 21 lo hi h1 (by omega)
  obtain ⟨i1, i2⟩ := lastNot_in U 21 lo hi h1
  have mono2 : ∀ m m', m ≤ m' → (decide (0 < m) && U m) = true → (decide (0 < m') && U m') = true := fun m m' k h => by
    simp only [Bool.and_eq_true, decide_eq_true_eq] at h ⊢
    exact ⟨by omega, mono m m' k h.2⟩
  obtain ⟨c, d⟩ := lastNot_spec mono2 22 0 2097152 (by omega) (by omega)
  obtain ⟨j1, j2⟩ := lastNot_in (fun m => decide (0 < m) && U m) 22 0 2097152 (by omega)
  generalize lastNot U 21 lo hi = x at *
  generalize lastNot (fun m => decide (0 < m) && U m) 22 0 2097152 = y at *
  -- behind x it is so
  have up : ∀ m, x < m → U m = true := fun m k => by
    rcases Int.lt_or_le hi m with k' | k'
    · exact mono (hi + 1) m (by omega) he
    · exact b m k k'
  have y1 : y ≤ x := by
    rcases Int.lt_or_le x y with k | k
    · have h := c y (by omega) (Int.le_refl _)
      rw [up y k] at h
      simp at h
      omega
    · exact k
  rcases Int.lt_or_le lo x with k | k
  · have x1 : x ≤ y := by
      rcases Int.lt_or_le y x with k' | k'
      · have h := d x k' (by omega)
        have h' := a x k (Int.le_refl _)
        simp [h'] at h
      · exact k'
    omega
  · omega
theorem seen_hi {V : Int → Bool} (mono : ∀ m m', m ≤ m' → V m' = true → V m = true) {lo hi : Int} (h0 : 0 ≤ lo) (h1 : lo ≤ hi) (h2 : hi ≤ 1048576) (he : V (lo - 1) = true) :
    min hi (firstNot V 22 0 2097152) = firstNot V 21 lo hi := by
  obtain ⟨a, b⟩ := firstNot_spec mono 21 lo hi h1 (by omega)
  obtain ⟨i1, i2⟩ := firstNot_in V 21 lo hi h1
  obtain ⟨c, d⟩ := firstNot_spec mono 22 0 2097152 (by omega) (by omega)
  obtain ⟨j1, j2⟩ := firstNot_in V 22 0 2097152 (by omega)
  generalize firstNot V 21 lo hi = x at *
  generalize firstNot V 22 0 2097152 = y at *
  have y1 : lo ≤ y := by
    rcases Int.lt_or_le y lo with k | k
    · have h := d y (Int.le_refl _) (by omega)
      rw [mono y (lo - 1) (by omega) he] at h
      cases h
    · exact k
  rcases Int.lt_or_le x hi with k | k
  · have h := b x (Int.le_refl _) k
    have y2 : y ≤ x := by
      rcases Int.lt_or_le x y with k' | k'
      · rw [c x (by omega) k'] at h; cases h
      · exact k'
    have x2 : x ≤ y := by
      rcases Int.lt_or_le y x with k' | k'
      · have h := d y (Int.le_refl _) (by omega)
        rw [a y y1 k'] at h; cases h
      · exact k'
    omega
  · have y2 : hi ≤ y := by
      rcases Int.lt_or_le y hi with k' | k'
      · have h := d y (Int.le_refl _) (by omega)
        rw [a y y1 (by omega)] at h; cases h
      · exact k'
    omega
theorem fit_up_strict {l : Ln} {k k' n d : Int} {s : Bool} {p q : Int} (hl : 0 < l.d) (hd : 0 < d) (hp : 0 < p) (hk : k < k') (h : Fit l ⟨k, n, d, s⟩ p q) : Fit l ⟨k', n, d, true⟩ p q := by
  have D : 0 < lnD l ⟨k, n, d, s⟩ := Int.mul_pos hl hd
  have := Int.mul_lt_mul_of_pos_right (Int.mul_lt_mul_of_pos_right (show l.k - k' < l.k - k by omega) hp) D
  unfold Fit at h ⊢
  simp only [lnD, lnN] at h this ⊢
  rw [if_pos (by simp)]
  split at h <;> omega
theorem fit_dn_strict {u : Ln} {k k' n d : Int} {s : Bool} {p q : Int} (hu : 0 < u.d) (hd : 0 < d) (hp : 0 < p) (hk : k' < k) (h : Fit ⟨k, n, d, s⟩ u p q) : Fit ⟨k', n, d, true⟩ u p q := by
  have D : 0 < lnD ⟨k, n, d, s⟩ u := Int.mul_pos hd hu
  have := Int.mul_lt_mul_of_pos_right (Int.mul_lt_mul_of_pos_right (show k' - u.k < k - u.k by omega) hp) D
  unfold Fit at h ⊢
  simp only [lnD, lnN] at h this ⊢
  rw [if_pos (by simp)]
  split at h <;> omega
theorem canI_iff {F : Fl} (h : OkF F) {I : List Int} (hI : ∀ i ∈ I, i < F.s.length) :
    canI F I = true ↔ ∃ p q, 0 < q ∧ 0 < p ∧ (rnR F I).has p q ∧ ∀ l ∈ lows (linesL F I), ∀ u ∈ ups (linesL F I), Fit l u p q := by
  obtain ⟨_, _, c, _⟩ := rn_same h I
  obtain ⟨_, b, _, _⟩ := solved_same h hI
  have L := lines_pos h hI
  rw [← canI_R h hI, Rn.some_iff b]
  unfold solvedR
  rw [leftR_eq]
  have m := (allR (ups_pos L) (lows (linesL F I)) (rnR F I) (lows_pos L) c).2
  constructor
  · rintro ⟨p, q, hq, k⟩
    obtain ⟨k1, k2⟩ := (m p q hq).1 k
    exact ⟨p, q, hq, rnR_pos h I p q hq k1, k1, k2⟩
  · rintro ⟨p, q, hq, _, k1, k2⟩
    exact ⟨p, q, hq, (m p q hq).2 ⟨k1, k2⟩⟩
theorem under_after {F : Fl} (h : OkF F) {I : List Int} (hI : ∀ i ∈ I, i < F.s.length) {k k' n d : Int} {s : Bool} (hd : 0 < d) (hk : k < k') (hm : (⟨k, n, d, s⟩ : Ln) ∈ ups (linesL F I)) (hc : canI F I = true) : canM F I (⟨k', n, d, true⟩, true) = true := by
  rw [canI_iff h hI] at hc
  rw [canM_iff h hI hd]
  obtain ⟨p, q, hq, hp, k1, k2⟩ := hc
  have L := lows_pos (lines_pos h hI)
  refine ⟨p, q, hq, hp, k1, fun l hl u hu => ?_⟩
  have e1 : lows [((⟨k', n, d, true⟩ : Ln), true)] = [] := rfl
  have e2 : ups [((⟨k', n, d, true⟩ : Ln), true)] = [⟨k', n, d, true⟩] := rfl
  rw [e1, List.append_nil] at hl
  rw [e2] at hu
  rcases List.mem_append.1 hu with hu | hu
  · exact k2 l hl u hu
  · obtain rfl : u = ⟨k', n, d, true⟩ := by simpa using hu
    exact fit_up_strict (L l hl) hd hp hk (k2 l hl _ hm)
theorem over_before {F : Fl} (h : OkF F) {I : List Int} (hI : ∀ i ∈ I, i < F.s.length) {k k' n d : Int} {s : Bool} (hd : 0 < d) (hk : k' < k) (hm : (⟨k, n, d, s⟩ : Ln) ∈ lows (linesL F I)) (hc : canI F I = true) : canM F I (⟨k', n, d, true⟩, false) = true := by
  rw [canI_iff h hI] at hc
  rw [canM_iff h hI hd]
  obtain ⟨p, q, hq, hp, k1, k2⟩ := hc
  have L := ups_pos (lines_pos h hI)
  refine ⟨p, q, hq, hp, k1, fun l hl u hu => ?_⟩
  have e1 : lows [((⟨k', n, d, true⟩ : Ln), false)] = [⟨k', n, d, true⟩] := rfl
  have e2 : ups [((⟨k', n, d, true⟩ : Ln), false)] = [] := rfl
  rw [e2, List.append_nil] at hu
  rw [e1] at hl
  rcases List.mem_append.1 hl with hl | hl
  · exact k2 l hl u hu
  · obtain rfl : l = ⟨k', n, d, true⟩ := by simpa using hl
    exact fit_dn_strict (L u hu) hd hp hk (k2 _ hm u hu)
theorem wear_eq {a b : Bd} (ha : 0 < a.d) (hb : 0 < b.d) (na : 0 < a.n) (e : a.n * b.d = b.n * a.d) :
    lowN1 (1000 * a.d) a.n = lowN1 (1000 * lowN2 b.n b.d) (lowN1 b.n b.d) ∧ lowN2 (1000 * a.d) a.n = lowN2 (1000 * lowN2 b.n b.d) (lowN1 b.n b.d) := by
  have nb : 0 < b.n := by
    have := Int.mul_pos na hb
    rcases Int.lt_or_le 0 b.n with k | k
    · exact k
    · have := Int.mul_nonpos_of_nonpos_of_nonneg k (Int.le_of_lt ha)
      omega
  obtain ⟨⟨l1, _⟩, l2, _⟩ := lowN_bd (Int.le_of_lt nb) hb
  have c := lowN_cross (Int.le_of_lt nb) hb
  have l3 : 0 < lowN1 b.n b.d := by
    have := Int.mul_pos nb l2
    rcases Int.lt_or_le 0 (lowN1 b.n b.d) with k | k
    · exact k
    · have := Int.mul_nonpos_of_nonpos_of_nonneg k (Int.le_of_lt hb)
      omega
  refine low_eqv (by omega) (by omega) na l3 ?_
  have key : a.d * lowN1 b.n b.d = lowN2 b.n b.d * a.n := by
    apply Int.eq_of_mul_eq_mul_right (show b.d ≠ 0 by omega)
    calc a.d * lowN1 b.n b.d * b.d = a.d * (lowN1 b.n b.d * b.d) := by rw [Int.mul_assoc]
      _ = a.d * (b.n * lowN2 b.n b.d) := by rw [c]
      _ = b.n * a.d * lowN2 b.n b.d := by ac_rfl
      _ = a.n * b.d * lowN2 b.n b.d := by rw [e]
      _ = lowN2 b.n b.d * a.n * b.d := by ac_rfl
  rw [Int.mul_assoc, key, Int.mul_assoc]
end Go.Proofs.YtnfndiafabhhdaaGreat
/- Sinks by division and by search; a case at one g (Wear). Plain. -/
namespace Go.Proofs.YtnfndiafabhhdaaGreat
theorem sink_lo {n d gn gd M : Int} (hn : 0 ≤ n) (hd : 0 < d) (gn0 : 0 < gn) (gd0 : 0 < gd) (f : Nat) (hM : n * gd / (d * gn) ≤ M) (hM0 : 0 ≤ M) (hf : M.toNat < 2 ^ f) :
    lastNot (fun m => !decide (gn * (d * m) ≤ n * gd)) f 0 M = n * gd / (d * gn) := by
  have D : 0 < d * gn := Int.mul_pos hd gn0
  have N : 0 ≤ n * gd := Int.mul_nonneg hn (Int.le_of_lt gd0)
  have key : ∀ m : Int, gn * (d * m) ≤ n * gd ↔ m ≤ n * gd / (d * gn) := fun m => by
    rw [Int.le_ediv_iff_mul_le D, show gn * (d * m) = m * (d * gn) by ac_rfl]
  refine lastNot_eq f 0 M (Int.ediv_nonneg N (Int.le_of_lt D)) hM (fun m _ k => ?_) (fun m k _ => ?_) (by omega)
  · simp only [Bool.not_eq_false', decide_eq_true_eq]
    exact (key m).2 k
  · simp only [Bool.not_eq_true', decide_eq_false_iff_not]
    intro c
    have := (key m).1 c
    omega
theorem sink_hi {n d gn gd M : Int} (hn : 0 < n) (hd : 0 < d) (gn0 : 0 < gn) (gd0 : 0 < gd) (f : Nat) (hM : (n * gd + (d * gn - 1)) / (d * gn) ≤ M) (hf : M.toNat < 2 ^ f) :
    firstNot (fun m => !(decide (0 < m) && decide (n * gd ≤ gn * (d * m)))) f 0 M = (n * gd + (d * gn - 1)) / (d * gn) := by
  have D : 0 < d * gn := Int.mul_pos hd gn0
  have N : 0 < n * gd := Int.mul_pos hn gd0
  have key : ∀ m : Int, n * gd ≤ gn * (d * m) ↔ (n * gd + (d * gn - 1)) / (d * gn) ≤ m := fun m => by
    rw [show gn * (d * m) = d * gn * m by ac_rfl]
    have a := Int.lt_mul_ediv_self_add (x := n * gd + (d * gn - 1)) (k := d * gn) D
    have b := Int.mul_ediv_self_le (x := n * gd + (d * gn - 1)) (k := d * gn) (by omega)
    generalize (n * gd + (d * gn - 1)) / (d * gn) = x at *
    constructor
    · intro h
      rcases Int.lt_or_le m x with k | k
      · have := Int.mul_le_mul_of_nonneg_left (show m ≤ x - 1 by omega) (Int.le_of_lt D)
        rw [Int.mul_sub, Int.mul_one] at this
        omega
      · exact k
    · intro h
      have := Int.mul_le_mul_of_nonneg_left h (Int.le_of_lt D)
      omega
  have x1 : 1 ≤ (n * gd + (d * gn - 1)) / (d * gn) := by
    rw [Int.le_ediv_iff_mul_le D]
    omega
  refine firstNot_eq f 0 M (by omega) hM (fun m k0 k => ?_) (fun m k _ => ?_) (by omega)
  · have : ¬ n * gd ≤ gn * (d * m) := fun c => by
      have := (key m).1 c
      omega
    simp [this]
  · have c := (key m).2 k
    have c0 : 0 < m := by omega
    simp [c, c0]
theorem up_div {a b : Int} (hb : 0 < b) : (a + (b - 1)) / b = a / b + (if a % b = 0 then 0 else 1) := by
  have h1 := Int.mul_ediv_add_emod a b
  have h2 := Int.emod_nonneg a (show b ≠ 0 by omega)
  have h3 := Int.emod_lt_of_pos a hb
  split
  · rename_i h
    rw [show a + (b - 1) = (b - 1) + b * (a / b) by omega, Int.add_mul_ediv_left _ _ (by omega), Int.ediv_eq_zero_of_lt (by omega) (by omega)]
    omega
  · rename_i h
    rw [show a + (b - 1) = (a % b - 1) + b * (a / b + 1) by rw [Int.mul_add]; omega, Int.add_mul_ediv_left _ _ (by omega), Int.ediv_eq_zero_of_lt (by omega) (by omega)]
    omega
theorem fit_trans {l x u : Ln} {p q : Int} (hl : 0 < l.d) (hx : 0 < x.d) (hu : 0 < u.d) (sl : l.s = false) (sx : x.s = false) (su : u.s = false) (h1 : Fit l x p q) (h2 : Fit x u p q) : Fit l u p q := by
  unfold Fit at h1 h2 ⊢
  rw [if_neg (by simp [sl, sx])] at h1
  rw [if_neg (by simp [sx, su])] at h2
  rw [if_neg (by simp [sl, su])]
  simp only [lnD, lnN] at h1 h2 ⊢
  have a := Int.mul_le_mul_of_nonneg_right h1 (Int.le_of_lt hu)
  have b := Int.mul_le_mul_of_nonneg_right h2 (Int.le_of_lt hl)
  have e1 : (l.k - x.k) * p * (l.d * x.d) * u.d = (l.k - x.k) * p * (l.d * u.d) * x.d := by ac_rfl
  have e2 : (x.k - u.k) * p * (x.d * u.d) * l.d = (x.k - u.k) * p * (l.d * u.d) * x.d := by ac_rfl
  have e3 : (l.k - x.k) * p * (l.d * u.d) * x.d + (x.k - u.k) * p * (l.d * u.d) * x.d = (l.k - u.k) * p * (l.d * u.d) * x.d := by
    rw [← Int.add_mul, ← Int.add_mul, ← Int.add_mul, show l.k - x.k + (x.k - u.k) = l.k - u.k by omega]
  have e4 : (x.n * l.d - l.n * x.d) * q * u.d + (u.n * x.d - x.n * u.d) * q * l.d = (u.n * l.d - l.n * u.d) * q * x.d := by
    simp only [Int.sub_mul]
    have f1 : x.n * l.d * q * u.d = x.n * u.d * q * l.d := by ac_rfl
    have f2 : l.n * x.d * q * u.d = l.n * u.d * q * x.d := by ac_rfl
    have f3 : u.n * x.d * q * l.d = u.n * l.d * q * x.d := by ac_rfl
    omega
  refine (mul_le_r hx).1 ?_
  omega
theorem fit_self {x : Ln} {p q : Int} (sx : x.s = false) : Fit x x p q := by
  unfold Fit
  rw [if_neg (by simp [sx])]
  simp only [lnN]
  rw [Int.sub_self, Int.zero_mul, Int.zero_mul, Int.sub_self, Int.zero_mul]
  omega
theorem case_iff {A B : List Ln} {x : Ln} {p q : Int} (hA : ∀ l ∈ A, 0 < l.d ∧ l.s = false) (hB : ∀ u ∈ B, 0 < u.d ∧ u.s = false) (hx : 0 < x.d ∧ x.s = false) :
    (∀ l ∈ A ++ [x], ∀ u ∈ B ++ [x], Fit l u p q) ↔ (∀ l ∈ A, Fit l x p q) ∧ ∀ u ∈ B, Fit x u p q := by
  constructor
  · intro h
    exact ⟨fun l hl => h l (List.mem_append.2 (.inl hl)) x (List.mem_append.2 (.inr (by simp))), fun u hu => h x (List.mem_append.2 (.inr (by simp))) u (List.mem_append.2 (.inl hu))⟩
  · rintro ⟨h1, h2⟩ l hl u hu
    have hl' : l ∈ A ∨ l = x := by simpa using hl
    have hu' : u ∈ B ∨ u = x := by simpa using hu
    rcases hl' with kl | rfl
    · rcases hu' with ku | rfl
      · exact fit_trans (hA l kl).1 hx.1 (hB u ku).1 (hA l kl).2 hx.2 (hB u ku).2 (h1 l kl) (h2 u ku)
      · exact h1 l kl
    · rcases hu' with ku | rfl
      · exact h2 u ku
      · exact fit_self hx.2
end Go.Proofs.YtnfndiafabhhdaaGreat
/- How great numerators and denominators get (Wear): no product leaves an int. Plain. -/
namespace Go.Proofs.YtnfndiafabhhdaaGreat
structure LnB (l : Ln) : Prop where
  n0 : 0 ≤ l.n
  n1 : l.n ≤ 480000000
  d0 : 0 < l.d
  d1 : l.d ≤ 1000
  k0 : 0 ≤ l.k
  k1 : l.k ≤ 2097152
theorem mul_bd {a b A B : Int} (a0 : 0 ≤ a) (a1 : a ≤ A) (b0 : 0 ≤ b) (b1 : b ≤ B) : 0 ≤ a * b ∧ a * b ≤ A * B :=
  ⟨Int.mul_nonneg a0 b0, Int.le_trans (Int.mul_le_mul_of_nonneg_right a1 b0) (Int.mul_le_mul_of_nonneg_left b1 (by omega))⟩
theorem ln_bd {l u : Ln} (h : LnB l) (k : LnB u) : (-480000000000 ≤ lnN l u ∧ lnN l u ≤ 480000000000) ∧ (0 < lnD l u ∧ lnD l u ≤ 1000000) := by
  have a := mul_bd k.n0 k.n1 (Int.le_of_lt h.d0) h.d1
  have b := mul_bd h.n0 h.n1 (Int.le_of_lt k.d0) k.d1
  have c := mul_bd (Int.le_of_lt h.d0) h.d1 (Int.le_of_lt k.d0) k.d1
  have d := Int.mul_pos h.d0 k.d0
  unfold lnN lnD
  omega
structure RnB (r : Rn) : Prop where
  a0 : 0 < r.lo.n
  a1 : r.lo.n ≤ 480000000000
  b0 : 0 < r.lo.d
  b1 : r.lo.d ≤ 2097152000000
  c0 : 0 < r.hi.n
  c1 : r.hi.n ≤ 480000000000
  d0 : 0 < r.hi.d
  d1 : r.hi.d ≤ 2097152000000
theorem RnB.ok {r : Rn} (h : RnB r) : RnOk r := ⟨h.b0, h.d0⟩
theorem pairW_bd {r : Rn} {l u : Ln} (h : RnB r) (hl : LnB l) (hu : LnB u) : RnB (pairW r l u) := by
  obtain ⟨⟨n1, n2⟩, d1, d2⟩ := ln_bd hl hu
  have k1 := hl.k1
  have k2 := hu.k1
  have k3 := hl.k0
  have k4 := hu.k0
  unfold pairW
  split
  · exact ⟨h.a0, h.a1, h.b0, h.b1, h.c0, h.c1, h.d0, h.d1⟩
  · split
    · exact ⟨h.a0, h.a1, h.b0, h.b1, h.c0, h.c1, h.d0, h.d1⟩
    · rename_i q
      split
      · rename_i hk
        have e := mul_bd (Int.le_of_lt d1) d2 (show 0 ≤ l.k - u.k by omega) (show l.k - u.k ≤ 2097152 by omega)
        have e' := Int.mul_pos d1 hk
        refine ⟨h.a0, h.a1, h.b0, h.b1, ?_, ?_, ?_, ?_⟩
        all_goals
          simp only [mnW]
          split
        · show 0 < lnN l u
          omega
        · exact h.c0
        · exact n2
        · exact h.c1
        · exact e'
        · exact h.d0
        · show lnD l u * (l.k - u.k) ≤ _
          omega
        · exact h.d1
      · split
        · have e := mul_bd (Int.le_of_lt d1) d2 (show 0 ≤ -(l.k - u.k) by omega) (show -(l.k - u.k) ≤ 2097152 by omega)
          have e' : 0 < lnD l u * -(l.k - u.k) := Int.mul_pos d1 (by omega)
          refine ⟨?_, ?_, ?_, ?_, h.c0, h.c1, h.d0, h.d1⟩
          all_goals
            simp only [mxW]
            split
          · show 0 < -lnN l u
            omega
          · exact h.a0
          · show -lnN l u ≤ _
            omega
          · exact h.a1
          · exact e'
          · exact h.b0
          · show lnD l u * -(l.k - u.k) ≤ _
            omega
          · exact h.b1
        · exact h
structure RnC (r : Rn) : Prop where
  a0 : 0 < r.lo.n
  a1 : r.lo.n ≤ 480000000000
  b0 : 0 < r.lo.d
  b1 : r.lo.d ≤ 2097152000000
  c0 : -480000000000 ≤ r.hi.n
  c1 : r.hi.n ≤ 480000000000
  d0 : 0 < r.hi.d
  d1 : r.hi.d ≤ 2097152000000
theorem RnC.ok {r : Rn} (h : RnC r) : RnOk r := ⟨h.b0, h.d0⟩
theorem pairR_bd {r : Rn} {l u : Ln} (h : RnC r) (hl : LnB l) (hu : LnB u) : RnC (pairR r l u) := by
  obtain ⟨⟨n1, n2⟩, d1, d2⟩ := ln_bd hl hu
  have k1 := hl.k1
  have k2 := hu.k1
  have k3 := hl.k0
  have k4 := hu.k0
  unfold pairR
  split
  · rename_i hk
    have e := mul_bd (Int.le_of_lt d1) d2 (show 0 ≤ l.k - u.k by omega) (show l.k - u.k ≤ 2097152 by omega)
    have e' := Int.mul_pos d1 hk
    have key : -480000000000 ≤ (mnR r.hi ⟨lnN l u, lnD l u * (l.k - u.k), l.s || u.s⟩).n ∧ (mnR r.hi ⟨lnN l u, lnD l u * (l.k - u.k), l.s || u.s⟩).n ≤ 480000000000 ∧ 0 < (mnR r.hi ⟨lnN l u, lnD l u * (l.k - u.k), l.s || u.s⟩).d ∧ (mnR r.hi ⟨lnN l u, lnD l u * (l.k - u.k), l.s || u.s⟩).d ≤ 2097152000000 := by
      unfold mnR
      split
      · exact ⟨n1, n2, e', by show lnD l u * (l.k - u.k) ≤ _; omega⟩
      · split <;> exact ⟨h.c0, h.c1, h.d0, h.d1⟩
    exact ⟨h.a0, h.a1, h.b0, h.b1, key.1, key.2.1, key.2.2.1, key.2.2.2⟩
  · split
    · have e := mul_bd (Int.le_of_lt d1) d2 (show 0 ≤ -(l.k - u.k) by omega) (show -(l.k - u.k) ≤ 2097152 by omega)
      have e' : 0 < lnD l u * -(l.k - u.k) := Int.mul_pos d1 (by omega)
      have key : 0 < (mxR r.lo ⟨-lnN l u, lnD l u * -(l.k - u.k), l.s || u.s⟩).n ∧ (mxR r.lo ⟨-lnN l u, lnD l u * -(l.k - u.k), l.s || u.s⟩).n ≤ 480000000000 ∧ 0 < (mxR r.lo ⟨-lnN l u, lnD l u * -(l.k - u.k), l.s || u.s⟩).d ∧ (mxR r.lo ⟨-lnN l u, lnD l u * -(l.k - u.k), l.s || u.s⟩).d ≤ 2097152000000 := by
        unfold mxR
        split
        · rename_i q
          simp only at q
          have p := Int.mul_pos h.a0 e'
          refine ⟨?_, by show -lnN l u ≤ _; omega, e', by show lnD l u * -(l.k - u.k) ≤ _; omega⟩
          show 0 < -lnN l u
          rcases Int.lt_or_le 0 (-lnN l u) with c | c
          · exact c
          · have := Int.mul_nonpos_of_nonpos_of_nonneg c (Int.le_of_lt h.b0)
            omega
        · split <;> exact ⟨h.a0, h.a1, h.b0, h.b1⟩
      exact ⟨key.1, key.2.1, key.2.2.1, key.2.2.2, h.c0, h.c1, h.d0, h.d1⟩
    · exact ⟨h.a0, h.a1, h.b0, h.b1, h.c0, h.c1, h.d0, h.d1⟩
theorem lastNot_guard (U : Int → Bool) : ∀ (f : Nat) (lo hi : Int), 0 ≤ lo → lastNot (fun m => decide (0 < m) && U m) f lo hi = lastNot U f lo hi
  | 0, _, _, _ => rfl
  | f + 1, lo, hi, h => by
    unfold lastNot
    split
    · have e : decide (0 < (lo + hi + 1) / 2) = true := by simp; omega
      rw [e, Bool.true_and]
      split
      · exact lastNot_guard U f _ _ h
      · exact lastNot_guard U f _ _ (by omega)
    · rfl
end Go.Proofs.YtnfndiafabhhdaaGreat
