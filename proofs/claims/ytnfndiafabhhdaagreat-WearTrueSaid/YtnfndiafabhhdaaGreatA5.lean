/- With more that was seen what is told is narrower; a filling of which all but some items is known as little as can be (Wear). Plain. -/
import Derived.Test.YtnfndiafabhhdaaGreatA3
namespace Go.Proofs.YtnfndiafabhhdaaGreat
theorem allI_in {F : Fl} : ∀ i ∈ allI F, i < F.s.length := fun _ hi => (allI_mem.1 hi).2
structure Nar (F : Fl) (I : List Int) (F' : Fl) (I' : List Int) : Prop where
  h : OkF F
  h' : OkF F'
  i : ∀ i ∈ I, i < F.s.length
  i' : ∀ i ∈ I', i < F'.s.length
  v : F'.v = F.v
  p : ∀ v, Pt F' I' v → Pt F I v
section
variable {F F' : Fl} {I I' : List Int}
theorem Nar.can (n : Nar F I F' I') (k : canI F' I' = true) : canI F I = true := by
  rw [canI_pt n.h' n.i'] at k
  rw [canI_pt n.h n.i]
  obtain ⟨v, p⟩ := k
  exact ⟨v, n.p v p⟩
theorem Nar.un (n : Nar F I F' I') {x m : Int} (x0 : 0 ≤ x) (xn : x ≤ hgt F.v) (k : unM F' I' x m = true) : unM F I x m = true := by
  rw [un_iff n.h' n.i' x0 (by rw [n.v]; exact xn)] at k
  rw [un_iff n.h n.i x0 xn]
  obtain ⟨v, p, c⟩ := k
  rw [n.v] at c
  exact ⟨v, n.p v p, c⟩
theorem Nar.ov (n : Nar F I F' I') {x m : Int} (x0 : 0 ≤ x) (xn : x ≤ hgt F.v) (k : ovM F' I' x m = true) : ovM F I x m = true := by
  rw [ov_iff n.h' n.i' x0 (by rw [n.v]; exact xn)] at k
  rw [ov_iff n.h n.i x0 xn]
  obtain ⟨v, p, c⟩ := k
  rw [n.v] at c
  exact ⟨v, n.p v p, c⟩
theorem Nar.lv (n : Nar F I F' I') (m : Int) : lvLo F I m ≤ lvLo F' I' m ∧ lvHi F' I' m ≤ lvHi F I m := by
  obtain ⟨⟨a0, a1⟩, a, b⟩ := lvLo_spec n.h n.i m
  obtain ⟨⟨c0, c1⟩, c, d⟩ := lvLo_spec n.h' n.i' m
  obtain ⟨⟨e0, e1⟩, e, f⟩ := lvHi_spec n.h n.i m
  obtain ⟨⟨g0, g1⟩, g, j⟩ := lvHi_spec n.h' n.i' m
  rw [n.v] at c1 d g1 j
  constructor
  · rcases Int.lt_or_le (lvLo F' I' m) (lvLo F I m) with k | k
    · have q1 := d _ k a1
      have q2 := a _ (by omega) (Int.le_refl _)
      rw [n.un a0 a1 q1] at q2; cases q2
    · exact k
  · rcases Int.lt_or_le (lvHi F I m) (lvHi F' I' m) with k | k
    · have q1 := g _ e0 k
      have q2 := f _ (Int.le_refl _) (by omega)
      rw [n.ov e0 e1 q1] at q2; cases q2
    · exact k
theorem Nar.rc (n : Nar F I F' I') {x : Int} (x0 : 0 ≤ x) (xn : x ≤ hgt F.v) : rcLo F I x ≤ rcLo F' I' x ∧ rcHi F' I' x ≤ rcHi F I x := by
  have xn' : x ≤ hgt F'.v := by rw [n.v]; exact xn
  obtain ⟨⟨a0, a1⟩, a, b⟩ := rcLo_spec n.h n.i x0 xn
  obtain ⟨⟨c0, c1⟩, c, d⟩ := rcLo_spec n.h' n.i' x0 xn'
  obtain ⟨⟨e0, e1⟩, e, f⟩ := rcHi_spec n.h n.i x0 xn
  obtain ⟨⟨g0, g1⟩, g, j⟩ := rcHi_spec n.h' n.i' x0 xn'
  constructor
  · rcases Int.lt_or_le (rcLo F' I' x) (rcLo F I x) with k | k
    · have q1 := d _ k a1
      have q2 := a _ (by omega) (Int.le_refl _)
      rw [n.un x0 xn q1] at q2; cases q2
    · exact k
  · rcases Int.lt_or_le (rcHi F I x) (rcHi F' I' x) with k | k
    · have q1 := g _ e0 k
      have q2 := f _ (Int.le_refl _)
      rw [n.ov x0 xn q1] at q2; cases q2
    · exact k
theorem Nar.has (n : Nar F I F' I') {p q : Int} (hq : 0 < q) (k : (solvedW F' I').has p q) : (solvedW F I).has p q := by
  rw [has_pt n.h' n.i' hq] at k
  rw [has_pt n.h n.i hq]
  obtain ⟨t, y, ht, p⟩ := k
  exact ⟨t, y, ht, n.p _ p⟩
theorem Nar.ends (n : Nar F I F' I') (hc : canI F' I' = true) : (solvedW F I).lo.n * (solvedW F' I').lo.d ≤ (solvedW F' I').lo.n * (solvedW F I).lo.d ∧ (solvedW F' I').hi.n * (solvedW F I).hi.d ≤ (solvedW F I).hi.n * (solvedW F' I').hi.d := by
  obtain ⟨a, b, _⟩ := ends_has n.h' n.i' hc
  have s' := (solved_same n.h' n.i').1
  obtain ⟨s1, s2⟩ := solved_soft (F := F) I
  have a1 := (n.has s'.l a).2.1
  have b1 := (n.has s'.h b).2.2
  unfold Bd.ge at a1
  unfold Bd.le at b1
  rw [s1, if_neg (by decide)] at a1
  rw [s2, if_neg (by decide)] at b1
  exact ⟨a1, b1⟩
end
def rdL (v : List Rg) (s : Sn) : List (Ln × Bool) := (lnT v s.hi (endB (hgt v) s.k) false, true) :: (if 0 < endA s.k then [(lnT v s.lo (endA s.k) false, false)] else [])
def Rd (v : List Rg) (s : Sn) (p : V3) : Prop := ∀ x ∈ rdL v s, if x.2 = true then Blw x.1 p else Abv x.1 p
theorem ci_rd {F : Fl} {i : Int} (h1 : i ≠ -1) (h2 : i ≠ -2) (p : V3) : Ci F i p ↔ Rd F.v (sn F i) p := by
  unfold Ci Rd itemL rdL
  rw [if_neg h2, if_neg h1]
theorem pt_all {F : Fl} {p : V3} : Pt F (allI F) p ↔ Kc F p ∧ wearC F p.p p.q ∧ Ci F (-1) p ∧ ∀ s ∈ F.s, Rd F.v s p := by
  refine and_congr Iff.rfl ?_
  constructor
  · intro h
    refine ⟨?_, h (-1) (allI_mem.2 (by omega)), fun s hs => ?_⟩
    · have := h (-2) (allI_mem.2 (by omega))
      unfold Ci at this
      rwa [if_pos rfl] at this
    · obtain ⟨j, hj, rfl⟩ := List.mem_iff_getElem.1 hs
      have := h (j : Int) (allI_mem.2 (by omega))
      rw [ci_rd (by omega) (by omega)] at this
      unfold sn at this
      rw [show ((j : Int)).toNat = j by omega, List.getElem?_eq_getElem hj] at this
      exact this
  · rintro ⟨a, b, c⟩ i hi
    obtain ⟨i0, i1⟩ := allI_mem.1 hi
    by_cases h2 : i = -2
    · subst h2
      unfold Ci
      rw [if_pos rfl]
      exact a
    · by_cases h1 : i = -1
      · subst h1; exact b
      · rw [ci_rd h1 h2]
        apply c
        unfold sn
        rw [List.getElem?_eq_getElem (show i.toNat < F.s.length by omega)]
        exact List.getElem_mem _
theorem okF_seen {F : Fl} (h : OkF F) {s : List Sn} (n : s.length ≤ 24) (k : ∀ x ∈ s, okSn (hgt F.v) x = true) : OkF (seenF F s) := ⟨h.v, h.f, h.w1, h.w2, h.w3, n, k⟩
theorem kc_seen {F : Fl} {s : List Sn} {p : V3} : Kc (seenF F s) p ↔ Kc F p := Iff.rfl
theorem c1_seen {F : Fl} {s : List Sn} {p : V3} : Ci (seenF F s) (-1) p ↔ Ci F (-1) p := by
  unfold Ci
  rw [if_neg (by decide), if_neg (by decide)]
  exact Iff.rfl
theorem nar_seen {F : Fl} (h : OkF F) {s : List Sn} (h' : OkF (seenF F s)) (k : ∀ x ∈ F.s, x ∈ s) : Nar F (allI F) (seenF F s) (allI (seenF F s)) :=
  ⟨h, h', allI_in, allI_in, rfl, fun v p => by
    rw [pt_all] at p ⊢
    obtain ⟨a, b, c, d⟩ := p
    exact ⟨a, b, c1_seen.1 c, fun x hx => d x (k x hx)⟩⟩
theorem nar_less {F : Fl} (h : OkF F) {s : List Sn} (h' : OkF (seenF F s)) (k : ∀ x ∈ s, x ∈ F.s) : Nar (seenF F s) (allI (seenF F s)) F (allI F) :=
  ⟨h', h, allI_in, allI_in, rfl, fun v p => by
    rw [pt_all] at p ⊢
    obtain ⟨a, b, c, d⟩ := p
    exact ⟨a, b, c1_seen.2 c, fun x hx => d x (k x hx)⟩⟩
def widF (F : Fl) (l : List Int) : Fl := ⟨F.v, if -1 ∈ l then F.f else ⟨hgt F.v, 1000⟩, if -2 ∈ l then F.wlo else 1, if -2 ∈ l then F.whi else 4000, (l.filter fun (i : Int) => decide (0 ≤ i) && decide (i < F.s.length)).map (sn F)⟩
theorem okF_wid {F : Fl} (h : OkF F) {l : List Int} (hn : l.length ≤ 24) : OkF (widF F l) := by
  have H := okF_hgt h
  have h1 := h.w1
  have h2 := h.w2
  have h3 := h.w3
  refine ⟨h.v, ?_, ?_, ?_, ?_, ?_, ?_⟩
  · show okLk (hgt F.v) (if -1 ∈ l then F.f else ⟨hgt F.v, 1000⟩) = true
    split
    · exact h.f
    · simp [okLk]; omega
  · show 1 ≤ (if -2 ∈ l then F.wlo else 1)
    split <;> omega
  · show (if -2 ∈ l then F.wlo else 1) ≤ (if -2 ∈ l then F.whi else 4000)
    split <;> omega
  · show (if -2 ∈ l then F.whi else 4000) ≤ 4000
    split <;> omega
  · show ((l.filter fun (i : Int) => decide (0 ≤ i) && decide (i < F.s.length)).map (sn F)).length ≤ 24
    rw [List.length_map]
    exact Nat.le_trans (List.length_filter_le _ _) hn
  · intro x hx
    obtain ⟨i, hi, rfl⟩ := List.mem_map.1 hx
    have := (List.mem_filter.1 hi).2
    simp only [Bool.and_eq_true, decide_eq_true_eq] at this
    unfold sn
    rw [List.getElem?_eq_getElem (show i.toNat < F.s.length by omega)]
    exact h.s _ (List.getElem_mem _)
theorem pt_wid {F : Fl} (h : OkF F) {l : List Int} (hl : ∀ i ∈ l, -2 ≤ i ∧ i < F.s.length) (hh : hgt F.v ≤ 1000) (p : V3) : Pt (widF F l) (allI (widF F l)) p ↔ Pt F l p := by
  have H := okF_hgt h
  rw [pt_all]
  have kc : Kc (widF F l) p ↔ Kc F p := Iff.rfl
  rw [kc]
  refine and_congr_right fun k => ?_
  have k1 := k.2.1
  have k2 := k.2.2
  have g1 := k2 (⟨0, 0, 1, false⟩, false) (by simp [frameL])
  have g2 := k2 (lnT F.v 0 (hgt F.v) false, true) (by simp [frameL])
  simp [Abv] at g1
  simp [Blw, lnT] at g2
  have w : wearC (widF F l) p.p p.q ↔ (-2 ∈ l → wearC F p.p p.q) := by
    show (1000 * p.q ≤ p.p * (if -2 ∈ l then F.whi else 4000) ∧ p.p * (if -2 ∈ l then F.wlo else 1) ≤ 1000 * p.q) ↔ _
    by_cases c : -2 ∈ l
    · rw [if_pos c, if_pos c]
      exact ⟨fun a _ => a, fun a => a c⟩
    · rw [if_neg c, if_neg c]
      exact ⟨fun _ a => absurd a c, fun _ => ⟨k1.1, by omega⟩⟩
  have f : Ci (widF F l) (-1) p ↔ (-1 ∈ l → Ci F (-1) p) := by
    by_cases c : -1 ∈ l
    · have e : (widF F l).f = F.f := if_pos c
      have : Ci (widF F l) (-1) p ↔ Ci F (-1) p := by
        have e2 : itemL (widF F l) (-1) = itemL F (-1) := by
          unfold itemL
          rw [if_pos rfl, if_pos rfl, e]
          rfl
        unfold Ci
        rw [if_neg (by decide), if_neg (by decide), e2]
      rw [this]
      exact ⟨fun a _ => a, fun a => a c⟩
    · have e : (widF F l).f = ⟨hgt F.v, 1000⟩ := if_neg c
      refine ⟨fun _ a => absurd a c, fun _ => ?_⟩
      unfold Ci itemL
      rw [if_neg (by decide), if_pos rfl, e]
      have ea : endA ⟨hgt F.v, 1000⟩ = 0 := by unfold endA; simp only; omega
      have eb : endB (hgt (widF F l).v) ⟨hgt F.v, 1000⟩ = hgt F.v := by
        show min (hgt F.v) (hgt F.v + 1000) = hgt F.v
        omega
      rw [ea, eb]
      intro x hx
      simp only [List.mem_cons, List.not_mem_nil, or_false] at hx
      rcases hx with rfl | rfl
      · show Abv (lnT F.v 0 0 false) p
        simp only [Abv, lnT, tm_zero h.v, Int.zero_mul, Int.zero_add]
        exact Int.mul_nonneg g1 (Int.le_of_lt (tm_bd h.v (x := 0) (by omega) (by rw [← hgt_eq]; omega)).2.1)
      · show Blw (lnT F.v 0 (hgt F.v) false) p
        simp only [Blw, lnT, Int.zero_mul, Int.zero_add]
        exact g2
  have r : (∀ s ∈ (widF F l).s, Rd (widF F l).v s p) ↔ ∀ i ∈ l, 0 ≤ i → Ci F i p := by
    constructor
    · intro a i hi i0
      rw [ci_rd (by omega) (by omega)]
      exact a _ (List.mem_map.2 ⟨i, List.mem_filter.2 ⟨hi, by simp [i0, (hl i hi).2]⟩, rfl⟩)
    · intro a s hs
      obtain ⟨i, hi, rfl⟩ := List.mem_map.1 hs
      obtain ⟨hi, c⟩ := List.mem_filter.1 hi
      simp only [Bool.and_eq_true, decide_eq_true_eq] at c
      have := a i hi c.1
      rwa [ci_rd (by omega) (by omega)] at this
  rw [w, f, r]
  constructor
  · rintro ⟨a, b, c⟩ i hi
    obtain ⟨i0, i1⟩ := hl i hi
    by_cases h2 : i = -2
    · subst h2
      unfold Ci
      rw [if_pos rfl]
      exact a hi
    · by_cases h1 : i = -1
      · subst h1; exact b hi
      · exact c i hi (by omega)
  · intro a
    refine ⟨fun m => ?_, fun m => a _ m, fun i hi _ => a i hi⟩
    have := a _ m
    unfold Ci at this
    rwa [if_pos rfl] at this
theorem can_wid {F : Fl} (h : OkF F) {l : List Int} (hl : ∀ i ∈ l, -2 ≤ i ∧ i < F.s.length) (hn : l.length ≤ 24) (hh : hgt F.v ≤ 1000) : canI (widF F l) (allI (widF F l)) = canI F l := by
  rw [Bool.eq_iff_iff, canI_pt (okF_wid h hn) allI_in, canI_pt h fun i hi => (hl i hi).2]
  exact exists_congr fun p => pt_wid h hl hh p
theorem can_nil {F : Fl} (h : OkF F) : canI F [] = true := by
  have H := okF_hgt h
  rw [canI_pt h (by simp)]
  refine ⟨⟨1, 1, 0⟩, ⟨by decide, by decide, fun x hx => ?_⟩, by simp⟩
  simp only [frameL, List.mem_cons, List.not_mem_nil, or_false] at hx
  rcases hx with rfl | rfl
  · simp [Abv]
  · have := (tm_bd h.v (x := hgt F.v) (by omega) (Int.le_refl _)).1.1
    simpa [Blw, lnT] using this
end Go.Proofs.YtnfndiafabhhdaaGreat
/- A filling whose wear is narrowed to one number: a case is possible exactly if the number lies within the bounds. -/
namespace Go.Proofs.YtnfndiafabhhdaaGreat
def narF (F : Fl) (n : Int) : Fl := ⟨F.v, F.f, n, n, F.s⟩
theorem okF_nar {F : Fl} (h : OkF F) {n : Int} (h1 : F.wlo ≤ n) (h2 : n ≤ F.whi) : OkF (narF F n) :=
  ⟨h.v, h.f, by have := h.w1; show (1 : Int) ≤ n; omega, Int.le_refl _, by have := h.w3; show n ≤ 4000; omega, h.n, h.s⟩
theorem fit_along {l u : Ln} {p q p' q' : Int} (hs : l.s = false) (ht : u.s = false) (hq : 0 < q) (hq' : 0 < q') (e : p * q' = p' * q) (h : Fit l u p q) : Fit l u p' q' := by
  unfold Fit at h ⊢
  rw [hs, ht] at h ⊢
  simp only [Bool.or_self, Bool.false_eq_true, if_false] at h ⊢
  have h1 := Int.mul_le_mul_of_nonneg_right h (Int.le_of_lt hq')
  have e1 : (l.k - u.k) * p * lnD l u * q' = (l.k - u.k) * p' * lnD l u * q := by
    rw [show (l.k - u.k) * p * lnD l u * q' = (l.k - u.k) * lnD l u * (p * q') by ac_rfl, e]; ac_rfl
  rw [e1, show lnN l u * q * q' = lnN l u * q' * q by ac_rfl] at h1
  exact Int.le_of_mul_le_mul_right h1 hq
theorem nar_can {F : Fl} (h : OkF F) {n : Int} (h1 : F.wlo ≤ n) (h2 : n ≤ F.whi) {I : List Int} (hI : ∀ i ∈ I, i < F.s.length) (hw : -2 ∈ I) : canI (narF F n) I = true ↔ (solvedW F I).has 1000 n := by
  have h' := okF_nar h h1 h2
  have hI' : ∀ i ∈ I, i < ((narF F n).s.length : Int) := hI
  have hn : 0 < n := by have := h.w1; omega
  have n4 : n ≤ 4000 := by have := h.w3; omega
  have eL : linesL (narF F n) I = linesL F I := rfl
  constructor
  · intro hc
    obtain ⟨k, _, _⟩ := ends_has h' hI' hc
    have hd : 0 < (solvedW (narF F n) I).lo.d := (solved_same h' hI').1.l
    rw [solved_has h' hI' hd] at k
    obtain ⟨⟨⟨k1, k2⟩, k3⟩, k4⟩ := k
    have k3 := k3 hw
    have e : (solvedW (narF F n) I).lo.n * n = 1000 * (solvedW (narF F n) I).lo.d := by
      have a := k3.1
      have b := k3.2
      simp only [narF] at a b ⊢
      omega
    rw [solved_has h hI hn]
    refine ⟨⟨⟨by omega, by omega⟩, fun _ => ⟨by omega, by omega⟩⟩, fun l hl u hu => ?_⟩
    rw [← eL] at hl hu
    exact fit_along (lines_soft _ (mem_lows.1 hl)) (lines_soft _ (mem_ups.1 hu)) hd hn (by rw [e]) (k4 l hl u hu)
  · intro k
    rw [solved_has h hI hn] at k
    refine has_can h' hI' hn ((solved_has h' hI' hn).2 ⟨⟨k.1.1, fun _ => ⟨?_, ?_⟩⟩, k.2⟩)
    · show 1000 * n ≤ 1000 * n; omega
    · show 1000 * n ≤ 1000 * n; omega
end Go.Proofs.YtnfndiafabhhdaaGreat
