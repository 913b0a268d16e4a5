/- All minutes multiplied: the same cases, in another measure (Wear). Plain. -/
import Derived.Test.YtnfndiafabhhdaaGreatA3
namespace Go.Proofs.YtnfndiafabhhdaaGreat
def sclV (k : Int) (v : List Rg) : List Rg := v.map fun r => ⟨r.h, r.v, r.d * k⟩
def sclS (k : Int) (s : List Sn) : List Sn := s.map fun x => ⟨x.lo * k, x.hi * k, x.k⟩
def sclF (k : Int) (F : Fl) : Fl := ⟨sclV k F.v, F.f, F.wlo, F.whi, sclS k F.s⟩
section
variable {k : Int} {v : List Rg}
theorem rg_scl {i : Nat} (hi : i < v.length) : rg (sclV k v) i = ⟨(rg v i).h, (rg v i).v, (rg v i).d * k⟩ := by
  simp [rg, sclV, List.getElem?_eq_getElem hi]
theorem len_sclV : (sclV k v).length = v.length := by simp [sclV]
theorem vX_scl : ∀ i : Nat, i ≤ v.length → vX (sclV k v) i = vX v i ∧ vY (sclV k v) i = vY v i * k
  | 0, _ => by simp [vX, vY]
  | i + 1, hi => by
    obtain ⟨a, b⟩ := vX_scl i (by omega)
    simp only [vX, vY, rg_scl (k := k) (show i < v.length by omega), a, b]
    exact ⟨trivial, by rw [Int.add_mul]⟩
theorem hgt_scl : hgt (sclV k v) = hgt v := by
  unfold hgt
  rw [len_sclV]
  exact (vX_scl _ (Nat.le_refl _)).1
theorem okFrom_scl (hk : 0 < k) (hd : ∀ i, i < v.length → (rg v i).d * k ≤ 20000) : ∀ n : Nat, n ≤ v.length → okFrom v n = true → okFrom (sclV k v) n = true
  | 0, _, _ => rfl
  | n + 1, hn, h => by
    simp only [okFrom, Bool.and_eq_true, Bool.or_eq_true, decide_eq_true_eq] at h ⊢
    obtain ⟨⟨h1, h2⟩, h3⟩ := h
    refine ⟨⟨okFrom_scl hk hd n (by omega) h1, ?_⟩, ?_⟩
    · rw [rg_scl (by omega)]
      obtain ⟨a, b, c⟩ := okRg_bd h2
      have e := hd n (by omega)
      have e1 := Int.mul_pos (show 0 < (rg v n).d by omega) hk
      simp only [okRg, Bool.and_eq_true, decide_eq_true_eq]
      exact ⟨⟨a, b⟩, by omega, e⟩
    · rcases h3 with h3 | h3
      · exact .inl h3
      · refine .inr ?_
        rw [rg_scl (by omega), rg_scl (by omega)]
        simp only
        have := mul_mono h3 hk
        rw [← Int.mul_assoc, ← Int.mul_assoc]
        exact this
theorem okVs_scl (hk : 0 < k) (hd : ∀ i, i < v.length → (rg v i).d * k ≤ 20000) (h : okVs v = true) : okVs (sclV k v) = true := by
  simp only [okVs, Bool.and_eq_true, decide_eq_true_eq, len_sclV] at h ⊢
  exact ⟨h.1, okFrom_scl hk hd _ (Nat.le_refl _) h.2⟩
theorem tm_scl (hk : 0 < k) (hv : okVs v = true) (hv' : okVs (sclV k v) = true) {x : Int} (x0 : 0 ≤ x) (xn : x ≤ vX v v.length) : tmN (sclV k v) x * tmD v x = tmN v x * k * tmD (sclV k v) x := by
  have hv0 := hv
  simp only [okVs, Bool.and_eq_true, decide_eq_true_eq] at hv
  obtain ⟨⟨n1, n2⟩, h⟩ := hv
  obtain ⟨_, r1, r2, r3⟩ := ringF_in (l := v) (x := x) v.length 0 x0 (by rw [Nat.zero_add]; exact xn) (by omega)
  rw [Nat.zero_add] at r1
  generalize ringF v x v.length 0 = j at *
  obtain ⟨a1, a2⟩ := tm_at hv0 r1 r2 r3
  obtain ⟨b1, b2⟩ := tm_at hv' (j := j) (x := x) (by rw [len_sclV]; exact r1) (by rw [(vX_scl j (by omega)).1]; exact r2) (by rw [(vX_scl (j + 1) (by omega)).1]; exact r3)
  obtain ⟨b, _, d⟩ := okRg_bd (okFrom_at h j r1)
  have H : 0 < (rg v j).h := by omega
  have nn := (tN0_nn h r1 r2 r3).1
  have e : tN0 (sclV k v) j x = tN0 v j x * k := by
    unfold tN0
    rw [rg_scl r1, (vX_scl j (by omega)).1, (vX_scl j (by omega)).2]
    simp only
    grind
  have eh : (rg (sclV k v) j).h = (rg v j).h := by rw [rg_scl r1]
  rw [e, eh] at b1 b2
  have c1 := lowN_cross nn H
  have c2 := lowN_cross (n := tN0 v j x * k) (Int.mul_nonneg nn (Int.le_of_lt hk)) H
  rw [a1, a2] at c1
  rw [b1, b2] at c2
  generalize tN0 v j x = T at *
  generalize (rg v j).h = G at *
  apply Int.eq_of_mul_eq_mul_right (show G ≠ 0 by omega)
  calc tmN (sclV k v) x * tmD v x * G = tmN (sclV k v) x * G * tmD v x := by ac_rfl
    _ = T * k * tmD (sclV k v) x * tmD v x := by rw [c2]
    _ = T * tmD v x * k * tmD (sclV k v) x := by ac_rfl
    _ = tmN v x * G * k * tmD (sclV k v) x := by rw [c1]
    _ = tmN v x * k * tmD (sclV k v) x * G := by ac_rfl
end
def sclP (k : Int) (v : V3) : V3 := ⟨v.q * k, v.p * k, v.y⟩
structure LnS (k : Int) (l l' : Ln) : Prop where
  d : 0 < l.d
  d' : 0 < l'.d
  e : l'.k = l.k * k
  n : l'.n * l.d = l.n * k * l'.d
theorem LnS.val {k : Int} {l l' : Ln} (h : LnS k l l') (p q : Int) : (l'.k * p * l'.d + l'.n * q) * l.d = (l.k * (p * k) * l.d + l.n * (q * k)) * l'.d := by
  have := h.n
  rw [h.e]
  grind
theorem le_scl {a b d d' y : Int} (hd : 0 < d) (hd' : 0 < d') (e : a * d = b * d') : (a ≤ y * d' ↔ b ≤ y * d) ∧ (y * d' ≤ a ↔ y * d ≤ b) := by
  constructor
  · constructor
    · intro h
      have := mul_mono h hd
      refine (mul_le_r hd').1 ?_
      have e2 : y * d' * d = y * d * d' := by ac_rfl
      omega
    · intro h
      have := mul_mono h hd'
      refine (mul_le_r hd).1 ?_
      have e2 : y * d' * d = y * d * d' := by ac_rfl
      omega
  · constructor
    · intro h
      have := mul_mono h hd
      refine (mul_le_r hd').1 ?_
      have e2 : y * d' * d = y * d * d' := by ac_rfl
      omega
    · intro h
      have := mul_mono h hd'
      refine (mul_le_r hd).1 ?_
      have e2 : y * d' * d = y * d * d' := by ac_rfl
      omega
theorem LnS.abv {k : Int} {l l' : Ln} (h : LnS k l l') (v : V3) : Abv l' v ↔ Abv l (sclP k v) := (le_scl h.d h.d' (h.val v.p v.q)).1
theorem LnS.blw {k : Int} {l l' : Ln} (h : LnS k l l') (v : V3) : Blw l' v ↔ Blw l (sclP k v) := (le_scl h.d h.d' (h.val v.p v.q)).2
theorem sn_scl (k : Int) (F : Fl) (i : Int) : sn (sclF k F) i = ⟨(sn F i).lo * k, (sn F i).hi * k, (sn F i).k⟩ := by
  unfold sn sclF sclS
  rw [List.getElem?_map]
  cases F.s[i.toNat]? <;> simp
section
variable {k : Int} {F : Fl}
theorem okF_scl (hk : 0 < k) (h : OkF F) (hd : ∀ i, i < F.v.length → (rg F.v i).d * k ≤ 20000) (ha : ∀ x ∈ F.s, x.hi * k ≤ 1048576) : OkF (sclF k F) := by
  refine ⟨okVs_scl hk hd h.v, by rw [show (sclF k F).v = sclV k F.v from rfl, hgt_scl]; exact h.f, h.w1, h.w2, h.w3, by show (sclS k F.s).length ≤ 24; simp only [sclS, List.length_map]; exact h.n, ?_⟩
  intro x hx
  obtain ⟨y, hy, rfl⟩ := List.mem_map.1 hx
  have hs := h.s y hy
  rw [show (sclF k F).v = sclV k F.v from rfl, hgt_scl]
  simp only [okSn, Bool.and_eq_true, decide_eq_true_eq] at hs ⊢
  obtain ⟨⟨⟨s1, s2⟩, s3⟩, s4⟩ := hs
  exact ⟨⟨⟨Int.mul_nonneg s1 (Int.le_of_lt hk), mul_mono s2 hk⟩, ha y hy⟩, s4⟩
theorem lnS_T (hk : 0 < k) (h : OkF F) (h' : OkF (sclF k F)) {m x : Int} (x0 : 0 ≤ x) (xn : x ≤ hgt F.v) (s : Bool) : LnS k (lnT F.v m x s) (lnT (sclF k F).v (m * k) x s) :=
  ⟨(tm_bd h.v x0 xn).2.1, (tm_bd h'.v x0 (by have := hgt_scl (k := k) (v := F.v); unfold hgt at this xn; rw [show (sclF k F).v = sclV k F.v from rfl, this]; exact xn)).2.1, rfl, tm_scl hk h.v h'.v x0 xn⟩
theorem pt_scl (hk : 0 < k) (h : OkF F) (h' : OkF (sclF k F)) {I : List Int} (hI : ∀ i ∈ I, i < F.s.length) (v : V3) : Pt (sclF k F) I v ↔ Pt F I (sclP k v) := by
  have hH : hgt (sclF k F).v = hgt F.v := hgt_scl
  have H := okF_hgt h
  have g3 : ∀ {a b : Int}, a ≤ b ↔ a * k ≤ b * k := fun {a b} => (mul_le_r hk).symm
  have kc : Kc (sclF k F) v ↔ Kc F (sclP k v) := by
    have f1 := (lnS_T hk h h' (m := 0) (x := hgt F.v) (by omega) (Int.le_refl _) false).blw v
    rw [Int.zero_mul] at f1
    have e0 : (0 < v.q) ↔ 0 < v.q * k := by rw [show (0 < v.q * k) ↔ (0 * k < v.q * k) by rw [Int.zero_mul]]; exact (mul_lt_r hk).symm
    have e1 : 1000 * v.q ≤ v.p * 4000 ↔ 1000 * (v.q * k) ≤ v.p * k * 4000 := by rw [g3]; constructor <;> intro h <;> grind
    have e2 : v.p ≤ 1000 * v.q ↔ v.p * k ≤ 1000 * (v.q * k) := by rw [g3]; constructor <;> intro h <;> grind
    unfold Kc frameL
    simp only [List.mem_cons, List.not_mem_nil, or_false, forall_eq_or_imp, forall_eq, hH, if_true, Bool.false_eq_true, if_false, sclP]
    rw [e0, e1, e2]
    refine and_congr Iff.rfl (and_congr Iff.rfl (and_congr ?_ ?_))
    · simp only [Abv]
      constructor <;> intro h <;> simpa using h
    · exact f1
  refine and_congr kc (forall_congr' fun i => forall_congr' fun hi => ?_)
  unfold Ci
  by_cases c : i = -2
  · rw [if_pos c, if_pos c]
    simp only [wearC, sclP]
    have e1 : 1000 * v.q ≤ v.p * F.whi ↔ 1000 * (v.q * k) ≤ v.p * k * F.whi := by rw [g3]; constructor <;> intro h <;> grind
    have e2 : v.p * F.wlo ≤ 1000 * v.q ↔ v.p * k * F.wlo ≤ 1000 * (v.q * k) := by rw [g3]; constructor <;> intro h <;> grind
    exact and_congr e1 e2
  · rw [if_neg c, if_neg c]
    unfold itemL
    by_cases c1 : i = -1
    · rw [if_pos c1, if_pos c1]
      have e := end_in h.f
      have f1 := (lnS_T hk h h' (m := 0) (x := endA F.f) e.1.1 (by omega) false).abv v
      have f2 := (lnS_T hk h h' (m := 0) (x := endB (hgt F.v) F.f) (by omega) e.2.2 false).blw v
      rw [Int.zero_mul] at f1 f2
      simp only [List.mem_cons, List.not_mem_nil, or_false, forall_eq_or_imp, forall_eq, hH, if_true, Bool.false_eq_true, if_false]
      exact and_congr f1 f2
    · rw [if_neg c1, if_neg c1]
      have e := end_in (sn_okk h (hI i hi))
      have f1 := (lnS_T hk h h' (m := (sn F i).hi) (x := endB (hgt F.v) (sn F i).k) (by omega) e.2.2 false).blw v
      rw [sn_scl]
      by_cases ha : 0 < endA (sn F i).k
      · have f2 := (lnS_T hk h h' (m := (sn F i).lo) (x := endA (sn F i).k) e.1.1 (by omega) false).abv v
        simp only [ha, List.mem_cons, List.not_mem_nil, or_false, forall_eq_or_imp, forall_eq, hH, if_true, Bool.false_eq_true, if_false]
        exact and_congr f1 f2
      · simp only [ha, List.mem_cons, List.not_mem_nil, or_false, forall_eq, hH, if_true, if_false]
        exact f1
theorem pt_mul {I : List Int} (hk : 0 < k) {v : V3} (p : Pt F I v) : Pt F I ⟨v.q * k, v.p * k, v.y * k⟩ := by
  have e : (⟨v.q * k, v.p * k, v.y * k⟩ : V3) = V3.mul k v := by simp [V3.mul, Int.mul_comm]
  rw [e]
  exact ⟨(kc_cone F).mul _ _ hk p.1, fun i hi => (ci_cone F i).mul _ _ hk (p.2 i hi)⟩
end
end Go.Proofs.YtnfndiafabhhdaaGreat
/- All minutes multiplied: what is told is the same, or as many times as much (Wear). Plain. -/
namespace Go.Proofs.YtnfndiafabhhdaaGreat
section
variable {k : Int} {F : Fl} {I : List Int}
theorem lenS : (sclF k F).s.length = F.s.length := by simp [sclF, sclS]
theorem hgtF : hgt (sclF k F).v = hgt F.v := hgt_scl
theorem sclP_mul (v : V3) : sclP k ⟨v.q, v.p, v.y * k⟩ = ⟨v.q * k, v.p * k, v.y * k⟩ := rfl
theorem pt_to' (hk : 0 < k) (h : OkF F) (h' : OkF (sclF k F)) (hI : ∀ i ∈ I, i < F.s.length) {v : V3} (p : Pt F I v) : Pt (sclF k F) I ⟨v.q, v.p, v.y * k⟩ := by
  rw [pt_scl hk h h' hI]
  exact pt_mul hk p
theorem canI_scl (hk : 0 < k) (h : OkF F) (h' : OkF (sclF k F)) (hI : ∀ i ∈ I, i < F.s.length) : canI (sclF k F) I = canI F I := by
  have hI' : ∀ i ∈ I, i < (sclF k F).s.length := by rw [lenS]; exact hI
  rw [Bool.eq_iff_iff, canI_pt h hI, canI_pt h' hI']
  constructor
  · rintro ⟨v, p⟩
    exact ⟨_, (pt_scl hk h h' hI v).1 p⟩
  · rintro ⟨v, p⟩
    exact ⟨_, pt_to' hk h h' hI p⟩
theorem un_scl (hk : 0 < k) (h : OkF F) (h' : OkF (sclF k F)) (hI : ∀ i ∈ I, i < F.s.length) {x m : Int} (x0 : 0 ≤ x) (xn : x ≤ hgt F.v) : unM (sclF k F) I x (m * k) = unM F I x m := by
  have hI' : ∀ i ∈ I, i < (sclF k F).s.length := by rw [lenS]; exact hI
  have D := (tm_bd h.v x0 xn).2.1
  have D' := (tm_bd h'.v x0 (by have := hgtF (k := k) (F := F); unfold hgt at this xn; rw [this]; exact xn)).2.1
  have e := tm_scl hk h.v h'.v x0 xn
  rw [Bool.eq_iff_iff, un_iff h hI x0 xn, un_iff h' hI' x0 (by rw [hgtF]; exact xn)]
  rw [show (sclF k F).v = sclV k F.v from rfl] at D' ⊢
  constructor
  · rintro ⟨v, p, c⟩
    refine ⟨_, (pt_scl hk h h' hI v).1 p, ?_⟩
    simp only [sclP]
    have a := Int.mul_lt_mul_of_pos_right c D
    refine (mul_lt_r D').1 ?_
    have e1 : tmN (sclV k F.v) x * v.q * tmD F.v x = tmN F.v x * (v.q * k) * tmD (sclV k F.v) x := by grind
    have e2 : (v.y - m * k * v.p) * tmD (sclV k F.v) x * tmD F.v x = (v.y - m * (v.p * k)) * tmD F.v x * tmD (sclV k F.v) x := by grind
    omega
  · rintro ⟨v, p, c⟩
    refine ⟨_, pt_to' hk h h' hI p, ?_⟩
    simp only
    have a := Int.mul_lt_mul_of_pos_right (Int.mul_lt_mul_of_pos_right c hk) D'
    refine (mul_lt_r D).1 ?_
    have e1 : tmN (sclV k F.v) x * v.q * tmD F.v x = tmN F.v x * v.q * k * tmD (sclV k F.v) x := by grind
    have e2 : (v.y * k - m * k * v.p) * tmD (sclV k F.v) x * tmD F.v x = (v.y - m * v.p) * tmD F.v x * k * tmD (sclV k F.v) x := by grind
    omega
theorem ov_scl (hk : 0 < k) (h : OkF F) (h' : OkF (sclF k F)) (hI : ∀ i ∈ I, i < F.s.length) {x m : Int} (x0 : 0 ≤ x) (xn : x ≤ hgt F.v) : ovM (sclF k F) I x (m * k) = ovM F I x m := by
  have hI' : ∀ i ∈ I, i < (sclF k F).s.length := by rw [lenS]; exact hI
  have D := (tm_bd h.v x0 xn).2.1
  have D' := (tm_bd h'.v x0 (by have := hgtF (k := k) (F := F); unfold hgt at this xn; rw [this]; exact xn)).2.1
  have e := tm_scl hk h.v h'.v x0 xn
  rw [Bool.eq_iff_iff, ov_iff h hI x0 xn, ov_iff h' hI' x0 (by rw [hgtF]; exact xn)]
  rw [show (sclF k F).v = sclV k F.v from rfl] at D' ⊢
  constructor
  · rintro ⟨v, p, c⟩
    refine ⟨_, (pt_scl hk h h' hI v).1 p, ?_⟩
    simp only [sclP]
    have a := Int.mul_lt_mul_of_pos_right c D
    refine (mul_lt_r D').1 ?_
    have e1 : tmN (sclV k F.v) x * v.q * tmD F.v x = tmN F.v x * (v.q * k) * tmD (sclV k F.v) x := by grind
    have e2 : (v.y - m * k * v.p) * tmD (sclV k F.v) x * tmD F.v x = (v.y - m * (v.p * k)) * tmD F.v x * tmD (sclV k F.v) x := by grind
    omega
  · rintro ⟨v, p, c⟩
    refine ⟨_, pt_to' hk h h' hI p, ?_⟩
    simp only
    have a := Int.mul_lt_mul_of_pos_right (Int.mul_lt_mul_of_pos_right c hk) D'
    refine (mul_lt_r D).1 ?_
    have e1 : tmN (sclV k F.v) x * v.q * tmD F.v x = tmN F.v x * v.q * k * tmD (sclV k F.v) x := by grind
    have e2 : (v.y * k - m * k * v.p) * tmD (sclV k F.v) x * tmD F.v x = (v.y - m * v.p) * tmD F.v x * k * tmD (sclV k F.v) x := by grind
    omega
theorem lv_scl (hk : 0 < k) (h : OkF F) (h' : OkF (sclF k F)) (hI : ∀ i ∈ I, i < F.s.length) (m : Int) : lvLo (sclF k F) I (m * k) = lvLo F I m ∧ lvHi (sclF k F) I (m * k) = lvHi F I m := by
  have hI' : ∀ i ∈ I, i < (sclF k F).s.length := by rw [lenS]; exact hI
  obtain ⟨⟨a0, a1⟩, a, b⟩ := lvLo_spec h hI m
  obtain ⟨⟨c0, c1⟩, c, d⟩ := lvLo_spec h' hI' (m * k)
  obtain ⟨⟨e0, e1⟩, e, f⟩ := lvHi_spec h hI m
  obtain ⟨⟨g0, g1⟩, g, j⟩ := lvHi_spec h' hI' (m * k)
  rw [hgtF] at c1 d g1 j
  have U := fun x x0 xn => un_scl (m := m) hk h h' hI (x := x) x0 xn
  have O := fun x x0 xn => ov_scl (m := m) hk h h' hI (x := x) x0 xn
  constructor
  · rcases Int.lt_trichotomy (lvLo (sclF k F) I (m * k)) (lvLo F I m) with q | q | q
    · have q1 := a _ (by omega) (Int.le_refl _)
      have q2 := d _ q a1
      rw [U _ a0 a1, q1] at q2; cases q2
    · exact q
    · have q1 := c _ (by omega) (Int.le_refl _)
      have q2 := b _ q c1
      rw [U _ c0 c1, q2] at q1; cases q1
  · rcases Int.lt_trichotomy (lvHi (sclF k F) I (m * k)) (lvHi F I m) with q | q | q
    · have q1 := e _ g0 q
      have q2 := j _ (Int.le_refl _) (by omega)
      rw [O _ g0 g1, q1] at q2; cases q2
    · exact q
    · have q1 := g _ e0 q
      have q2 := f _ (Int.le_refl _) (by omega)
      rw [O _ e0 e1, q2] at q1; cases q1
theorem rc_scl (hk : 0 < k) (h : OkF F) (h' : OkF (sclF k F)) (hI : ∀ i ∈ I, i < F.s.length) (hc : canI F I = true) {x : Int} (x0 : 0 ≤ x) (xn : x ≤ hgt F.v) :
    (rcLo F I x * k ≤ rcLo (sclF k F) I x ∧ rcLo (sclF k F) I x ≤ rcLo F I x * k + k - 1) ∧ (rcHi (sclF k F) I x ≤ rcHi F I x * k ∧ rcHi F I x * k - k + 1 ≤ rcHi (sclF k F) I x) := by
  have hI' : ∀ i ∈ I, i < (sclF k F).s.length := by rw [lenS]; exact hI
  have hc' : canI (sclF k F) I = true := by rw [canI_scl hk h h' hI]; exact hc
  have xn' : x ≤ hgt (sclF k F).v := by rw [hgtF]; exact xn
  obtain ⟨⟨a0, a1⟩, a, b⟩ := rcLo_spec h hI x0 xn
  obtain ⟨⟨c0, c1⟩, c, d⟩ := rcLo_spec h' hI' x0 xn'
  obtain ⟨⟨e0, e1⟩, e, f⟩ := rcHi_spec h hI x0 xn
  obtain ⟨⟨g0, g1⟩, g, j⟩ := rcHi_spec h' hI' x0 xn'
  have U := fun m => un_scl (m := m) hk h h' hI (x := x) x0 xn
  have O := fun m => ov_scl (m := m) hk h h' hI (x := x) x0 xn
  refine ⟨⟨?_, ?_⟩, ?_, ?_⟩
  · rcases Int.lt_or_le (rcLo (sclF k F) I x) (rcLo F I x * k) with q | q
    · have q1 := rcLo_all h' hI' hc' x0 xn' q
      rw [U] at q1
      have : 0 < rcLo F I x := by
        rcases Int.lt_or_le 0 (rcLo F I x) with r | r
        · exact r
        · have : rcLo F I x = 0 := by omega
          rw [this, Int.zero_mul] at q
          omega
      rw [a _ this (Int.le_refl _)] at q1
      cases q1
    · exact q
  · rcases Int.lt_or_le (rcLo F I x * k + k - 1) (rcLo (sclF k F) I x) with q | q
    · have q1 := rcLo_all h hI hc x0 xn (show rcLo F I x < rcLo F I x + 1 by omega)
      rw [← U] at q1
      have e : (rcLo F I x + 1) * k = rcLo F I x * k + k := by rw [Int.add_mul, Int.one_mul]
      have nn := Int.mul_nonneg a0 (Int.le_of_lt hk)
      rw [e, c _ (by omega) (by omega)] at q1
      cases q1
    · exact q
  · have q := f _ (Int.le_refl _)
    rw [← O] at q
    exact (sure_iff h' hI' x0 xn' (Int.mul_nonneg e0 (Int.le_of_lt hk))).1 q
  · rcases Int.lt_or_le 0 (rcHi F I x) with r | r
    · have q := e (rcHi F I x - 1) (by omega) (by omega)
      rw [← O] at q
      rcases Int.lt_or_le ((rcHi F I x - 1) * k) (rcHi (sclF k F) I x) with s | s
      · rw [Int.sub_mul, Int.one_mul] at s
        omega
      · rw [j _ s] at q
        cases q
    · have : rcHi F I x = 0 := by omega
      rw [this, Int.zero_mul]
      omega
theorem same_scl (hk : 0 < k) (h : OkF F) (h' : OkF (sclF k F)) (hI : ∀ i ∈ I, i < F.s.length) : Same (solvedW F I) (solvedW (sclF k F) I) := by
  have hI' : ∀ i ∈ I, i < (sclF k F).s.length := by rw [lenS]; exact hI
  intro p q hq
  rw [has_pt h hI hq, has_pt h' hI' hq]
  constructor
  · rintro ⟨t, y, ht, p1⟩
    exact ⟨t, y * k, ht, pt_to' hk h h' hI p1⟩
  · rintro ⟨t, y, ht, p1⟩
    have := (pt_scl hk h h' hI _).1 p1
    simp only [sclP] at this
    refine ⟨t * k, y, Int.mul_pos ht hk, ?_⟩
    rw [← Int.mul_assoc, ← Int.mul_assoc]
    exact this
theorem bounds_scl (hk : 0 < k) (h : OkF F) (h' : OkF (sclF k F)) (hI : ∀ i ∈ I, i < F.s.length) (hc : canI F I = true) :
    (solvedW F I).lo.n * (solvedW (sclF k F) I).lo.d = (solvedW (sclF k F) I).lo.n * (solvedW F I).lo.d ∧ (solvedW F I).hi.n * (solvedW (sclF k F) I).hi.d = (solvedW (sclF k F) I).hi.n * (solvedW F I).hi.d := by
  have hI' : ∀ i ∈ I, i < (sclF k F).s.length := by rw [lenS]; exact hI
  have a := (solved_same h hI).1
  have b := (solved_same h' hI').1
  have e := same_scl hk h h' hI
  exact ⟨same_lo a b e hc, same_hi a b e hc⟩
theorem sk_scl (hk : 0 < k) (h : OkF F) (h' : OkF (sclF k F)) {b b' : Bd} (bn : 0 < b.n) (bn' : 0 < b'.n) (_bd : 0 < b.d) (_bd' : 0 < b'.d) (e : b.n * b'.d = b'.n * b.d) {x y : Int} (x0 : 0 ≤ x ∧ x ≤ hgt F.v) (y0 : 0 ≤ y ∧ y ≤ hgt F.v) :
    (skLo F b x y * k ≤ skLo (sclF k F) b' x y ∧ skLo (sclF k F) b' x y ≤ skLo F b x y * k + k - 1) ∧ (skHi (sclF k F) b' x y ≤ skHi F b x y * k ∧ skHi F b x y * k - k + 1 ≤ skHi (sclF k F) b' x y) := by
  have up : ∀ z : Int, z ≤ hgt F.v → z ≤ vX (sclF k F).v (sclF k F).v.length := fun z hz => by
    have := hgtF (k := k) (F := F); unfold hgt at this hz; rw [this]; exact hz
  have D1 := (tm_bd h.v x0.1 x0.2).2.1
  have D2 := (tm_bd h.v y0.1 y0.2).2.1
  have E1 := (tm_bd h'.v x0.1 (up _ x0.2)).2.1
  have E2 := (tm_bd h'.v y0.1 (up _ y0.2)).2.1
  have t1 := tm_scl hk h.v h'.v x0.1 x0.2
  have t2 := tm_scl hk h.v h'.v y0.1 y0.2
  unfold skLo skHi skN skD
  rw [show (sclF k F).v = sclV k F.v from rfl] at E1 E2 ⊢
  generalize tmN F.v x = a at *
  generalize tmN F.v y = c at *
  generalize tmD F.v x = d at *
  generalize tmD F.v y = f at *
  generalize tmN (sclV k F.v) x = a' at *
  generalize tmN (sclV k F.v) y = c' at *
  generalize tmD (sclV k F.v) x = d' at *
  generalize tmD (sclV k F.v) y = f' at *
  generalize b.n = gn at *
  generalize b.d = gd at *
  generalize b'.n = gn' at *
  generalize b'.d = gd' at *
  have P := Int.mul_pos (Int.mul_pos D1 D2) bn
  have P' := Int.mul_pos (Int.mul_pos E1 E2) bn'
  -- both over one denominator
  have s : (a' * f' - c' * d') * gd' * (d * f * gn) = (a * f - c * d) * gd * k * (d' * f' * gn') := by
    have s1 : (a' * f' - c' * d') * (d * f) = (a * f - c * d) * k * (d' * f') := by grind
    calc (a' * f' - c' * d') * gd' * (d * f * gn) = (a' * f' - c' * d') * (d * f) * (gn * gd') := by ac_rfl
      _ = (a * f - c * d) * k * (d' * f') * (gn' * gd) := by rw [s1, e]
      _ = (a * f - c * d) * gd * k * (d' * f' * gn') := by ac_rfl
  have e3 : d' * f' * gn' * (d * f * gn) = d * f * gn * (d' * f' * gn') := by ac_rfl
  have e4 : ((a * f - c * d) * gd * (d' * f' * gn')) * k = (a * f - c * d) * gd * k * (d' * f' * gn') := by ac_rfl
  generalize (a' * f' - c' * d') * gd' = A' at *
  generalize d' * f' * gn' = B' at *
  generalize d * f * gn = B at *
  have PP := Int.mul_pos P P'
  constructor
  · refine fl_by PP hk (fl_mul P P' rfl) ?_
    rw [e4, ← s, ← e3]
    exact fl_mul P' P rfl
  · refine ce_by PP hk (ce_mul P P' rfl) ?_
    rw [e4, ← s, ← e3]
    exact ce_mul P' P rfl
end
end Go.Proofs.YtnfndiafabhhdaaGreat
/- Truth: whatever the wear, the first level and the minutes are, if all is as it was seen it is one of the cases (Wear). Plain. -/
namespace Go.Proofs.YtnfndiafabhhdaaGreat
def lfT (F : Fl) (W x m : Int) : Int := max 0 (tmN F.v x * W - 1000 * m * tmD F.v x)
def cmT (F : Fl) (W x l m : Int) : Int := tmN F.v l * W * tmD F.v x - lfT F W x m * tmD F.v l
def trP (F : Fl) (W x : Int) : V3 := ⟨W * tmD F.v x, 1000 * tmD F.v x, tmN F.v x * W⟩
structure Fair (F : Fl) (W x : Int) (at_ : Int → Int) : Prop where
  w1 : F.wlo ≤ W
  w2 : W ≤ F.whi
  x0 : 0 ≤ x
  xn : x ≤ hgt F.v
  fa : cmT F W x (endA F.f) 0 ≤ 0
  fb : 0 ≤ cmT F W x (endB (hgt F.v) F.f) 0
  s : ∀ i : Int, 0 ≤ i → i < F.s.length → ((sn F i).lo ≤ at_ i ∧ at_ i ≤ (sn F i).hi) ∧ cmT F W x (endA (sn F i).k) (at_ i) ≤ 0 ∧ 0 ≤ cmT F W x (endB (hgt F.v) (sn F i).k) (at_ i)
section
variable {F : Fl} {W x : Int} {at_ : Int → Int} {I : List Int}
theorem cm_le (h : OkF F) {l m : Int} (l0 : 0 < l) (ln : l ≤ hgt F.v) (W0 : 0 < W) (x0 : 0 ≤ x) (xn : x ≤ hgt F.v) (c : cmT F W x l m ≤ 0) : tmN F.v l * (trP F W x).q ≤ ((trP F W x).y - m * (trP F W x).p) * tmD F.v l := by
  have D := (tm_bd h.v (show 0 ≤ l by omega) ln).2.1
  have Dx := (tm_bd h.v x0 xn).2.1
  have t0 := tm_lt' h.v (x := 0) (y := l) (by omega) l0 ln
  rw [tm_zero h.v, Int.zero_mul] at t0
  have Dz := (tm_bd h.v (x := 0) (by omega) (by have := okF_hgt h; rw [← hgt_eq]; omega)).2.1
  have N : 0 < tmN F.v l := by
    rcases Int.lt_or_le 0 (tmN F.v l) with k | k
    · exact k
    · have := Int.mul_nonpos_of_nonpos_of_nonneg k (Int.le_of_lt Dz)
      omega
  unfold cmT lfT at c
  simp only [trP]
  have P := Int.mul_pos (Int.mul_pos N W0) Dx
  rcases Int.lt_or_le 0 (tmN F.v x * W - 1000 * m * tmD F.v x) with k | k
  · rw [Int.max_eq_right (Int.le_of_lt k)] at c
    grind
  · rw [Int.max_eq_left k, Int.zero_mul] at c
    omega
theorem cm_ge (h : OkF F) {l m : Int} (l0 : 0 ≤ l) (ln : l ≤ hgt F.v) (_x0 : 0 ≤ x) (_xn : x ≤ hgt F.v) (c : 0 ≤ cmT F W x l m) : ((trP F W x).y - m * (trP F W x).p) * tmD F.v l ≤ tmN F.v l * (trP F W x).q := by
  have D := (tm_bd h.v l0 ln).2.1
  unfold cmT lfT at c
  simp only [trP]
  have a := mul_mono (Int.le_max_right 0 (tmN F.v x * W - 1000 * m * tmD F.v x)) D
  grind
theorem le_cm (h : OkF F) {l m : Int} (l0 : 0 ≤ l) (ln : l ≤ hgt F.v) (c : l = 0 ∨ tmN F.v l * (trP F W x).q ≤ ((trP F W x).y - m * (trP F W x).p) * tmD F.v l) : cmT F W x l m ≤ 0 := by
  have D := (tm_bd h.v l0 ln).2.1
  unfold cmT lfT
  have a := mul_mono (Int.le_max_right 0 (tmN F.v x * W - 1000 * m * tmD F.v x)) D
  have a0 := mul_mono (Int.le_max_left 0 (tmN F.v x * W - 1000 * m * tmD F.v x)) D
  rcases c with rfl | c
  · rw [tm_zero h.v]
    rw [Int.zero_mul] at a0 ⊢
    rw [Int.zero_mul]
    omega
  · simp only [trP] at c
    grind
theorem lt_cm (h : OkF F) {l m : Int} (l0 : 0 ≤ l) (ln : l ≤ hgt F.v) (c : tmN F.v l * (trP F W x).q < ((trP F W x).y - m * (trP F W x).p) * tmD F.v l) : cmT F W x l m < 0 := by
  have D := (tm_bd h.v l0 ln).2.1
  unfold cmT lfT
  have a := mul_mono (Int.le_max_right 0 (tmN F.v x * W - 1000 * m * tmD F.v x)) D
  simp only [trP] at c
  grind
theorem ge_cm (h : OkF F) (W0 : 0 < W) (x0 : 0 ≤ x) (xn : x ≤ hgt F.v) {l m : Int} (l0 : 0 ≤ l) (ln : l ≤ hgt F.v) (c : ((trP F W x).y - m * (trP F W x).p) * tmD F.v l ≤ tmN F.v l * (trP F W x).q) : 0 ≤ cmT F W x l m := by
  have D := (tm_bd h.v l0 ln).2.1
  have N := (tm_bd h.v l0 ln).1.1
  have Dx := (tm_bd h.v x0 xn).2.1
  unfold cmT lfT
  simp only [trP] at c
  have P := Int.mul_nonneg (Int.mul_nonneg N (Int.le_of_lt W0)) (Int.le_of_lt Dx)
  rcases Int.lt_or_le 0 (tmN F.v x * W - 1000 * m * tmD F.v x) with k | k
  · rw [Int.max_eq_right (Int.le_of_lt k)]
    grind
  · rw [Int.max_eq_left k, Int.zero_mul]
    omega
theorem Fair.W0 (f : Fair F W x at_) (h : OkF F) : 0 < W := by
  have := f.w1
  have := h.w1
  omega
theorem tr_pt (h : OkF F) (f : Fair F W x at_) (hI : ∀ i ∈ I, -2 ≤ i ∧ i < F.s.length) : Pt F I (trP F W x) := by
  have W0 := f.W0 h
  have H := okF_hgt h
  have Dx := (tm_bd h.v f.x0 f.xn).2.1
  have Nx := (tm_bd h.v f.x0 f.xn).1.1
  have w1 := f.w1
  have w2 := f.w2
  have h3 := h.w3
  have q0 := Int.mul_pos W0 Dx
  refine ⟨⟨q0, ⟨?_, ?_⟩, fun y hy => ?_⟩, fun i hi => ?_⟩
  · have := mul_mono (show W ≤ 4000 by omega) Dx
    simp only [trP]
    omega
  · have := mul_mono (show 1 ≤ W by omega) Dx
    simp only [trP]
    omega
  · simp only [frameL, List.mem_cons, List.not_mem_nil, or_false] at hy
    rcases hy with rfl | rfl
    · simp only [Bool.false_eq_true, if_false, Abv, trP]
      have := Int.mul_nonneg Nx (Int.le_of_lt W0)
      omega
    · simp only [if_true, Blw, lnT, trP]
      have t := tm_le h.v f.x0 f.xn (Int.le_refl _)
      have := mul_mono t W0
      grind
  · obtain ⟨i0, i1⟩ := hI i hi
    unfold Ci
    by_cases c : i = -2
    · rw [if_pos c]
      simp only [wearC, trP]
      have a := mul_mono w1 Dx
      have b := mul_mono w2 Dx
      grind
    · rw [if_neg c]
      unfold itemL
      by_cases c1 : i = -1
      · rw [if_pos c1]
        have e := end_in h.f
        have fb := cm_ge h (show 0 ≤ endB (hgt F.v) F.f by omega) e.2.2 f.x0 f.xn f.fb
        rw [Int.zero_mul, Int.sub_zero] at fb
        intro y hy
        simp only [List.mem_cons, List.not_mem_nil, or_false] at hy
        rcases hy with rfl | rfl
        · simp only [Bool.false_eq_true, if_false, Abv, lnT, Int.zero_mul, Int.zero_add]
          rcases Int.lt_or_le 0 (endA F.f) with k | k
          · have fa := cm_le h k (by omega) W0 f.x0 f.xn f.fa
            rw [Int.zero_mul, Int.sub_zero] at fa
            exact fa
          · have k0 : endA F.f = 0 := by omega
            rw [k0, tm_zero h.v, Int.zero_mul]
            exact Int.mul_nonneg (Int.mul_nonneg Nx (Int.le_of_lt W0)) (Int.le_of_lt (tm_bd h.v (x := 0) (by omega) (by rw [← hgt_eq]; omega)).2.1)
        · simp only [if_true, Blw, lnT, Int.zero_mul, Int.zero_add]
          exact fb
      · rw [if_neg c1]
        obtain ⟨⟨s1, s2⟩, s3, s4⟩ := f.s i (by omega) i1
        have e := end_in (sn_okk h i1)
        have Pp : 0 < (trP F W x).p := by simp only [trP]; omega
        have fb := cm_ge h (show 0 ≤ endB (hgt F.v) (sn F i).k by omega) e.2.2 f.x0 f.xn s4
        have Db := (tm_bd h.v (show 0 ≤ endB (hgt F.v) (sn F i).k by omega) e.2.2).2.1
        have up : Blw (lnT F.v (sn F i).hi (endB (hgt F.v) (sn F i).k) false) (trP F W x) := by
          simp only [Blw, lnT]
          have a := mul_mono (mul_mono s2 Pp) Db
          grind
        intro y hy
        rcases List.mem_cons.1 hy with rfl | hy
        · simp only [if_true]
          exact up
        · split at hy
          · rename_i ha
            simp only [List.mem_cons, List.not_mem_nil, or_false] at hy
            subst hy
            simp only [Bool.false_eq_true, if_false, Abv, lnT]
            have fa := cm_le h ha (by omega) W0 f.x0 f.xn s3
            have Da := (tm_bd h.v (show 0 ≤ endA (sn F i).k by omega) (show endA (sn F i).k ≤ hgt F.v by omega)).2.1
            have a := mul_mono (mul_mono s1 Pp) Da
            grind
          · cases hy
theorem tr_can (h : OkF F) (f : Fair F W x at_) (hI : ∀ i ∈ I, -2 ≤ i ∧ i < F.s.length) : canI F I = true := (canI_pt h fun i hi => (hI i hi).2).2 ⟨_, tr_pt h f hI⟩
theorem tr_bounds (h : OkF F) (f : Fair F W x at_) (hI : ∀ i ∈ I, -2 ≤ i ∧ i < F.s.length) : 1000 * (solvedW F I).hi.d ≤ W * (solvedW F I).hi.n ∧ W * (solvedW F I).lo.n ≤ 1000 * (solvedW F I).lo.d := by
  rw [← wear_in (tr_can h f hI), has_pt h (fun i hi => (hI i hi).2) (f.W0 h)]
  exact ⟨tmD F.v x, tmN F.v x * W, (tm_bd h.v f.x0 f.xn).2.1, tr_pt h f hI⟩
theorem tr_un (h : OkF F) (f : Fair F W x at_) (hI : ∀ i ∈ I, -2 ≤ i ∧ i < F.s.length) {l m : Int} (l0 : 0 ≤ l) (ln : l ≤ hgt F.v) (k : unM F I l m = false) : tmN F.v l * (trP F W x).q ≤ ((trP F W x).y - m * (trP F W x).p) * tmD F.v l := by
  have k' : ¬ unM F I l m = true := by rw [k]; decide
  rw [un_iff h (fun i hi => (hI i hi).2) l0 ln] at k'
  rcases Int.lt_or_le (((trP F W x).y - m * (trP F W x).p) * tmD F.v l) (tmN F.v l * (trP F W x).q) with c | c
  · exact absurd ⟨_, tr_pt h f hI, c⟩ k'
  · exact c
theorem tr_ov (h : OkF F) (f : Fair F W x at_) (hI : ∀ i ∈ I, -2 ≤ i ∧ i < F.s.length) {l m : Int} (l0 : 0 ≤ l) (ln : l ≤ hgt F.v) (k : ovM F I l m = false) : ((trP F W x).y - m * (trP F W x).p) * tmD F.v l ≤ tmN F.v l * (trP F W x).q := by
  have k' : ¬ ovM F I l m = true := by rw [k]; decide
  rw [ov_iff h (fun i hi => (hI i hi).2) l0 ln] at k'
  rcases Int.lt_or_le (tmN F.v l * (trP F W x).q) (((trP F W x).y - m * (trP F W x).p) * tmD F.v l) with c | c
  · exact absurd ⟨_, tr_pt h f hI, c⟩ k'
  · exact c
theorem tr_start (h : OkF F) (f : Fair F W x at_) (hI : ∀ i ∈ I, -2 ≤ i ∧ i < F.s.length) : lvLo F I 0 ≤ x ∧ x ≤ lvHi F I 0 := by
  have hI' : ∀ i ∈ I, i < F.s.length := fun i hi => (hI i hi).2
  obtain ⟨⟨a0, a1⟩, a, b⟩ := lvLo_spec h hI' 0
  obtain ⟨⟨e0, e1⟩, e, g⟩ := lvHi_spec h hI' 0
  have W0 := f.W0 h
  have x0 := f.x0
  have xn := f.xn
  constructor
  · rcases Int.lt_or_le x (lvLo F I 0) with k | k
    · have c := tr_un h f hI a0 a1 (a _ (by omega) (Int.le_refl _))
      have t := tm_lt' h.v x0 k a1
      have := Int.mul_lt_mul_of_pos_right t W0
      simp only [trP] at c
      grind
    · exact k
  · rcases Int.lt_or_le (lvHi F I 0) x with k | k
    · have c := tr_ov h f hI e0 e1 (g _ (Int.le_refl _) (by omega))
      have t := tm_lt' h.v e0 k xn
      have := Int.mul_lt_mul_of_pos_right t W0
      simp only [trP] at c
      grind
    · exact k
theorem tr_level (h : OkF F) (f : Fair F W x at_) (hI : ∀ i ∈ I, -2 ≤ i ∧ i < F.s.length) {m : Int} (m0 : 0 ≤ m) : cmT F W x (lvLo F I m) m ≤ 0 ∧ 0 ≤ cmT F W x (lvHi F I m) m := by
  have hI' : ∀ i ∈ I, i < F.s.length := fun i hi => (hI i hi).2
  obtain ⟨⟨a0, a1⟩, a, b⟩ := lvLo_spec h hI' m
  obtain ⟨⟨e0, e1⟩, e, g⟩ := lvHi_spec h hI' m
  have p := tr_pt h f hI
  constructor
  · refine le_cm h a0 a1 ?_
    rcases Int.lt_or_le 0 (lvLo F I m) with k | k
    · exact .inr (tr_un h f hI a0 a1 (a _ k (Int.le_refl _)))
    · exact .inl (by omega)
  · refine ge_cm h (f.W0 h) f.x0 f.xn e0 e1 ?_
    rcases Int.lt_or_le (lvHi F I m) (hgt F.v) with k | k
    · exact tr_ov h f hI e0 e1 (g _ (Int.le_refl _) k)
    · have e2 : lvHi F I m = hgt F.v := by omega
      rw [e2]
      have t := (pt_top p).2
      have D := (tm_bd h.v (x := hgt F.v) (by omega) (Int.le_refl _)).2.1
      have c := mul_mono (show (trP F W x).y - m * (trP F W x).p ≤ (trP F W x).y by have := Int.mul_nonneg m0 (Int.le_of_lt p.pos.2); omega) D
      omega
theorem tr_reached (h : OkF F) (f : Fair F W x at_) (hI : ∀ i ∈ I, -2 ≤ i ∧ i < F.s.length) {l : Int} (l0 : 0 ≤ l) (ln : l ≤ hgt F.v) : 0 ≤ cmT F W x l (rcHi F I l) ∧ (0 < rcLo F I l → cmT F W x l (rcLo F I l - 1) < 0) := by
  have hI' : ∀ i ∈ I, i < F.s.length := fun i hi => (hI i hi).2
  obtain ⟨⟨a0, a1⟩, a, b⟩ := rcLo_spec h hI' l0 ln
  obtain ⟨⟨e0, e1⟩, e, g⟩ := rcHi_spec h hI' l0 ln
  have p := tr_pt h f hI
  refine ⟨ge_cm h (f.W0 h) f.x0 f.xn l0 ln (tr_ov h f hI l0 ln (g _ (Int.le_refl _))), fun k => lt_cm h l0 ln ?_⟩
  have c := tr_un h f hI l0 ln (a _ k (Int.le_refl _))
  have D := (tm_bd h.v l0 ln).2.1
  have d := Int.mul_lt_mul_of_pos_right (show (trP F W x).y - rcLo F I l * (trP F W x).p < (trP F W x).y - (rcLo F I l - 1) * (trP F W x).p by have := p.pos.2; rw [Int.sub_mul]; omega) D
  omega
theorem tr_seen (h : OkF F) (f : Fair F W x at_) (hI : ∀ i ∈ I, -2 ≤ i ∧ i < F.s.length) {i : Int} (i0 : 0 ≤ i) (i1 : i < F.s.length) : rcLo F I (endB (hgt F.v) (sn F i).k) ≤ at_ i ∧ (0 < endA (sn F i).k → at_ i ≤ rcHi F I (endA (sn F i).k)) := by
  have hI' : ∀ i ∈ I, i < F.s.length := fun i hi => (hI i hi).2
  obtain ⟨⟨s1, s2⟩, s3, s4⟩ := f.s i i0 i1
  have e := end_in (sn_okk h i1)
  have p := tr_pt h f hI
  have hso : 0 ≤ (sn F i).lo := by
    have hm : i.toNat < F.s.length := by omega
    have := h.s _ (List.getElem_mem hm)
    unfold sn
    rw [List.getElem?_eq_getElem hm]
    simp only [okSn, Bool.and_eq_true, decide_eq_true_eq] at this
    exact this.1.1.1
  constructor
  · have b0 : 0 ≤ endB (hgt F.v) (sn F i).k := by omega
    have c := cm_ge h b0 e.2.2 f.x0 f.xn s4
    exact ever_ge h hI' b0 e.2.2 (by omega) ((ev_iff h hI' b0 e.2.2).2 ⟨_, p, c⟩)
  · intro k
    have a1 : endA (sn F i).k ≤ hgt F.v := by omega
    have c := cm_le h k a1 (f.W0 h) f.x0 f.xn s3
    rcases Int.lt_or_le (rcHi F I (endA (sn F i).k)) (at_ i) with j | j
    · have r := (rcHi_spec h hI' (show 0 ≤ endA (sn F i).k by omega) a1).2.2 (at_ i - 1) (by omega)
      have c2 := tr_ov h f hI (show 0 ≤ endA (sn F i).k by omega) a1 r
      have D := (tm_bd h.v (show 0 ≤ endA (sn F i).k by omega) a1).2.1
      have d := Int.mul_lt_mul_of_pos_right (show (trP F W x).y - at_ i * (trP F W x).p < (trP F W x).y - (at_ i - 1) * (trP F W x).p by have := p.pos.2; rw [Int.sub_mul]; omega) D
      omega
    · exact j
end
end Go.Proofs.YtnfndiafabhhdaaGreat
