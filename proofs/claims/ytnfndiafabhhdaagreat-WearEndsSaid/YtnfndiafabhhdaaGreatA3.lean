/- What can be so, by points (minutes, wear, first time); the time of a level rises (Wear). Plain. -/
import Derived.Test.YtnfndiafabhhdaaGreatA2
namespace Go.Proofs.YtnfndiafabhhdaaGreat

/-- A case: a point in the cones of some items. -/
def Pt (F : Fl) (I : List Int) (v : V3) : Prop := Kc F v ∧ ∀ i ∈ I, Ci F i v
theorem canI_pt {F : Fl} (h : OkF F) {I : List Int} (hI : ∀ i ∈ I, i < F.s.length) : canI F I = true ↔ ∃ v, Pt F I v := canI_point h hI
theorem Pt.pos {F : Fl} {I : List Int} {v : V3} (h : Pt F I v) : 0 < v.q ∧ 0 < v.p := by
  have := h.1.1
  have := h.1.2.1
  omega
theorem pt_of {F : Fl} (h : OkF F) {I : List Int} {p q t y : Int} (hq : 0 < q) (ht : 0 < t) (k1 : (rnR F I).has p q) (ha : ∀ l ∈ lows (linesL F I), Abv l ⟨q * t, p * t, y⟩) (hb : ∀ u ∈ ups (linesL F I), Blw u ⟨q * t, p * t, y⟩) :
    Pt F I ⟨q * t, p * t, y⟩ := by
  obtain ⟨f1, f2⟩ := (rnR_has h I hq).1 k1
  obtain ⟨g1, g2⟩ := lines_point.1 ⟨ha, hb⟩
  have sc : ∀ {x z : Int}, x ≤ z → x * t ≤ z * t := fun c => Int.mul_le_mul_of_nonneg_right c (Int.le_of_lt ht)
  refine ⟨⟨Int.mul_pos hq ht, ?_, g1⟩, fun i hi => ?_⟩
  · have c1 := sc f1.1
    have c2 := sc f1.2
    have e1 : 1000 * q * t = 1000 * (q * t) := by ac_rfl
    have e2 : p * 4000 * t = p * t * 4000 := by ac_rfl
    simp only
    omega
  · unfold Ci
    by_cases c : i = -2
    · rw [if_pos c]
      obtain ⟨w1, w2⟩ := f2 (c ▸ hi)
      have c1 := sc w1
      have c2 := sc w2
      have e1 : 1000 * q * t = 1000 * (q * t) := by ac_rfl
      have e2 : p * F.whi * t = p * t * F.whi := by ac_rfl
      have e3 : p * F.wlo * t = p * t * F.wlo := by ac_rfl
      simp only [wearC]
      omega
    · rw [if_neg c]
      exact g2 i hi c
theorem Pt.to {F : Fl} (h : OkF F) {I : List Int} {v : V3} (k : Pt F I v) : (rnR F I).has v.p v.q ∧ (∀ l ∈ lows (linesL F I), Abv l v) ∧ ∀ u ∈ ups (linesL F I), Blw u v := by
  obtain ⟨⟨hq, f1, g1⟩, k⟩ := k
  refine ⟨(rnR_has h I hq).2 ⟨f1, fun c => ?_⟩, lines_point.2 ⟨g1, fun i hi c => ?_⟩⟩
  · have := k _ c
    unfold Ci at this
    rwa [if_pos rfl] at this
  · have := k i hi
    unfold Ci at this
    rwa [if_neg c] at this
theorem fit_vals {l u : Ln} {p q : Int} (s : (l.s || u.s) = true) : Fit l u p q ↔ (l.k * p * l.d + l.n * q) * u.d < (u.k * p * u.d + u.n * q) * l.d := by
  unfold Fit
  rw [if_pos s]
  simp only [lnD, lnN, Int.sub_mul, Int.add_mul]
  have e1 : l.k * p * (l.d * u.d) = l.k * p * l.d * u.d := by ac_rfl
  have e2 : u.k * p * (l.d * u.d) = u.k * p * u.d * l.d := by ac_rfl
  have e3 : u.n * l.d * q = u.n * q * l.d := by ac_rfl
  have e4 : l.n * u.d * q = l.n * q * u.d := by ac_rfl
  omega
/-- The least of some lines at g. -/
theorem bot_line {p q : Int} : ∀ (B : List Ln), B ≠ [] → (∀ l ∈ B, 0 < l.d ∧ l.s = false) → ∃ t ∈ B, ∀ u ∈ B, Fit t u p q
  | [], h, _ => absurd rfl h
  | [l], _, h => ⟨l, by simp, fun x hx => by
      obtain rfl : x = l := by simpa using hx
      exact fit_self (h x (by simp)).2⟩
  | l :: m :: A, _, h => by
    obtain ⟨t, ht, k⟩ := bot_line (m :: A) (by simp) (fun x hx => h x (by simp [hx]))
    have hl := h l (by simp)
    have ht' := h t (by simp only [List.mem_cons] at ht ⊢; exact .inr ht)
    rcases Int.le_total ((t.k * p * t.d + t.n * q) * l.d) ((l.k * p * l.d + l.n * q) * t.d) with c | c
    · refine ⟨t, by simp only [List.mem_cons] at ht ⊢; exact .inr ht, fun x hx => ?_⟩
      rcases List.mem_cons.1 hx with rfl | hx
      · exact (fit_val ht'.2 hl.2).2 c
      · exact k x hx
    · refine ⟨l, by simp, fun x hx => ?_⟩
      rcases List.mem_cons.1 hx with rfl | hx
      · exact fit_self hl.2
      · have hx' := h x (by simp only [List.mem_cons] at hx ⊢; exact .inr hx)
        exact fit_trans hl.1 ht'.1 hx'.1 hl.2 ht'.2 hx'.2 ((fit_val hl.2 ht'.2).2 c) (k x hx)
theorem lowsP {F : Fl} (h : OkF F) {I : List Int} (hI : ∀ i ∈ I, i < F.s.length) : ∀ l ∈ lows (linesL F I), 0 < l.d ∧ l.s = false := fun _ hl => ⟨lines_pos h hI _ (mem_lows.1 hl), lines_soft _ (mem_lows.1 hl)⟩
theorem upsP {F : Fl} (h : OkF F) {I : List Int} (hI : ∀ i ∈ I, i < F.s.length) : ∀ l ∈ ups (linesL F I), 0 < l.d ∧ l.s = false := fun _ hl => ⟨lines_pos h hI _ (mem_ups.1 hl), lines_soft _ (mem_ups.1 hl)⟩
theorem lows0 {F : Fl} {I : List Int} : lows (linesL F I) ≠ [] := fun e => by
  have : (⟨0, 0, 1, false⟩ : Ln) ∈ lows (linesL F I) := mem_lows.2 (List.mem_append.2 (.inl (by simp [frameL])))
  rw [e] at this
  cases this
theorem ups0 {F : Fl} {I : List Int} : ups (linesL F I) ≠ [] := fun e => by
  have : lnT F.v 0 (hgt F.v) false ∈ ups (linesL F I) := mem_ups.2 (List.mem_append.2 (.inl (by simp [frameL])))
  rw [e] at this
  cases this
/-- With a further line from above, from below: what is left of the first time behind its minutes. -/
theorem canM_up {F : Fl} (h : OkF F) {I : List Int} (hI : ∀ i ∈ I, i < F.s.length) {x : Ln} (hx : 0 < x.d) :
    canM F I (x, true) = true ↔ ∃ v, Pt F I v ∧ if x.s then (v.y - x.k * v.p) * x.d < x.n * v.q else (v.y - x.k * v.p) * x.d ≤ x.n * v.q := by
  rw [canM_iff h hI hx]
  have e1 : lows [(x, true)] = [] := rfl
  have e2 : ups [(x, true)] = [x] := rfl
  rw [e1, e2, List.append_nil]
  have A := lowsP h hI
  have B := upsP h hI
  constructor
  · rintro ⟨p, q, hq, hp, k1, k2⟩
    obtain ⟨t, ht, k⟩ := top_line (p := p) (q := q) _ lows0 A
    have td := (A t ht).1
    refine ⟨⟨q * t.d, p * t.d, t.k * p * t.d + t.n * q⟩, pt_of h hq td k1 (fun l hl => ?_) (fun u hu => ?_), ?_⟩
    · have f := (fit_val (A l hl).2 (A t ht).2).1 (k l hl)
      simp only [Abv]
      have e1 : l.k * (p * t.d) * l.d + l.n * (q * t.d) = (l.k * p * l.d + l.n * q) * t.d := by rw [Int.add_mul]; congr 1 <;> ac_rfl
      rw [e1]
      exact f
    · have f := (fit_val (A t ht).2 (B u hu).2).1 (k2 t ht u (List.mem_append.2 (.inl hu)))
      simp only [Blw]
      have e1 : u.k * (p * t.d) * u.d + u.n * (q * t.d) = (u.k * p * u.d + u.n * q) * t.d := by rw [Int.add_mul]; congr 1 <;> ac_rfl
      rw [e1]
      exact f
    · have f := k2 t ht x (List.mem_append.2 (.inr (by simp)))
      have e1 : (t.k * p * t.d + t.n * q - x.k * (p * t.d)) * x.d = (t.k * p * t.d + t.n * q) * x.d - x.k * p * x.d * t.d := by rw [Int.sub_mul]; congr 1; ac_rfl
      have e2 : x.n * (q * t.d) = x.n * q * t.d := by ac_rfl
      have e3 : (x.k * p * x.d + x.n * q) * t.d = x.k * p * x.d * t.d + x.n * q * t.d := by rw [Int.add_mul]
      simp only [e1, e2]
      cases hs : x.s
      · have f := (fit_val (A t ht).2 hs).1 f
        simp only [Bool.false_eq_true, if_false]
        omega
      · have f := (fit_vals (by simp [hs])).1 f
        simp only [if_true]
        omega
  · rintro ⟨v, k, c⟩
    obtain ⟨hq, hp⟩ := k.pos
    obtain ⟨k1, ka, kb⟩ := k.to h
    refine ⟨v.p, v.q, hq, hp, k1, fun l hl u hu => ?_⟩
    rcases List.mem_append.1 hu with hu | hu
    · exact point_fit (A l hl).1 (B u hu).1 (A l hl).2 (B u hu).2 (ka l hl) (kb u hu)
    · obtain rfl : u = x := by simpa using hu
      have a := Int.mul_le_mul_of_nonneg_right (ka l hl) (Int.le_of_lt hx)
      have e1 : (u.k * v.p * u.d + u.n * v.q) * l.d = u.k * v.p * u.d * l.d + u.n * v.q * l.d := by rw [Int.add_mul]
      have e2 : v.y * l.d * u.d = v.y * u.d * l.d := by ac_rfl
      have ld := (A l hl).1
      cases hs : u.s
      · rw [fit_val (A l hl).2 hs]
        simp only [hs, Bool.false_eq_true, if_false, Int.sub_mul] at c
        have b := Int.mul_le_mul_of_nonneg_right (show v.y * u.d ≤ u.k * v.p * u.d + u.n * v.q by omega) (Int.le_of_lt ld)
        rw [Int.add_mul (u.k * v.p * u.d)] at b
        omega
      · rw [fit_vals (by simp [hs])]
        simp only [hs, if_true, Int.sub_mul] at c
        have b := Int.mul_lt_mul_of_pos_right (show v.y * u.d < u.k * v.p * u.d + u.n * v.q by omega) ld
        rw [Int.add_mul (u.k * v.p * u.d)] at b
        omega
theorem canM_dn {F : Fl} (h : OkF F) {I : List Int} (hI : ∀ i ∈ I, i < F.s.length) {x : Ln} (hx : 0 < x.d) :
    canM F I (x, false) = true ↔ ∃ v, Pt F I v ∧ if x.s then x.n * v.q < (v.y - x.k * v.p) * x.d else x.n * v.q ≤ (v.y - x.k * v.p) * x.d := by
  rw [canM_iff h hI hx]
  have e1 : lows [(x, false)] = [x] := rfl
  have e2 : ups [(x, false)] = [] := rfl
  rw [e1, e2, List.append_nil]
  have A := lowsP h hI
  have B := upsP h hI
  constructor
  · rintro ⟨p, q, hq, hp, k1, k2⟩
    obtain ⟨t, ht, k⟩ := bot_line (p := p) (q := q) _ ups0 B
    have td := (B t ht).1
    refine ⟨⟨q * t.d, p * t.d, t.k * p * t.d + t.n * q⟩, pt_of h hq td k1 (fun l hl => ?_) (fun u hu => ?_), ?_⟩
    · have f := (fit_val (A l hl).2 (B t ht).2).1 (k2 l (List.mem_append.2 (.inl hl)) t ht)
      simp only [Abv]
      have e1 : l.k * (p * t.d) * l.d + l.n * (q * t.d) = (l.k * p * l.d + l.n * q) * t.d := by rw [Int.add_mul]; congr 1 <;> ac_rfl
      rw [e1]
      exact f
    · have f := (fit_val (B t ht).2 (B u hu).2).1 (k u hu)
      simp only [Blw]
      have e1 : u.k * (p * t.d) * u.d + u.n * (q * t.d) = (u.k * p * u.d + u.n * q) * t.d := by rw [Int.add_mul]; congr 1 <;> ac_rfl
      rw [e1]
      exact f
    · have f := k2 x (List.mem_append.2 (.inr (by simp))) t ht
      have e1 : (t.k * p * t.d + t.n * q - x.k * (p * t.d)) * x.d = (t.k * p * t.d + t.n * q) * x.d - x.k * p * x.d * t.d := by rw [Int.sub_mul]; congr 1; ac_rfl
      have e2 : x.n * (q * t.d) = x.n * q * t.d := by ac_rfl
      have e3 : (x.k * p * x.d + x.n * q) * t.d = x.k * p * x.d * t.d + x.n * q * t.d := by rw [Int.add_mul]
      simp only [e1, e2]
      cases hs : x.s
      · have f := (fit_val hs (B t ht).2).1 f
        simp only [Bool.false_eq_true, if_false]
        omega
      · have f := (fit_vals (by simp [hs])).1 f
        simp only [if_true]
        omega
  · rintro ⟨v, k, c⟩
    obtain ⟨hq, hp⟩ := k.pos
    obtain ⟨k1, ka, kb⟩ := k.to h
    refine ⟨v.p, v.q, hq, hp, k1, fun l hl u hu => ?_⟩
    rcases List.mem_append.1 hl with hl | hl
    · exact point_fit (A l hl).1 (B u hu).1 (A l hl).2 (B u hu).2 (ka l hl) (kb u hu)
    · obtain rfl : l = x := by simpa using hl
      have a := Int.mul_le_mul_of_nonneg_right (kb u hu) (Int.le_of_lt hx)
      have e1 : (l.k * v.p * l.d + l.n * v.q) * u.d = l.k * v.p * l.d * u.d + l.n * v.q * u.d := by rw [Int.add_mul]
      have e2 : v.y * u.d * l.d = v.y * l.d * u.d := by ac_rfl
      have ud := (B u hu).1
      cases hs : l.s
      · rw [fit_val hs (B u hu).2]
        simp only [hs, Bool.false_eq_true, if_false, Int.sub_mul] at c
        have b := Int.mul_le_mul_of_nonneg_right (show l.k * v.p * l.d + l.n * v.q ≤ v.y * l.d by omega) (Int.le_of_lt ud)
        rw [Int.add_mul (l.k * v.p * l.d)] at b
        omega
      · rw [fit_vals (by simp [hs])]
        simp only [hs, if_true, Int.sub_mul] at c
        have b := Int.mul_lt_mul_of_pos_right (show l.k * v.p * l.d + l.n * v.q < v.y * l.d by omega) ud
        rw [Int.add_mul (l.k * v.p * l.d)] at b
        omega
/-- The time of a level rises. -/
theorem tm_step {l : List Rg} (hv : okVs l = true) {x : Int} (x0 : 0 ≤ x) (xn : x < vX l l.length) : tmN l x * tmD l (x + 1) < tmN l (x + 1) * tmD l x := by
  have hv' := hv
  simp only [okVs, Bool.and_eq_true, decide_eq_true_eq] at hv
  obtain ⟨⟨n1, n2⟩, h⟩ := hv
  obtain ⟨_, r1, r2, r3⟩ := ringF_in (l := l) (x := x + 1) l.length 0 (show vX l 0 ≤ x + 1 by show (0 : Int) ≤ x + 1; omega) (by rw [Nat.zero_add]; omega) (by omega)
  rw [Nat.zero_add] at r1
  -- the ring that has x + 1, by its own or the one below
  obtain ⟨j, hj, j1, j2⟩ : ∃ j, j < l.length ∧ vX l j ≤ x ∧ x + 1 ≤ vX l (j + 1) := by
    rcases Int.lt_or_le x (vX l (ringF l (x + 1) l.length 0)) with k | k
    · obtain ⟨i, hi⟩ : ∃ i, ringF l (x + 1) l.length 0 = i := ⟨_, rfl⟩
      rw [hi] at r1 r2 r3 k
      cases i with
      | zero => have : vX l 0 = 0 := rfl; omega
      | succ i =>
        have := (vX_lt h (show i < i + 1 by omega) (by omega)).1
        exact ⟨i, by omega, by omega, by omega⟩
    · exact ⟨_, r1, k, r3⟩
  obtain ⟨a1, a2⟩ := tm_at hv' hj j1 (by omega)
  obtain ⟨b1, b2⟩ := tm_at hv' hj (show vX l j ≤ x + 1 by omega) j2
  obtain ⟨b, _, d⟩ := okRg_bd (okFrom_at h j hj)
  have e : tN0 l j (x + 1) = tN0 l j x + (rg l j).d := by
    unfold tN0
    rw [show x + 1 - vX l j = x - vX l j + 1 by omega, Int.add_mul, Int.one_mul, Int.add_assoc]
  have nn := (tN0_nn h hj j1 (by omega)).1
  have nn1 := (tN0_nn h hj (show vX l j ≤ x + 1 by omega) j2).1
  have H : 0 < (rg l j).h := by omega
  have c1 := lowN_cross nn H
  have c2 := lowN_cross nn1 H
  rw [a1, a2] at c1
  rw [b1, b2] at c2
  have D1 : 0 < tmD l x := by rw [← a2]; exact (lowN_bd nn H).2.1
  have D2 : 0 < tmD l (x + 1) := by rw [← b2]; exact (lowN_bd nn1 H).2.1
  -- times the height of the ring
  have key : tmN l x * tmD l (x + 1) * (rg l j).h < tmN l (x + 1) * tmD l x * (rg l j).h := by
    calc tmN l x * tmD l (x + 1) * (rg l j).h = tmN l x * (rg l j).h * tmD l (x + 1) := by ac_rfl
      _ = tN0 l j x * (tmD l x * tmD l (x + 1)) := by rw [c1]; ac_rfl
      _ < tN0 l j (x + 1) * (tmD l x * tmD l (x + 1)) := Int.mul_lt_mul_of_pos_right (by omega) (Int.mul_pos D1 D2)
      _ = tmN l (x + 1) * (rg l j).h * tmD l x := by rw [c2]; ac_rfl
      _ = tmN l (x + 1) * tmD l x * (rg l j).h := by ac_rfl
  exact Int.lt_of_mul_lt_mul_right key (Int.le_of_lt H)
theorem tm_lt {l : List Rg} (hv : okVs l = true) {x : Int} (x0 : 0 ≤ x) : ∀ k : Nat, x + (k + 1) ≤ vX l l.length → tmN l x * tmD l (x + (k + 1)) < tmN l (x + (k + 1)) * tmD l x
  | 0, hk => by
    have := tm_step hv x0 (by omega)
    simpa using this
  | k + 1, hk => by
    have ih := tm_lt hv x0 k (by omega)
    have st := tm_step hv (show 0 ≤ x + (k + 1) by omega) (by omega)
    have e : x + ((k + 1 : Nat) + 1 : Int) = x + (k + 1) + 1 := by omega
    rw [e]
    have D1 := (tm_bd hv (show 0 ≤ x by omega) (by omega)).2.1
    have D2 := (tm_bd hv (show 0 ≤ x + (k + 1) by omega) (by omega)).2.1
    have D3 := (tm_bd hv (show 0 ≤ x + (k + 1) + 1 by omega) (by omega)).2.1
    generalize x + (k + 1 : Int) = y at *
    have s1 := Int.mul_lt_mul_of_pos_right ih D3
    have s2 := Int.mul_lt_mul_of_pos_right st D1
    have key : tmN l x * tmD l (y + 1) * tmD l y < tmN l (y + 1) * tmD l x * tmD l y := by
      have e1 : tmN l x * tmD l y * tmD l (y + 1) = tmN l x * tmD l (y + 1) * tmD l y := by ac_rfl
      have e2 : tmN l y * tmD l x * tmD l (y + 1) = tmN l y * tmD l (y + 1) * tmD l x := by ac_rfl
      have e3 : tmN l (y + 1) * tmD l y * tmD l x = tmN l (y + 1) * tmD l x * tmD l y := by ac_rfl
      omega
    exact Int.lt_of_mul_lt_mul_right key (Int.le_of_lt D2)
theorem tm_le {l : List Rg} (hv : okVs l = true) {x y : Int} (x0 : 0 ≤ x) (xy : x ≤ y) (yn : y ≤ vX l l.length) : tmN l x * tmD l y ≤ tmN l y * tmD l x := by
  rcases Int.lt_or_le x y with k | k
  · have := tm_lt hv x0 (y - x - 1).toNat (by omega)
    rw [show x + (((y - x - 1).toNat : Int) + 1) = y by omega] at this
    omega
  · obtain rfl : x = y := by omega
    omega
theorem tm_lt' {l : List Rg} (hv : okVs l = true) {x y : Int} (x0 : 0 ≤ x) (xy : x < y) (yn : y ≤ vX l l.length) : tmN l x * tmD l y < tmN l y * tmD l x := by
  have := tm_lt hv x0 (y - x - 1).toNat (by omega)
  rw [show x + (((y - x - 1).toNat : Int) + 1) = y by omega] at this
  omega
/-- The time of the bottom, of the top. -/
theorem tm_zero {l : List Rg} (hv : okVs l = true) : tmN l 0 = 0 := by
  have hv' := hv
  simp only [okVs, Bool.and_eq_true, decide_eq_true_eq] at hv
  obtain ⟨b, _, d⟩ := okRg_bd (okFrom_at hv.2 0 (by omega))
  have := (tm_at hv' (j := 0) (x := 0) (by omega) (Int.le_refl _) (by show 0 ≤ 0 + (rg l 0).h; omega)).1
  rw [← this]
  have e : tN0 l 0 0 = 0 := by simp [tN0, vX, vY]
  unfold lowN1
  rw [e, Int.zero_ediv]
theorem tm_top {l : List Rg} (hv : okVs l = true) {x : Int} (x0 : 0 ≤ x) (xn : x ≤ vX l l.length) : tmN l x ≤ 480000 * tmD l x := by
  have hv' := hv
  simp only [okVs, Bool.and_eq_true, decide_eq_true_eq] at hv
  obtain ⟨⟨n1, n2⟩, h⟩ := hv
  obtain ⟨_, r1, r2, r3⟩ := ringF_in (l := l) (x := x) l.length 0 x0 (by rw [Nat.zero_add]; exact xn) (by omega)
  rw [Nat.zero_add] at r1
  obtain ⟨a1, a2⟩ := tm_at hv' r1 r2 r3
  obtain ⟨b, _, _⟩ := okRg_bd (okFrom_at h _ r1)
  obtain ⟨c1, c2⟩ := tN0_nn h r1 r2 r3
  have H : 0 < (rg l (ringF l x l.length 0)).h := by omega
  have cr := lowN_cross c1 H
  rw [a1, a2] at cr
  have y := (vXY_bd h (ringF l x l.length 0 + 1) (by omega)).2.1
  have c3 := Int.mul_le_mul_of_nonneg_right (show vY l (ringF l x l.length 0 + 1) ≤ 480000 by omega) (Int.le_of_lt H)
  have D := (tm_bd hv' x0 xn).2.1
  generalize (rg l (ringF l x l.length 0)).h = G at *
  generalize tN0 l (ringF l x l.length 0) x = T at *
  have c4 := Int.mul_le_mul_of_nonneg_right (show T ≤ 480000 * G by omega) (Int.le_of_lt D)
  have key : tmN l x * G ≤ 480000 * tmD l x * G := by
    rw [cr]
    have : 480000 * tmD l x * G = 480000 * G * tmD l x := by ac_rfl
    omega
  exact (mul_le_r H).1 key
end Go.Proofs.YtnfndiafabhhdaaGreat
/- The later, the lower: what Level, Reached, Surely and Ever say, by points (Wear). Plain. -/
namespace Go.Proofs.YtnfndiafabhhdaaGreat

/-- Can the level be below, above a level, at or below it, some minutes behind the filling. -/
def unM (F : Fl) (I : List Int) (x m : Int) : Bool := canM F I (lnT F.v m x true, true)
def ovM (F : Fl) (I : List Int) (x m : Int) : Bool := canM F I (lnT F.v m x true, false)
def evM (F : Fl) (I : List Int) (x m : Int) : Bool := canM F I (lnT F.v m x false, true)
theorem hgt_eq (F : Fl) : hgt F.v = vX F.v F.v.length := rfl
theorem okF_hgt {F : Fl} (h : OkF F) : 1 ≤ hgt F.v ∧ hgt F.v ≤ 24000 := by
  have hv := h.v
  simp only [okVs, Bool.and_eq_true, decide_eq_true_eq] at hv
  have := (vXY_bd hv.2 F.v.length (Nat.le_refl _)).1
  unfold hgt
  omega
section
variable {F : Fl} {I : List Int}
theorem un_iff (h : OkF F) (hI : ∀ i ∈ I, i < F.s.length) {x m : Int} (x0 : 0 ≤ x) (xn : x ≤ hgt F.v) : unM F I x m = true ↔ ∃ v, Pt F I v ∧ (v.y - m * v.p) * tmD F.v x < tmN F.v x * v.q := by
  have D := (tm_bd h.v x0 xn).2.1
  have := canM_up h hI (x := lnT F.v m x true) D
  simpa [lnT, unM, ovM, evM] using this
theorem ov_iff (h : OkF F) (hI : ∀ i ∈ I, i < F.s.length) {x m : Int} (x0 : 0 ≤ x) (xn : x ≤ hgt F.v) : ovM F I x m = true ↔ ∃ v, Pt F I v ∧ tmN F.v x * v.q < (v.y - m * v.p) * tmD F.v x := by
  have D := (tm_bd h.v x0 xn).2.1
  have := canM_dn h hI (x := lnT F.v m x true) D
  simpa [lnT, unM, ovM, evM] using this
theorem ev_iff (h : OkF F) (hI : ∀ i ∈ I, i < F.s.length) {x m : Int} (x0 : 0 ≤ x) (xn : x ≤ hgt F.v) : evM F I x m = true ↔ ∃ v, Pt F I v ∧ (v.y - m * v.p) * tmD F.v x ≤ tmN F.v x * v.q := by
  have D := (tm_bd h.v x0 xn).2.1
  have := canM_up h hI (x := lnT F.v m x false) D
  simpa [lnT, unM, ovM, evM] using this
theorem mul_mono {a b c : Int} (h : a ≤ b) (hc : 0 < c) : a * c ≤ b * c := Int.mul_le_mul_of_nonneg_right h (Int.le_of_lt hc)
/-- With more minutes: under is easier, over is harder. -/
theorem un_min (h : OkF F) (hI : ∀ i ∈ I, i < F.s.length) {x m m' : Int} (x0 : 0 ≤ x) (xn : x ≤ hgt F.v) (hm : m ≤ m') (k : unM F I x m = true) : unM F I x m' = true := by
  rw [un_iff h hI x0 xn] at k ⊢
  obtain ⟨v, p, c⟩ := k
  have D := (tm_bd h.v x0 xn).2.1
  have a := mul_mono hm p.pos.2
  have b := mul_mono (show v.y - m' * v.p ≤ v.y - m * v.p by omega) D
  exact ⟨v, p, by omega⟩
theorem ov_min (h : OkF F) (hI : ∀ i ∈ I, i < F.s.length) {x m m' : Int} (x0 : 0 ≤ x) (xn : x ≤ hgt F.v) (hm : m ≤ m') (k : ovM F I x m' = true) : ovM F I x m = true := by
  rw [ov_iff h hI x0 xn] at k ⊢
  obtain ⟨v, p, c⟩ := k
  have D := (tm_bd h.v x0 xn).2.1
  have a := mul_mono hm p.pos.2
  have b := mul_mono (show v.y - m' * v.p ≤ v.y - m * v.p by omega) D
  exact ⟨v, p, by omega⟩
/-- At a higher level. -/
theorem lt_cross {y q n d n' d' : Int} (hq : 0 < q) (hd : 0 < d) (hd' : 0 < d') (e : n * d' ≤ n' * d) (k : y * d < n * q) : y * d' < n' * q := by
  have a := Int.mul_lt_mul_of_pos_right k hd'
  have b := mul_mono e hq
  have e1 : y * d * d' = y * d' * d := by ac_rfl
  have e2 : n * q * d' = n * d' * q := by ac_rfl
  have e3 : n' * d * q = n' * q * d := by ac_rfl
  have c : y * d' * d < n' * q * d := by omega
  exact (mul_lt_r hd).1 c
theorem gt_cross {y q n d n' d' : Int} (hq : 0 < q) (hd : 0 < d) (hd' : 0 < d') (e : n' * d ≤ n * d') (k : n * q < y * d) : n' * q < y * d' := by
  have a := Int.mul_lt_mul_of_pos_right k hd'
  have b := mul_mono e hq
  have e1 : y * d * d' = y * d' * d := by ac_rfl
  have e2 : n * q * d' = n * d' * q := by ac_rfl
  have e3 : n' * d * q = n' * q * d := by ac_rfl
  have c : n' * q * d < y * d' * d := by omega
  exact (mul_lt_r hd).1 c
theorem un_lev (h : OkF F) (hI : ∀ i ∈ I, i < F.s.length) {x x' m : Int} (x0 : 0 ≤ x) (xx : x ≤ x') (xn : x' ≤ hgt F.v) (k : unM F I x m = true) : unM F I x' m = true := by
  rw [un_iff h hI x0 (by omega)] at k
  rw [un_iff h hI (by omega) xn]
  obtain ⟨v, p, c⟩ := k
  exact ⟨v, p, lt_cross p.pos.1 (tm_bd h.v x0 (by rw [← hgt_eq]; omega)).2.1 (tm_bd h.v (by omega) xn).2.1 (tm_le h.v x0 xx xn) c⟩
theorem ov_lev (h : OkF F) (hI : ∀ i ∈ I, i < F.s.length) {x x' m : Int} (x0 : 0 ≤ x) (xx : x ≤ x') (xn : x' ≤ hgt F.v) (k : ovM F I x' m = true) : ovM F I x m = true := by
  rw [ov_iff h hI (by omega) xn] at k
  rw [ov_iff h hI x0 (by omega)]
  obtain ⟨v, p, c⟩ := k
  exact ⟨v, p, gt_cross p.pos.1 (tm_bd h.v (by omega) xn).2.1 (tm_bd h.v x0 (by rw [← hgt_eq]; omega)).2.1 (tm_le h.v x0 xx xn) c⟩
/-- Where there is a case, a level that cannot be fallen below and cannot be passed is one. -/
theorem un_ov (h : OkF F) (hI : ∀ i ∈ I, i < F.s.length) (hc : canI F I = true) {x x' m : Int} (x0 : 0 ≤ x) (xx : x < x') (xn : x' ≤ hgt F.v) (k : unM F I x' m = false) : ovM F I x m = true := by
  obtain ⟨v, p⟩ := (canI_pt h hI).1 hc
  rw [ov_iff h hI x0 (by omega)]
  have k' : ¬ unM F I x' m = true := by rw [k]; decide
  rw [un_iff h hI (by omega) xn] at k'
  have c : tmN F.v x' * v.q ≤ (v.y - m * v.p) * tmD F.v x' := by
    rcases Int.lt_or_le ((v.y - m * v.p) * tmD F.v x') (tmN F.v x' * v.q) with c | c
    · exact absurd ⟨v, p, c⟩ k'
    · exact c
  refine ⟨v, p, ?_⟩
  have D := (tm_bd h.v x0 (show x ≤ vX F.v F.v.length by rw [← hgt_eq]; omega)).2.1
  have D' := (tm_bd h.v (show 0 ≤ x' by omega) xn).2.1
  have lt := tm_lt' h.v x0 xx xn
  have a := Int.mul_lt_mul_of_pos_right lt p.pos.1
  have b := mul_mono c D
  have e1 : tmN F.v x' * v.q * tmD F.v x = tmN F.v x' * tmD F.v x * v.q := by ac_rfl
  have e2 : tmN F.v x * tmD F.v x' * v.q = tmN F.v x * v.q * tmD F.v x' := by ac_rfl
  have e3 : (v.y - m * v.p) * tmD F.v x' * tmD F.v x = (v.y - m * v.p) * tmD F.v x * tmD F.v x' := by ac_rfl
  have c : tmN F.v x * v.q * tmD F.v x' < (v.y - m * v.p) * tmD F.v x * tmD F.v x' := by omega
  exact (mul_lt_r D').1 c
/-- Minutes, too. -/
theorem un_ov_min (h : OkF F) (hI : ∀ i ∈ I, i < F.s.length) (hc : canI F I = true) {x m m' : Int} (x0 : 0 ≤ x) (xn : x ≤ hgt F.v) (mm : m < m') (k : unM F I x m' = false) : ovM F I x m = true := by
  obtain ⟨v, p⟩ := (canI_pt h hI).1 hc
  rw [ov_iff h hI x0 xn]
  have k' : ¬ unM F I x m' = true := by rw [k]; decide
  rw [un_iff h hI x0 xn] at k'
  have c : tmN F.v x * v.q ≤ (v.y - m' * v.p) * tmD F.v x := by
    rcases Int.lt_or_le ((v.y - m' * v.p) * tmD F.v x) (tmN F.v x * v.q) with c | c
    · exact absurd ⟨v, p, c⟩ k'
    · exact c
  refine ⟨v, p, ?_⟩
  have D := (tm_bd h.v x0 xn).2.1
  have a := Int.mul_lt_mul_of_pos_right mm p.pos.2
  have b := Int.mul_lt_mul_of_pos_right (show v.y - m' * v.p < v.y - m * v.p by omega) D
  omega
/-- Surely implies Ever. -/
theorem ov_ev (h : OkF F) (hI : ∀ i ∈ I, i < F.s.length) (hc : canI F I = true) {x m : Int} (x0 : 0 ≤ x) (xn : x ≤ hgt F.v) (k : ovM F I x m = false) : evM F I x m = true := by
  obtain ⟨v, p⟩ := (canI_pt h hI).1 hc
  rw [ev_iff h hI x0 xn]
  have k' : ¬ ovM F I x m = true := by rw [k]; decide
  rw [ov_iff h hI x0 xn] at k'
  refine ⟨v, p, ?_⟩
  rcases Int.lt_or_le (tmN F.v x * v.q) ((v.y - m * v.p) * tmD F.v x) with c | c
  · exact absurd ⟨v, p, c⟩ k'
  · exact c
theorem un_ev (h : OkF F) (hI : ∀ i ∈ I, i < F.s.length) {x m : Int} (x0 : 0 ≤ x) (xn : x ≤ hgt F.v) (k : unM F I x m = true) : evM F I x m = true := by
  rw [un_iff h hI x0 xn] at k
  rw [ev_iff h hI x0 xn]
  obtain ⟨v, p, c⟩ := k
  exact ⟨v, p, by omega⟩
theorem ev_un (h : OkF F) (hI : ∀ i ∈ I, i < F.s.length) {x m m' : Int} (x0 : 0 ≤ x) (xn : x ≤ hgt F.v) (mm : m < m') (k : evM F I x m = true) : unM F I x m' = true := by
  rw [ev_iff h hI x0 xn] at k
  rw [un_iff h hI x0 xn]
  obtain ⟨v, p, c⟩ := k
  have D := (tm_bd h.v x0 xn).2.1
  have a := Int.mul_lt_mul_of_pos_right mm p.pos.2
  have b := Int.mul_lt_mul_of_pos_right (show v.y - m' * v.p < v.y - m * v.p by omega) D
  exact ⟨v, p, by omega⟩
/-- The first time is at most that of the top; at the end of all minutes all has run out. -/
theorem pt_top {v : V3} (p : Pt F I v) : 0 ≤ v.y ∧ v.y * tmD F.v (hgt F.v) ≤ tmN F.v (hgt F.v) * v.q := by
  obtain ⟨_, g⟩ := p.1.2
  have g1 := g (⟨0, 0, 1, false⟩, false) (by simp [frameL])
  have g2 := g (lnT F.v 0 (hgt F.v) false, true) (by simp [frameL])
  simp [Abv] at g1
  simp [Blw, lnT] at g2
  exact ⟨g1, g2⟩
theorem pt_g {v : V3} (p : Pt F I v) : v.q ≤ 4 * v.p ∧ v.p ≤ 1000 * v.q := by
  have := p.1.2.1
  omega
theorem pt_y {v : V3} (p : Pt F I v) (h : OkF F) : 0 ≤ v.y ∧ v.y ≤ 480000 * v.q := by
  obtain ⟨a, b⟩ := pt_top p
  have H := okF_hgt h
  have t := tm_top h.v (x := hgt F.v) (by omega) (Int.le_refl _)
  have D := (tm_bd h.v (x := hgt F.v) (by omega) (Int.le_refl _)).2.1
  have c := mul_mono t p.pos.1
  refine ⟨a, (mul_le_r D).1 ?_⟩
  have e : 480000 * tmD F.v (hgt F.v) * v.q = 480000 * v.q * tmD F.v (hgt F.v) := by ac_rfl
  omega
theorem un_end (h : OkF F) (hI : ∀ i ∈ I, i < F.s.length) (hc : canI F I = true) {x m : Int} (x0 : 0 ≤ x) (xn : x ≤ hgt F.v) (hm : 1920001 ≤ m) : unM F I x m = true := by
  obtain ⟨v, p⟩ := (canI_pt h hI).1 hc
  rw [un_iff h hI x0 xn]
  refine ⟨v, p, ?_⟩
  have D := (tm_bd h.v x0 xn).2.1
  have N := (tm_bd h.v x0 xn).1.1
  have y := pt_y p h
  have g := pt_g p
  have hp := p.pos
  have a := mul_mono hm hp.2
  have b := Int.mul_neg_of_neg_of_pos (show v.y - m * v.p < 0 by omega) D
  have c := Int.mul_nonneg N (Int.le_of_lt hp.1)
  omega
theorem ov_end (h : OkF F) (hI : ∀ i ∈ I, i < F.s.length) {x m : Int} (x0 : 0 ≤ x) (xn : x ≤ hgt F.v) (hm : 1920000 ≤ m) : ovM F I x m = false := by
  cases k : ovM F I x m with
  | false => rfl
  | true =>
    exfalso
    rw [ov_iff h hI x0 xn] at k
    obtain ⟨v, p, c⟩ := k
    have D := (tm_bd h.v x0 xn).2.1
    have N := (tm_bd h.v x0 xn).1.1
    have y := pt_y p h
    have g := pt_g p
    have hp := p.pos
    have a := mul_mono hm hp.2
    have b := Int.mul_nonpos_of_nonpos_of_nonneg (show v.y - m * v.p ≤ 0 by omega) (Int.le_of_lt D)
    have c := Int.mul_nonneg N (Int.le_of_lt hp.1)
    omega
end
/-- Searches by halves, of a test that turns once within its bounds. -/
theorem lastNot_in2 {P : Int → Bool} {A B : Int} (mono : ∀ m m', A ≤ m → m ≤ m' → m' ≤ B → P m = true → P m' = true) : ∀ (f : Nat) (lo hi : Int), A ≤ lo → lo ≤ hi → hi ≤ B → (hi - lo).toNat < 2 ^ f → (∀ m, lo < m → m ≤ lastNot P f lo hi → P m = false) ∧ (∀ m, lastNot P f lo hi < m → m ≤ hi → P m = true)
  | 0, lo, hi, _, h, _, hf => by
    simp only [lastNot]
    simp at hf
    exact ⟨fun m a b => by omega, fun m a b => by omega⟩
  | f + 1, lo, hi, hA, h, hB, hf => by
    have hp : 2 ^ (f + 1) = 2 * 2 ^ f := by rw [Nat.pow_succ]; omega
    unfold lastNot
    split
    · split
      · rename_i hP
        obtain ⟨a, b⟩ := lastNot_in2 mono f lo ((lo + hi + 1) / 2 - 1) hA (by omega) (by omega) (by omega)
        refine ⟨a, fun m k1 k2 => ?_⟩
        rcases Int.lt_or_le m ((lo + hi + 1) / 2) with k | k
        · exact b m k1 (by omega)
        · exact mono _ _ (by omega) k (by omega) hP
      · rename_i hP
        have hP : P ((lo + hi + 1) / 2) = false := by simpa using hP
        obtain ⟨a, b⟩ := lastNot_in2 mono f ((lo + hi + 1) / 2) hi (by omega) (by omega) hB (by omega)
        refine ⟨fun m k1 k2 => ?_, b⟩
        rcases Int.lt_or_le ((lo + hi + 1) / 2) m with k | k
        · exact a m k k2
        · cases e : P m with
          | false => rfl
          | true => rw [mono _ _ (by omega) k (by omega) e] at hP; cases hP
    · exact ⟨fun m a b => by omega, fun m a b => by omega⟩
theorem firstNot_in2 {P : Int → Bool} {A B : Int} (mono : ∀ m m', A ≤ m → m ≤ m' → m' ≤ B → P m' = true → P m = true) : ∀ (f : Nat) (lo hi : Int), A ≤ lo → lo ≤ hi → hi ≤ B → (hi - lo).toNat < 2 ^ f → (∀ m, lo ≤ m → m < firstNot P f lo hi → P m = true) ∧ (∀ m, firstNot P f lo hi ≤ m → m < hi → P m = false)
  | 0, lo, hi, _, h, _, hf => by
    simp only [firstNot]
    simp at hf
    exact ⟨fun m a b => by omega, fun m a b => by omega⟩
  | f + 1, lo, hi, hA, h, hB, hf => by
    have hp : 2 ^ (f + 1) = 2 * 2 ^ f := by rw [Nat.pow_succ]; omega
    unfold firstNot
    split
    · split
      · rename_i hP
        obtain ⟨a, b⟩ := firstNot_in2 mono f ((lo + hi) / 2 + 1) hi (by omega) (by omega) hB (by omega)
        refine ⟨fun m k1 k2 => ?_, b⟩
        rcases Int.lt_or_le ((lo + hi) / 2) m with k | k
        · exact a m (by omega) k2
        · exact mono _ _ (by omega) k (by omega) hP
      · rename_i hP
        have hP : P ((lo + hi) / 2) = false := by simpa using hP
        obtain ⟨a, b⟩ := firstNot_in2 mono f lo ((lo + hi) / 2) hA (by omega) (by omega) (by omega)
        refine ⟨a, fun m k1 k2 => ?_⟩
        rcases Int.lt_or_le m ((lo + hi) / 2) with k | k
        · exact b m k1 k
        · cases e : P m with
          | false => rfl
          | true => rw [mono _ _ (by omega) k (by omega) e] at hP; cases hP
    · exact ⟨fun m a b => by omega, fun m a b => by omega⟩
/-- What Level, Reached say. -/
def lvLo (F : Fl) (I : List Int) (m : Int) : Int := lastNot (fun n => decide (0 < n) && unM F I n m) 24 0 (hgt F.v)
def lvHi (F : Fl) (I : List Int) (m : Int) : Int := firstNot (fun n => ovM F I n m) 24 0 (hgt F.v)
def rcLo (F : Fl) (I : List Int) (x : Int) : Int := lastNot (fun n => decide (0 < n) && unM F I x n) 24 0 2097152
def rcHi (F : Fl) (I : List Int) (x : Int) : Int := firstNot (fun n => ovM F I x n) 24 0 2097152
section
variable {F : Fl} {I : List Int}
theorem lvLo_spec (h : OkF F) (hI : ∀ i ∈ I, i < F.s.length) (m : Int) : (0 ≤ lvLo F I m ∧ lvLo F I m ≤ hgt F.v) ∧ (∀ n, 0 < n → n ≤ lvLo F I m → unM F I n m = false) ∧ ∀ n, lvLo F I m < n → n ≤ hgt F.v → unM F I n m = true := by
  have H := okF_hgt h
  have i := lastNot_in (fun n => decide (0 < n) && unM F I n m) 24 0 (hgt F.v) (by omega)
  obtain ⟨a, b⟩ := lastNot_in2 (P := fun n => decide (0 < n) && unM F I n m) (A := 0) (B := hgt F.v) (fun n n' n0 nn n1 k => by
    simp only [Bool.and_eq_true, decide_eq_true_eq] at k ⊢
    exact ⟨by omega, un_lev h hI n0 nn n1 k.2⟩) 24 0 (hgt F.v) (Int.le_refl _) (by omega) (Int.le_refl _) (by omega)
  refine ⟨i, fun n n0 k => ?_, fun n n0 k => ?_⟩
  · have := a n n0 k
    simpa [n0] using this
  · have := b n n0 k
    simp only [Bool.and_eq_true, decide_eq_true_eq] at this
    exact this.2
theorem lvHi_spec (h : OkF F) (hI : ∀ i ∈ I, i < F.s.length) (m : Int) : (0 ≤ lvHi F I m ∧ lvHi F I m ≤ hgt F.v) ∧ (∀ n, 0 ≤ n → n < lvHi F I m → ovM F I n m = true) ∧ ∀ n, lvHi F I m ≤ n → n < hgt F.v → ovM F I n m = false := by
  have H := okF_hgt h
  have i := firstNot_in (fun n => ovM F I n m) 24 0 (hgt F.v) (by omega)
  obtain ⟨a, b⟩ := firstNot_in2 (P := fun n => ovM F I n m) (A := 0) (B := hgt F.v) (fun n n' n0 nn n1 k => ov_lev h hI n0 nn n1 k) 24 0 (hgt F.v) (Int.le_refl _) (by omega) (Int.le_refl _) (by omega)
  exact ⟨i, a, b⟩
theorem rcLo_spec (h : OkF F) (hI : ∀ i ∈ I, i < F.s.length) {x : Int} (x0 : 0 ≤ x) (xn : x ≤ hgt F.v) : (0 ≤ rcLo F I x ∧ rcLo F I x ≤ 2097152) ∧ (∀ n, 0 < n → n ≤ rcLo F I x → unM F I x n = false) ∧ ∀ n, rcLo F I x < n → n ≤ 2097152 → unM F I x n = true := by
  have i := lastNot_in (fun n => decide (0 < n) && unM F I x n) 24 0 2097152 (by omega)
  obtain ⟨a, b⟩ := lastNot_in2 (P := fun n => decide (0 < n) && unM F I x n) (A := 0) (B := 2097152) (fun n n' n0 nn n1 k => by
    simp only [Bool.and_eq_true, decide_eq_true_eq] at k ⊢
    exact ⟨by omega, un_min h hI x0 xn nn k.2⟩) 24 0 2097152 (Int.le_refl _) (by omega) (Int.le_refl _) (by omega)
  refine ⟨i, fun n n0 k => ?_, fun n n0 k => ?_⟩
  · have := a n n0 k
    simpa [n0] using this
  · have := b n n0 k
    simp only [Bool.and_eq_true, decide_eq_true_eq] at this
    exact this.2
theorem rcHi_spec (h : OkF F) (hI : ∀ i ∈ I, i < F.s.length) {x : Int} (x0 : 0 ≤ x) (xn : x ≤ hgt F.v) : (0 ≤ rcHi F I x ∧ rcHi F I x ≤ 1920000) ∧ (∀ n, 0 ≤ n → n < rcHi F I x → ovM F I x n = true) ∧ ∀ n, rcHi F I x ≤ n → ovM F I x n = false := by
  have i := firstNot_in (fun n => ovM F I x n) 24 0 2097152 (by omega)
  obtain ⟨a, b⟩ := firstNot_in2 (P := fun n => ovM F I x n) (A := 0) (B := 2097152) (fun n n' n0 nn n1 k => ov_min h hI x0 xn nn k) 24 0 2097152 (Int.le_refl _) (by omega) (Int.le_refl _) (by omega)
  have c : firstNot (fun n => ovM F I x n) 24 0 2097152 ≤ 1920000 := by
    rcases Int.lt_or_le 1920000 (firstNot (fun n => ovM F I x n) 24 0 2097152) with k | k
    · have := a 1920000 (by omega) k
      rw [ov_end h hI x0 xn (Int.le_refl _)] at this
      cases this
    · exact k
  refine ⟨⟨i.1, c⟩, a, fun n k => ?_⟩
  rcases Int.lt_or_le n 2097152 with j | j
  · exact b n k j
  · exact ov_end h hI x0 xn (by omega)
theorem rcLo_bd (h : OkF F) (hI : ∀ i ∈ I, i < F.s.length) (hc : canI F I = true) {x : Int} (x0 : 0 ≤ x) (xn : x ≤ hgt F.v) : rcLo F I x ≤ 1920000 := by
  obtain ⟨i, a, b⟩ := rcLo_spec h hI x0 xn
  rcases Int.lt_or_le 1920000 (rcLo F I x) with k | k
  · have := a 1920001 (by omega) (by omega)
    rw [un_end h hI hc x0 xn (Int.le_refl _)] at this
    cases this
  · exact k
theorem rcLo_all (h : OkF F) (hI : ∀ i ∈ I, i < F.s.length) (hc : canI F I = true) {x : Int} (x0 : 0 ≤ x) (xn : x ≤ hgt F.v) {n : Int} (k : rcLo F I x < n) : unM F I x n = true := by
  obtain ⟨i, a, b⟩ := rcLo_spec h hI x0 xn
  rcases Int.lt_or_le 2097152 n with j | j
  · exact un_end h hI hc x0 xn (by omega)
  · exact b n k j
/-- The ends of Level do not rise with the minutes. -/
theorem lv_min (h : OkF F) (hI : ∀ i ∈ I, i < F.s.length) {m m' : Int} (mm : m ≤ m') : lvLo F I m' ≤ lvLo F I m ∧ lvHi F I m' ≤ lvHi F I m := by
  obtain ⟨⟨a0, a1⟩, a, b⟩ := lvLo_spec h hI m
  obtain ⟨⟨c0, c1⟩, c, d⟩ := lvLo_spec h hI m'
  obtain ⟨⟨e0, e1⟩, e, f⟩ := lvHi_spec h hI m
  obtain ⟨⟨g0, g1⟩, g, j⟩ := lvHi_spec h hI m'
  constructor
  · rcases Int.lt_or_le (lvLo F I m) (lvLo F I m') with k | k
    · have k1 := b _ k c1
      have k2 := c _ (by omega) (Int.le_refl _)
      rw [un_min h hI c0 c1 mm k1] at k2
      cases k2
    · exact k
  · rcases Int.lt_or_le (lvHi F I m) (lvHi F I m') with k | k
    · have k1 := f _ (Int.le_refl _) (by omega)
      have k2 := g _ e0 k
      rw [ov_min h hI e0 e1 mm k2] at k1
      cases k1
    · exact k
theorem lv_le (h : OkF F) (hI : ∀ i ∈ I, i < F.s.length) (hc : canI F I = true) (m : Int) : lvLo F I m ≤ lvHi F I m := by
  obtain ⟨⟨a0, a1⟩, a, b⟩ := lvLo_spec h hI m
  obtain ⟨⟨e0, e1⟩, e, f⟩ := lvHi_spec h hI m
  rcases Int.lt_or_le (lvHi F I m) (lvLo F I m) with k | k
  · have k1 := a _ (by omega) (Int.le_refl _)
    have k2 := f _ (Int.le_refl _) (by omega)
    rw [un_ov h hI hc e0 k a1 k1] at k2
    cases k2
  · exact k
theorem rc_le (h : OkF F) (hI : ∀ i ∈ I, i < F.s.length) (hc : canI F I = true) {x : Int} (x0 : 0 ≤ x) (xn : x ≤ hgt F.v) : rcLo F I x ≤ rcHi F I x := by
  obtain ⟨⟨a0, a1⟩, a, b⟩ := rcLo_spec h hI x0 xn
  obtain ⟨⟨e0, e1⟩, e, f⟩ := rcHi_spec h hI x0 xn
  rcases Int.lt_or_le (rcHi F I x) (rcLo F I x) with k | k
  · have k1 := a _ (by omega) (Int.le_refl _)
    have k2 := f _ (Int.le_refl _)
    rw [un_ov_min h hI hc x0 xn k k1] at k2
    cases k2
  · exact k
/-- Those of Reached do not rise with the level. -/
theorem rc_lev (h : OkF F) (hI : ∀ i ∈ I, i < F.s.length) {x x' : Int} (x0 : 0 ≤ x) (xx : x ≤ x') (xn : x' ≤ hgt F.v) : rcLo F I x' ≤ rcLo F I x ∧ rcHi F I x' ≤ rcHi F I x := by
  obtain ⟨⟨a0, a1⟩, a, b⟩ := rcLo_spec h hI x0 (show x ≤ hgt F.v by omega)
  obtain ⟨⟨c0, c1⟩, c, d⟩ := rcLo_spec h hI (show 0 ≤ x' by omega) xn
  obtain ⟨⟨e0, e1⟩, e, f⟩ := rcHi_spec h hI x0 (show x ≤ hgt F.v by omega)
  obtain ⟨⟨g0, g1⟩, g, j⟩ := rcHi_spec h hI (show 0 ≤ x' by omega) xn
  constructor
  · rcases Int.lt_or_le (rcLo F I x) (rcLo F I x') with k | k
    · have k1 := b _ k c1
      have k2 := c _ (by omega) (Int.le_refl _)
      rw [un_lev h hI x0 xx xn k1] at k2
      cases k2
    · exact k
  · rcases Int.lt_or_le (rcHi F I x) (rcHi F I x') with k | k
    · have k1 := f _ (Int.le_refl _)
      have k2 := g _ e0 k
      rw [ov_lev h hI x0 xx xn k2] at k1
      cases k1
    · exact k
/-- Surely from the end of Reached on, Ever from its beginning on. -/
theorem sure_iff (h : OkF F) (hI : ∀ i ∈ I, i < F.s.length) {x : Int} (x0 : 0 ≤ x) (xn : x ≤ hgt F.v) {m : Int} (m0 : 0 ≤ m) : ovM F I x m = false ↔ rcHi F I x ≤ m := by
  obtain ⟨⟨e0, e1⟩, e, f⟩ := rcHi_spec h hI x0 xn
  constructor
  · intro k
    rcases Int.lt_or_le m (rcHi F I x) with j | j
    · rw [e m m0 j] at k; cases k
    · exact j
  · exact f m
theorem ever_ge (h : OkF F) (hI : ∀ i ∈ I, i < F.s.length) {x : Int} (x0 : 0 ≤ x) (xn : x ≤ hgt F.v) {m : Int} (m0 : 0 ≤ m) (k : evM F I x m = true) : rcLo F I x ≤ m := by
  obtain ⟨⟨a0, a1⟩, a, b⟩ := rcLo_spec h hI x0 xn
  rcases Int.lt_or_le m (rcLo F I x) with j | j
  · have := a (m + 1) (by omega) (by omega)
    rw [ev_un h hI x0 xn (by omega) k] at this
    cases this
  · exact j
theorem ever_of (h : OkF F) (hI : ∀ i ∈ I, i < F.s.length) (hc : canI F I = true) {x : Int} (x0 : 0 ≤ x) (xn : x ≤ hgt F.v) {m : Int} (k : rcLo F I x < m) : evM F I x m = true :=
  un_ev h hI x0 xn (rcLo_all h hI hc x0 xn k)
end
end Go.Proofs.YtnfndiafabhhdaaGreat
/- Levels apart: what Sinks says adds up to within a minute; by many times as many minutes (Wear). Plain. -/
namespace Go.Proofs.YtnfndiafabhhdaaGreat

/-- The minutes that the water takes between two levels, at an end of g: rounded down, rounded up. -/
def skN (F : Fl) (x y : Int) : Int := tmN F.v x * tmD F.v y - tmN F.v y * tmD F.v x
def skD (F : Fl) (x y : Int) : Int := tmD F.v x * tmD F.v y
def skLo (F : Fl) (b : Bd) (x y : Int) : Int := skN F x y * b.d / (skD F x y * b.n)
def skHi (F : Fl) (b : Bd) (x y : Int) : Int := skN F x y * b.d / (skD F x y * b.n) + (if skN F x y * b.d % (skD F x y * b.n) = 0 then 0 else 1)
theorem fl_iff {A D q : Int} (hD : 0 < D) : A / D = q ↔ q * D ≤ A ∧ A < (q + 1) * D := by
  constructor
  · rintro rfl
    exact ⟨Int.ediv_mul_le _ (by omega), Int.lt_ediv_add_one_mul_self _ hD⟩
  · rintro ⟨a, b⟩
    have := (Int.le_ediv_iff_mul_le hD).2 a
    have := Int.ediv_lt_of_lt_mul hD b
    omega
theorem ce_iff {A D c : Int} (hD : 0 < D) : A / D + (if A % D = 0 then 0 else 1) = c ↔ (c - 1) * D < A ∧ A ≤ c * D := by
  have h1 := Int.mul_ediv_add_emod A D
  have h2 := Int.emod_nonneg A (show D ≠ 0 by omega)
  have h3 := Int.emod_lt_of_pos A hD
  generalize A / D = q at *
  generalize A % D = r at *
  constructor
  · rintro rfl
    split
    · grind
    · grind
  · rintro ⟨a, b⟩
    split
    · rename_i h
      subst h
      -- q D = A
      have a' : (c - 1) * D < q * D := by grind
      have b' : q * D ≤ c * D := by grind
      have := (mul_lt_r hD).1 a'
      have := (mul_le_r hD).1 b'
      omega
    · have a' : (c - 1) * D < (q + 1) * D := by grind
      have b' : q * D < c * D := by grind
      have := (mul_lt_r hD).1 a'
      have := (mul_lt_r hD).1 b'
      omega
section
variable {A D q k : Int}
theorem fl_mul (hD : 0 < D) (hk : 0 < k) (h : A / D = q) : A * k / (D * k) = q := by
  rw [fl_iff hD] at h
  rw [fl_iff (Int.mul_pos hD hk)]
  have a := mul_mono h.1 hk
  have b := Int.mul_lt_mul_of_pos_right h.2 hk
  constructor
  · rw [← Int.mul_assoc]; exact a
  · rw [← Int.mul_assoc]; exact b
theorem ce_mul (hD : 0 < D) (hk : 0 < k) (h : A / D + (if A % D = 0 then 0 else 1) = q) : A * k / (D * k) + (if A * k % (D * k) = 0 then 0 else 1) = q := by
  rw [ce_iff hD] at h
  rw [ce_iff (Int.mul_pos hD hk)]
  have a := mul_mono h.2 hk
  have b := Int.mul_lt_mul_of_pos_right h.1 hk
  constructor
  · rw [← Int.mul_assoc]; exact b
  · rw [← Int.mul_assoc]; exact a
end
theorem fl_add {A B C D p q r : Int} (hD : 0 < D) (e : C = A + B) (h1 : A / D = p) (h2 : B / D = q) (h3 : C / D = r) : 0 ≤ r - p - q ∧ r - p - q ≤ 1 := by
  rw [fl_iff hD] at h1 h2 h3
  have a : (p + q) * D < (r + 1) * D := by grind
  have b : r * D < (p + q + 2) * D := by grind
  have := (mul_lt_r hD).1 a
  have := (mul_lt_r hD).1 b
  omega
theorem ce_add {A B C D p q r : Int} (hD : 0 < D) (e : C = A + B) (h1 : A / D + (if A % D = 0 then 0 else 1) = p) (h2 : B / D + (if B % D = 0 then 0 else 1) = q) (h3 : C / D + (if C % D = 0 then 0 else 1) = r) : 0 ≤ p + q - r ∧ p + q - r ≤ 1 := by
  rw [ce_iff hD] at h1 h2 h3
  have a : (p + q - 2) * D < r * D := by grind
  have b : (r - 1) * D < (p + q) * D := by grind
  have := (mul_lt_r hD).1 a
  have := (mul_lt_r hD).1 b
  omega
theorem sk_add {F : Fl} (h : OkF F) {b : Bd} (bn : 0 < b.n) {x y z : Int} (x0 : 0 ≤ x ∧ x ≤ hgt F.v) (y0 : 0 ≤ y ∧ y ≤ hgt F.v) (z0 : 0 ≤ z ∧ z ≤ hgt F.v) :
    (0 ≤ skLo F b x z - skLo F b x y - skLo F b y z ∧ skLo F b x z - skLo F b x y - skLo F b y z ≤ 1) ∧ (0 ≤ skHi F b x y + skHi F b y z - skHi F b x z ∧ skHi F b x y + skHi F b y z - skHi F b x z ≤ 1) := by
  have D1 := (tm_bd h.v x0.1 x0.2).2.1
  have D2 := (tm_bd h.v y0.1 y0.2).2.1
  have D3 := (tm_bd h.v z0.1 z0.2).2.1
  unfold skLo skHi skN skD
  generalize tmN F.v x = a at *
  generalize tmN F.v y = c at *
  generalize tmN F.v z = e at *
  generalize tmD F.v x = d at *
  generalize tmD F.v y = f at *
  generalize tmD F.v z = g at *
  have p1 := Int.mul_pos (Int.mul_pos D1 D2) bn
  have p2 := Int.mul_pos (Int.mul_pos D2 D3) bn
  have p3 := Int.mul_pos (Int.mul_pos D1 D3) bn
  -- over d f g b.n
  have E := Int.mul_pos p1 D3
  have e2 : f * g * b.n * d = d * f * b.n * g := by ac_rfl
  have e3 : d * g * b.n * f = d * f * b.n * g := by ac_rfl
  have s : (a * g - e * d) * b.d * f = (a * f - c * d) * b.d * g + (c * g - e * f) * b.d * d := by grind
  constructor
  · refine fl_add E s ?_ ?_ ?_
    · exact fl_mul p1 D3 rfl
    · rw [← e2]; exact fl_mul p2 D1 rfl
    · rw [← e3]; exact fl_mul p3 D2 rfl
  · refine ce_add E s ?_ ?_ ?_
    · exact ce_mul p1 D3 rfl
    · rw [← e2]; exact ce_mul p2 D1 rfl
    · rw [← e3]; exact ce_mul p3 D2 rfl
theorem sk_same (F : Fl) (b : Bd) (x : Int) : skLo F b x x = 0 ∧ skHi F b x x = 0 := by
  unfold skLo skHi skN
  rw [Int.sub_self, Int.zero_mul, Int.zero_ediv, Int.zero_emod]
  exact ⟨rfl, rfl⟩
/-- Many times as many minutes, rounded. -/
theorem fl_by {A D q r k : Int} (hD : 0 < D) (hk : 0 < k) (h : A / D = q) (h' : A * k / D = r) : q * k ≤ r ∧ r ≤ q * k + k - 1 := by
  rw [fl_iff hD] at h h'
  have a := mul_mono h.1 hk
  have b := Int.mul_lt_mul_of_pos_right h.2 hk
  have c : q * k * D < (r + 1) * D := by grind
  have d : r * D < (q * k + k) * D := by grind
  have := (mul_lt_r hD).1 c
  have := (mul_lt_r hD).1 d
  omega
theorem ce_by {A D q r k : Int} (hD : 0 < D) (hk : 0 < k) (h : A / D + (if A % D = 0 then 0 else 1) = q) (h' : A * k / D + (if A * k % D = 0 then 0 else 1) = r) : r ≤ q * k ∧ q * k - k + 1 ≤ r := by
  rw [ce_iff hD] at h h'
  have a := mul_mono h.2 hk
  have b := Int.mul_lt_mul_of_pos_right h.1 hk
  have c : (r - 1) * D < q * k * D := by grind
  have d : (q * k - k) * D < r * D := by grind
  have := (mul_lt_r hD).1 c
  have := (mul_lt_r hD).1 d
  omega
end Go.Proofs.YtnfndiafabhhdaaGreat
/- All minutes multiplied: the same cases, in another measure (Wear). Plain. -/
namespace Go.Proofs.YtnfndiafabhhdaaGreat

def sclV (k : Int) (v : List Rg) : List Rg := v.map fun r => ⟨r.h, r.v, r.d * k⟩
def sclS (k : Int) (s : List Sn) : List Sn := s.map fun x => ⟨x.lo * k, x.hi * k, x.k⟩
def sclF (k : Int) (F : Fl) : Fl := ⟨sclV k F.v, F.f, F.wlo, F.whi, sclS k F.s⟩
section
variable {k : Int} {v : List Rg}
theorem rg_scl {i : Nat} (hi : i < v.length) : rg (sclV k v) i = ⟨(rg v i).h, (rg v i).v, (rg v i).d * k⟩ := by
  simp [rg, sclV, List.getElem?_eq_getElem hi]
theorem len_sclV : (sclV k v).length = v.length := by simp [sclV]
theorem vX_scl : ∀ i : Nat, i ≤ v.length → vX (sclV k v) i = vX v i ∧ vY (sclV k v) i = vY v i * k
  | 0, _ => by simp [vX, vY]
  | i + 1, hi => by
    obtain ⟨a, b⟩ := vX_scl i (by omega)
    simp only [vX, vY, rg_scl (k := k) (show i < v.length by omega), a, b]
    exact ⟨trivial, by rw [Int.add_mul]⟩
theorem hgt_scl : hgt (sclV k v) = hgt v := by
  unfold hgt
  rw [len_sclV]
  exact (vX_scl _ (Nat.le_refl _)).1
theorem okFrom_scl (hk : 0 < k) (hd : ∀ i, i < v.length → (rg v i).d * k ≤ 20000) : ∀ n : Nat, n ≤ v.length → okFrom v n = true → okFrom (sclV k v) n = true
  | 0, _, _ => rfl
  | n + 1, hn, h => by
    simp only [okFrom, Bool.and_eq_true, Bool.or_eq_true, decide_eq_true_eq] at h ⊢
    obtain ⟨⟨h1, h2⟩, h3⟩ := h
    refine ⟨⟨okFrom_scl hk hd n (by omega) h1, ?_⟩, ?_⟩
    · rw [rg_scl (by omega)]
      obtain ⟨a, b, c⟩ := okRg_bd h2
      have e := hd n (by omega)
      have e1 := Int.mul_pos (show 0 < (rg v n).d by omega) hk
      simp only [okRg, Bool.and_eq_true, decide_eq_true_eq]
      exact ⟨⟨a, b⟩, by omega, e⟩
    · rcases h3 with h3 | h3
      · exact .inl h3
      · refine .inr ?_
        rw [rg_scl (by omega), rg_scl (by omega)]
        simp only
        have := mul_mono h3 hk
        rw [← Int.mul_assoc, ← Int.mul_assoc]
        exact this
theorem okVs_scl (hk : 0 < k) (hd : ∀ i, i < v.length → (rg v i).d * k ≤ 20000) (h : okVs v = true) : okVs (sclV k v) = true := by
  simp only [okVs, Bool.and_eq_true, decide_eq_true_eq, len_sclV] at h ⊢
  exact ⟨h.1, okFrom_scl hk hd _ (Nat.le_refl _) h.2⟩
/-- Times are multiplied. -/
theorem tm_scl (hk : 0 < k) (hv : okVs v = true) (hv' : okVs (sclV k v) = true) {x : Int} (x0 : 0 ≤ x) (xn : x ≤ vX v v.length) : tmN (sclV k v) x * tmD v x = tmN v x * k * tmD (sclV k v) x := by
  have hv0 := hv
  simp only [okVs, Bool.and_eq_true, decide_eq_true_eq] at hv
  obtain ⟨⟨n1, n2⟩, h⟩ := hv
  obtain ⟨_, r1, r2, r3⟩ := ringF_in (l := v) (x := x) v.length 0 x0 (by rw [Nat.zero_add]; exact xn) (by omega)
  rw [Nat.zero_add] at r1
  generalize ringF v x v.length 0 = j at *
  obtain ⟨a1, a2⟩ := tm_at hv0 r1 r2 r3
  obtain ⟨b1, b2⟩ := tm_at hv' (j := j) (x := x) (by rw [len_sclV]; exact r1) (by rw [(vX_scl j (by omega)).1]; exact r2) (by rw [(vX_scl (j + 1) (by omega)).1]; exact r3)
  obtain ⟨b, _, d⟩ := okRg_bd (okFrom_at h j r1)
  have H : 0 < (rg v j).h := by omega
  have nn := (tN0_nn h r1 r2 r3).1
  have e : tN0 (sclV k v) j x = tN0 v j x * k := by
    unfold tN0
    rw [rg_scl r1, (vX_scl j (by omega)).1, (vX_scl j (by omega)).2]
    simp only
    grind
  have eh : (rg (sclV k v) j).h = (rg v j).h := by rw [rg_scl r1]
  rw [e, eh] at b1 b2
  have c1 := lowN_cross nn H
  have c2 := lowN_cross (n := tN0 v j x * k) (Int.mul_nonneg nn (Int.le_of_lt hk)) H
  rw [a1, a2] at c1
  rw [b1, b2] at c2
  generalize tN0 v j x = T at *
  generalize (rg v j).h = G at *
  apply Int.eq_of_mul_eq_mul_right (show G ≠ 0 by omega)
  calc tmN (sclV k v) x * tmD v x * G = tmN (sclV k v) x * G * tmD v x := by ac_rfl
    _ = T * k * tmD (sclV k v) x * tmD v x := by rw [c2]
    _ = T * tmD v x * k * tmD (sclV k v) x := by ac_rfl
    _ = tmN v x * G * k * tmD (sclV k v) x := by rw [c1]
    _ = tmN v x * k * tmD (sclV k v) x * G := by ac_rfl
end
/-- A point in the other measure. -/
def sclP (k : Int) (v : V3) : V3 := ⟨v.q * k, v.p * k, v.y⟩
/-- A line and its multiple. -/
structure LnS (k : Int) (l l' : Ln) : Prop where
  d : 0 < l.d
  d' : 0 < l'.d
  e : l'.k = l.k * k
  n : l'.n * l.d = l.n * k * l'.d
theorem LnS.val {k : Int} {l l' : Ln} (h : LnS k l l') (p q : Int) : (l'.k * p * l'.d + l'.n * q) * l.d = (l.k * (p * k) * l.d + l.n * (q * k)) * l'.d := by
  have := h.n
  rw [h.e]
  grind
theorem le_scl {a b d d' y : Int} (hd : 0 < d) (hd' : 0 < d') (e : a * d = b * d') : (a ≤ y * d' ↔ b ≤ y * d) ∧ (y * d' ≤ a ↔ y * d ≤ b) := by
  constructor
  · constructor
    · intro h
      have := mul_mono h hd
      refine (mul_le_r hd').1 ?_
      have e2 : y * d' * d = y * d * d' := by ac_rfl
      omega
    · intro h
      have := mul_mono h hd'
      refine (mul_le_r hd).1 ?_
      have e2 : y * d' * d = y * d * d' := by ac_rfl
      omega
  · constructor
    · intro h
      have := mul_mono h hd
      refine (mul_le_r hd').1 ?_
      have e2 : y * d' * d = y * d * d' := by ac_rfl
      omega
    · intro h
      have := mul_mono h hd'
      refine (mul_le_r hd).1 ?_
      have e2 : y * d' * d = y * d * d' := by ac_rfl
      omega
theorem LnS.abv {k : Int} {l l' : Ln} (h : LnS k l l') (v : V3) : Abv l' v ↔ Abv l (sclP k v) := (le_scl h.d h.d' (h.val v.p v.q)).1
theorem LnS.blw {k : Int} {l l' : Ln} (h : LnS k l l') (v : V3) : Blw l' v ↔ Blw l (sclP k v) := (le_scl h.d h.d' (h.val v.p v.q)).2
theorem sn_scl (k : Int) (F : Fl) (i : Int) : sn (sclF k F) i = ⟨(sn F i).lo * k, (sn F i).hi * k, (sn F i).k⟩ := by
  unfold sn sclF sclS
  rw [List.getElem?_map]
  cases F.s[i.toNat]? <;> simp
section
variable {k : Int} {F : Fl}
/-- The scaled filling is valid, if its minutes are not too great. -/
theorem okF_scl (hk : 0 < k) (h : OkF F) (hd : ∀ i, i < F.v.length → (rg F.v i).d * k ≤ 20000) (ha : ∀ x ∈ F.s, x.hi * k ≤ 1048576) : OkF (sclF k F) := by
  refine ⟨okVs_scl hk hd h.v, by rw [show (sclF k F).v = sclV k F.v from rfl, hgt_scl]; exact h.f, h.w1, h.w2, h.w3, by show (sclS k F.s).length ≤ 24; simp only [sclS, List.length_map]; exact h.n, ?_⟩
  intro x hx
  obtain ⟨y, hy, rfl⟩ := List.mem_map.1 hx
  have hs := h.s y hy
  rw [show (sclF k F).v = sclV k F.v from rfl, hgt_scl]
  simp only [okSn, Bool.and_eq_true, decide_eq_true_eq] at hs ⊢
  obtain ⟨⟨⟨s1, s2⟩, s3⟩, s4⟩ := hs
  exact ⟨⟨⟨Int.mul_nonneg s1 (Int.le_of_lt hk), mul_mono s2 hk⟩, ha y hy⟩, s4⟩
theorem lnS_T (hk : 0 < k) (h : OkF F) (h' : OkF (sclF k F)) {m x : Int} (x0 : 0 ≤ x) (xn : x ≤ hgt F.v) (s : Bool) : LnS k (lnT F.v m x s) (lnT (sclF k F).v (m * k) x s) :=
  ⟨(tm_bd h.v x0 xn).2.1, (tm_bd h'.v x0 (by have := hgt_scl (k := k) (v := F.v); unfold hgt at this xn; rw [show (sclF k F).v = sclV k F.v from rfl, this]; exact xn)).2.1, rfl, tm_scl hk h.v h'.v x0 xn⟩
theorem sn_okk (h : OkF F) {i : Int} (_hi : i < F.s.length) : okLk (hgt F.v) (sn F i).k = true := by
  have hk : i.toNat < F.s.length ∨ F.s.length ≤ i.toNat := Nat.lt_or_ge _ _
  rcases hk with hk | hk
  · have := h.s _ (List.getElem_mem hk)
    simp only [okSn, Bool.and_eq_true] at this
    unfold sn
    rw [List.getElem?_eq_getElem hk]
    exact this.2
  · unfold sn
    have := okF_hgt h
    rw [List.getElem?_eq_none hk]
    simp [okLk]
    omega
theorem pt_scl (hk : 0 < k) (h : OkF F) (h' : OkF (sclF k F)) {I : List Int} (hI : ∀ i ∈ I, i < F.s.length) (v : V3) : Pt (sclF k F) I v ↔ Pt F I (sclP k v) := by
  have hH : hgt (sclF k F).v = hgt F.v := hgt_scl
  have H := okF_hgt h
  have g3 : ∀ {a b : Int}, a ≤ b ↔ a * k ≤ b * k := fun {a b} => (mul_le_r hk).symm
  have kc : Kc (sclF k F) v ↔ Kc F (sclP k v) := by
    have f1 := (lnS_T hk h h' (m := 0) (x := hgt F.v) (by omega) (Int.le_refl _) false).blw v
    rw [Int.zero_mul] at f1
    have e0 : (0 < v.q) ↔ 0 < v.q * k := by rw [show (0 < v.q * k) ↔ (0 * k < v.q * k) by rw [Int.zero_mul]]; exact (mul_lt_r hk).symm
    have e1 : 1000 * v.q ≤ v.p * 4000 ↔ 1000 * (v.q * k) ≤ v.p * k * 4000 := by rw [g3]; constructor <;> intro h <;> grind
    have e2 : v.p ≤ 1000 * v.q ↔ v.p * k ≤ 1000 * (v.q * k) := by rw [g3]; constructor <;> intro h <;> grind
    unfold Kc frameL
    simp only [List.mem_cons, List.not_mem_nil, or_false, forall_eq_or_imp, forall_eq, hH, if_true, Bool.false_eq_true, if_false, sclP]
    rw [e0, e1, e2]
    refine and_congr Iff.rfl (and_congr Iff.rfl (and_congr ?_ ?_))
    · simp only [Abv]
      constructor <;> intro h <;> simpa using h
    · exact f1
  refine and_congr kc (forall_congr' fun i => forall_congr' fun hi => ?_)
  unfold Ci
  by_cases c : i = -2
  · rw [if_pos c, if_pos c]
    simp only [wearC, sclP]
    have e1 : 1000 * v.q ≤ v.p * F.whi ↔ 1000 * (v.q * k) ≤ v.p * k * F.whi := by rw [g3]; constructor <;> intro h <;> grind
    have e2 : v.p * F.wlo ≤ 1000 * v.q ↔ v.p * k * F.wlo ≤ 1000 * (v.q * k) := by rw [g3]; constructor <;> intro h <;> grind
    exact and_congr e1 e2
  · rw [if_neg c, if_neg c]
    unfold itemL
    by_cases c1 : i = -1
    · rw [if_pos c1, if_pos c1]
      have e := end_in h.f
      have f1 := (lnS_T hk h h' (m := 0) (x := endA F.f) e.1.1 (by omega) false).abv v
      have f2 := (lnS_T hk h h' (m := 0) (x := endB (hgt F.v) F.f) (by omega) e.2.2 false).blw v
      rw [Int.zero_mul] at f1 f2
      simp only [List.mem_cons, List.not_mem_nil, or_false, forall_eq_or_imp, forall_eq, hH, if_true, Bool.false_eq_true, if_false]
      exact and_congr f1 f2
    · rw [if_neg c1, if_neg c1]
      have e := end_in (sn_okk h (hI i hi))
      have f1 := (lnS_T hk h h' (m := (sn F i).hi) (x := endB (hgt F.v) (sn F i).k) (by omega) e.2.2 false).blw v
      rw [sn_scl]
      by_cases ha : 0 < endA (sn F i).k
      · have f2 := (lnS_T hk h h' (m := (sn F i).lo) (x := endA (sn F i).k) e.1.1 (by omega) false).abv v
        simp only [ha, List.mem_cons, List.not_mem_nil, or_false, forall_eq_or_imp, forall_eq, hH, if_true, Bool.false_eq_true, if_false]
        exact and_congr f1 f2
      · simp only [ha, List.mem_cons, List.not_mem_nil, or_false, forall_eq, hH, if_true, if_false]
        exact f1
/-- Homogeneous: many times a point. -/
theorem pt_mul {I : List Int} (hk : 0 < k) {v : V3} (p : Pt F I v) : Pt F I ⟨v.q * k, v.p * k, v.y * k⟩ := by
  have e : (⟨v.q * k, v.p * k, v.y * k⟩ : V3) = V3.mul k v := by simp [V3.mul, Int.mul_comm]
  rw [e]
  exact ⟨(kc_cone F).mul _ _ hk p.1, fun i hi => (ci_cone F i).mul _ _ hk (p.2 i hi)⟩
end
end Go.Proofs.YtnfndiafabhhdaaGreat
/- All minutes multiplied: what is told is the same, or as many times as much (Wear). Plain. -/
namespace Go.Proofs.YtnfndiafabhhdaaGreat

section
variable {k : Int} {F : Fl} {I : List Int}
theorem lenS : (sclF k F).s.length = F.s.length := by simp [sclF, sclS]
theorem hgtF : hgt (sclF k F).v = hgt F.v := hgt_scl
theorem sclP_mul (v : V3) : sclP k ⟨v.q, v.p, v.y * k⟩ = ⟨v.q * k, v.p * k, v.y * k⟩ := rfl
/-- A case of one is a case of the other. -/
theorem pt_to' (hk : 0 < k) (h : OkF F) (h' : OkF (sclF k F)) (hI : ∀ i ∈ I, i < F.s.length) {v : V3} (p : Pt F I v) : Pt (sclF k F) I ⟨v.q, v.p, v.y * k⟩ := by
  rw [pt_scl hk h h' hI]
  exact pt_mul hk p
theorem canI_scl (hk : 0 < k) (h : OkF F) (h' : OkF (sclF k F)) (hI : ∀ i ∈ I, i < F.s.length) : canI (sclF k F) I = canI F I := by
  have hI' : ∀ i ∈ I, i < (sclF k F).s.length := by rw [lenS]; exact hI
  rw [Bool.eq_iff_iff, canI_pt h hI, canI_pt h' hI']
  constructor
  · rintro ⟨v, p⟩
    exact ⟨_, (pt_scl hk h h' hI v).1 p⟩
  · rintro ⟨v, p⟩
    exact ⟨_, pt_to' hk h h' hI p⟩
theorem un_scl (hk : 0 < k) (h : OkF F) (h' : OkF (sclF k F)) (hI : ∀ i ∈ I, i < F.s.length) {x m : Int} (x0 : 0 ≤ x) (xn : x ≤ hgt F.v) : unM (sclF k F) I x (m * k) = unM F I x m := by
  have hI' : ∀ i ∈ I, i < (sclF k F).s.length := by rw [lenS]; exact hI
  have D := (tm_bd h.v x0 xn).2.1
  have D' := (tm_bd h'.v x0 (by have := hgtF (k := k) (F := F); unfold hgt at this xn; rw [this]; exact xn)).2.1
  have e := tm_scl hk h.v h'.v x0 xn
  rw [Bool.eq_iff_iff, un_iff h hI x0 xn, un_iff h' hI' x0 (by rw [hgtF]; exact xn)]
  rw [show (sclF k F).v = sclV k F.v from rfl] at D' ⊢
  constructor
  · rintro ⟨v, p, c⟩
    refine ⟨_, (pt_scl hk h h' hI v).1 p, ?_⟩
    simp only [sclP]
    have a := Int.mul_lt_mul_of_pos_right c D
    refine (mul_lt_r D').1 ?_
    have e1 : tmN (sclV k F.v) x * v.q * tmD F.v x = tmN F.v x * (v.q * k) * tmD (sclV k F.v) x := by grind
    have e2 : (v.y - m * k * v.p) * tmD (sclV k F.v) x * tmD F.v x = (v.y - m * (v.p * k)) * tmD F.v x * tmD (sclV k F.v) x := by grind
    omega
  · rintro ⟨v, p, c⟩
    refine ⟨_, pt_to' hk h h' hI p, ?_⟩
    simp only
    have a := Int.mul_lt_mul_of_pos_right (Int.mul_lt_mul_of_pos_right c hk) D'
    refine (mul_lt_r D).1 ?_
    have e1 : tmN (sclV k F.v) x * v.q * tmD F.v x = tmN F.v x * v.q * k * tmD (sclV k F.v) x := by grind
    have e2 : (v.y * k - m * k * v.p) * tmD (sclV k F.v) x * tmD F.v x = (v.y - m * v.p) * tmD F.v x * k * tmD (sclV k F.v) x := by grind
    omega
theorem ov_scl (hk : 0 < k) (h : OkF F) (h' : OkF (sclF k F)) (hI : ∀ i ∈ I, i < F.s.length) {x m : Int} (x0 : 0 ≤ x) (xn : x ≤ hgt F.v) : ovM (sclF k F) I x (m * k) = ovM F I x m := by
  have hI' : ∀ i ∈ I, i < (sclF k F).s.length := by rw [lenS]; exact hI
  have D := (tm_bd h.v x0 xn).2.1
  have D' := (tm_bd h'.v x0 (by have := hgtF (k := k) (F := F); unfold hgt at this xn; rw [this]; exact xn)).2.1
  have e := tm_scl hk h.v h'.v x0 xn
  rw [Bool.eq_iff_iff, ov_iff h hI x0 xn, ov_iff h' hI' x0 (by rw [hgtF]; exact xn)]
  rw [show (sclF k F).v = sclV k F.v from rfl] at D' ⊢
  constructor
  · rintro ⟨v, p, c⟩
    refine ⟨_, (pt_scl hk h h' hI v).1 p, ?_⟩
    simp only [sclP]
    have a := Int.mul_lt_mul_of_pos_right c D
    refine (mul_lt_r D').1 ?_
    have e1 : tmN (sclV k F.v) x * v.q * tmD F.v x = tmN F.v x * (v.q * k) * tmD (sclV k F.v) x := by grind
    have e2 : (v.y - m * k * v.p) * tmD (sclV k F.v) x * tmD F.v x = (v.y - m * (v.p * k)) * tmD F.v x * tmD (sclV k F.v) x := by grind
    omega
  · rintro ⟨v, p, c⟩
    refine ⟨_, pt_to' hk h h' hI p, ?_⟩
    simp only
    have a := Int.mul_lt_mul_of_pos_right (Int.mul_lt_mul_of_pos_right c hk) D'
    refine (mul_lt_r D).1 ?_
    have e1 : tmN (sclV k F.v) x * v.q * tmD F.v x = tmN F.v x * v.q * k * tmD (sclV k F.v) x := by grind
    have e2 : (v.y * k - m * k * v.p) * tmD (sclV k F.v) x * tmD F.v x = (v.y - m * v.p) * tmD F.v x * k * tmD (sclV k F.v) x := by grind
    omega
/-- Level is the same as many times as many minutes behind the filling. -/
theorem lv_scl (hk : 0 < k) (h : OkF F) (h' : OkF (sclF k F)) (hI : ∀ i ∈ I, i < F.s.length) (m : Int) : lvLo (sclF k F) I (m * k) = lvLo F I m ∧ lvHi (sclF k F) I (m * k) = lvHi F I m := by
  have hI' : ∀ i ∈ I, i < (sclF k F).s.length := by rw [lenS]; exact hI
  obtain ⟨⟨a0, a1⟩, a, b⟩ := lvLo_spec h hI m
  obtain ⟨⟨c0, c1⟩, c, d⟩ := lvLo_spec h' hI' (m * k)
  obtain ⟨⟨e0, e1⟩, e, f⟩ := lvHi_spec h hI m
  obtain ⟨⟨g0, g1⟩, g, j⟩ := lvHi_spec h' hI' (m * k)
  rw [hgtF] at c1 d g1 j
  have U := fun x x0 xn => un_scl (m := m) hk h h' hI (x := x) x0 xn
  have O := fun x x0 xn => ov_scl (m := m) hk h h' hI (x := x) x0 xn
  constructor
  · rcases Int.lt_trichotomy (lvLo (sclF k F) I (m * k)) (lvLo F I m) with q | q | q
    · have q1 := a _ (by omega) (Int.le_refl _)
      have q2 := d _ q a1
      rw [U _ a0 a1, q1] at q2; cases q2
    · exact q
    · have q1 := c _ (by omega) (Int.le_refl _)
      have q2 := b _ q c1
      rw [U _ c0 c1, q2] at q1; cases q1
  · rcases Int.lt_trichotomy (lvHi (sclF k F) I (m * k)) (lvHi F I m) with q | q | q
    · have q1 := e _ g0 q
      have q2 := j _ (Int.le_refl _) (by omega)
      rw [O _ g0 g1, q1] at q2; cases q2
    · exact q
    · have q1 := g _ e0 q
      have q2 := f _ (Int.le_refl _) (by omega)
      rw [O _ e0 e1, q2] at q1; cases q1
/-- Reached is as many times as great, to within the rounding. -/
theorem rc_scl (hk : 0 < k) (h : OkF F) (h' : OkF (sclF k F)) (hI : ∀ i ∈ I, i < F.s.length) (hc : canI F I = true) {x : Int} (x0 : 0 ≤ x) (xn : x ≤ hgt F.v) :
    (rcLo F I x * k ≤ rcLo (sclF k F) I x ∧ rcLo (sclF k F) I x ≤ rcLo F I x * k + k - 1) ∧ (rcHi (sclF k F) I x ≤ rcHi F I x * k ∧ rcHi F I x * k - k + 1 ≤ rcHi (sclF k F) I x) := by
  have hI' : ∀ i ∈ I, i < (sclF k F).s.length := by rw [lenS]; exact hI
  have hc' : canI (sclF k F) I = true := by rw [canI_scl hk h h' hI]; exact hc
  have xn' : x ≤ hgt (sclF k F).v := by rw [hgtF]; exact xn
  obtain ⟨⟨a0, a1⟩, a, b⟩ := rcLo_spec h hI x0 xn
  obtain ⟨⟨c0, c1⟩, c, d⟩ := rcLo_spec h' hI' x0 xn'
  obtain ⟨⟨e0, e1⟩, e, f⟩ := rcHi_spec h hI x0 xn
  obtain ⟨⟨g0, g1⟩, g, j⟩ := rcHi_spec h' hI' x0 xn'
  have U := fun m => un_scl (m := m) hk h h' hI (x := x) x0 xn
  have O := fun m => ov_scl (m := m) hk h h' hI (x := x) x0 xn
  refine ⟨⟨?_, ?_⟩, ?_, ?_⟩
  · rcases Int.lt_or_le (rcLo (sclF k F) I x) (rcLo F I x * k) with q | q
    · have q1 := rcLo_all h' hI' hc' x0 xn' q
      rw [U] at q1
      have : 0 < rcLo F I x := by
        rcases Int.lt_or_le 0 (rcLo F I x) with r | r
        · exact r
        · have : rcLo F I x = 0 := by omega
          rw [this, Int.zero_mul] at q
          omega
      rw [a _ this (Int.le_refl _)] at q1
      cases q1
    · exact q
  · rcases Int.lt_or_le (rcLo F I x * k + k - 1) (rcLo (sclF k F) I x) with q | q
    · have q1 := rcLo_all h hI hc x0 xn (show rcLo F I x < rcLo F I x + 1 by omega)
      rw [← U] at q1
      have e : (rcLo F I x + 1) * k = rcLo F I x * k + k := by rw [Int.add_mul, Int.one_mul]
      have nn := Int.mul_nonneg a0 (Int.le_of_lt hk)
      rw [e, c _ (by omega) (by omega)] at q1
      cases q1
    · exact q
  · have q := f _ (Int.le_refl _)
    rw [← O] at q
    exact (sure_iff h' hI' x0 xn' (Int.mul_nonneg e0 (Int.le_of_lt hk))).1 q
  · rcases Int.lt_or_le 0 (rcHi F I x) with r | r
    · have q := e (rcHi F I x - 1) (by omega) (by omega)
      rw [← O] at q
      rcases Int.lt_or_le ((rcHi F I x - 1) * k) (rcHi (sclF k F) I x) with s | s
      · rw [Int.sub_mul, Int.one_mul] at s
        omega
      · rw [j _ s] at q
        cases q
    · have : rcHi F I x = 0 := by omega
      rw [this, Int.zero_mul]
      omega
/-- What a solved region holds, by points. -/
theorem has_pt (h : OkF F) (hI : ∀ i ∈ I, i < F.s.length) {p q : Int} (hq : 0 < q) : (solvedW F I).has p q ↔ ∃ t y, 0 < t ∧ Pt F I ⟨q * t, p * t, y⟩ := by
  rw [solved_has h hI hq, pairs_point lows0 (lowsP h hI) (upsP h hI), ← rnR_has h I hq]
  constructor
  · rintro ⟨k1, t, y, ht, a, b⟩
    exact ⟨t, y, ht, pt_of h hq ht k1 a b⟩
  · rintro ⟨t, y, ht, p1⟩
    obtain ⟨a, b, c⟩ := p1.to h
    refine ⟨?_, t, y, ht, b, c⟩
    rw [rnR_has h I (Int.mul_pos hq ht)] at a
    rw [rnR_has h I hq]
    have g3 : ∀ {a b : Int}, a * t ≤ b * t → a ≤ b := fun {a b} => (mul_le_r ht).1
    refine ⟨⟨g3 ?_, g3 ?_⟩, fun c => ?_⟩
    · have := a.1.1; grind
    · have := a.1.2; grind
    · have := a.2 c
      unfold wearC at this ⊢
      exact ⟨g3 (by have := this.1; grind), g3 (by have := this.2; grind)⟩
theorem same_scl (hk : 0 < k) (h : OkF F) (h' : OkF (sclF k F)) (hI : ∀ i ∈ I, i < F.s.length) : Same (solvedW F I) (solvedW (sclF k F) I) := by
  have hI' : ∀ i ∈ I, i < (sclF k F).s.length := by rw [lenS]; exact hI
  intro p q hq
  rw [has_pt h hI hq, has_pt h' hI' hq]
  constructor
  · rintro ⟨t, y, ht, p1⟩
    exact ⟨t, y * k, ht, pt_to' hk h h' hI p1⟩
  · rintro ⟨t, y, ht, p1⟩
    have := (pt_scl hk h h' hI _).1 p1
    simp only [sclP] at this
    refine ⟨t * k, y, Int.mul_pos ht hk, ?_⟩
    rw [← Int.mul_assoc, ← Int.mul_assoc]
    exact this
/-- The wear has the same bounds. -/
theorem bounds_scl (hk : 0 < k) (h : OkF F) (h' : OkF (sclF k F)) (hI : ∀ i ∈ I, i < F.s.length) (hc : canI F I = true) :
    (solvedW F I).lo.n * (solvedW (sclF k F) I).lo.d = (solvedW (sclF k F) I).lo.n * (solvedW F I).lo.d ∧ (solvedW F I).hi.n * (solvedW (sclF k F) I).hi.d = (solvedW (sclF k F) I).hi.n * (solvedW F I).hi.d := by
  have hI' : ∀ i ∈ I, i < (sclF k F).s.length := by rw [lenS]; exact hI
  have a := (solved_same h hI).1
  have b := (solved_same h' hI').1
  have e := same_scl hk h h' hI
  exact ⟨same_lo a b e hc, same_hi a b e hc⟩
/-- Sinks is as many times as great, to within the rounding. -/
theorem sk_scl (hk : 0 < k) (h : OkF F) (h' : OkF (sclF k F)) {b b' : Bd} (bn : 0 < b.n) (bn' : 0 < b'.n) (_bd : 0 < b.d) (_bd' : 0 < b'.d) (e : b.n * b'.d = b'.n * b.d) {x y : Int} (x0 : 0 ≤ x ∧ x ≤ hgt F.v) (y0 : 0 ≤ y ∧ y ≤ hgt F.v) :
    (skLo F b x y * k ≤ skLo (sclF k F) b' x y ∧ skLo (sclF k F) b' x y ≤ skLo F b x y * k + k - 1) ∧ (skHi (sclF k F) b' x y ≤ skHi F b x y * k ∧ skHi F b x y * k - k + 1 ≤ skHi (sclF k F) b' x y) := by
  have up : ∀ z : Int, z ≤ hgt F.v → z ≤ vX (sclF k F).v (sclF k F).v.length := fun z hz => by
    have := hgtF (k := k) (F := F); unfold hgt at this hz; rw [this]; exact hz
  have D1 := (tm_bd h.v x0.1 x0.2).2.1
  have D2 := (tm_bd h.v y0.1 y0.2).2.1
  have E1 := (tm_bd h'.v x0.1 (up _ x0.2)).2.1
  have E2 := (tm_bd h'.v y0.1 (up _ y0.2)).2.1
  have t1 := tm_scl hk h.v h'.v x0.1 x0.2
  have t2 := tm_scl hk h.v h'.v y0.1 y0.2
  unfold skLo skHi skN skD
  rw [show (sclF k F).v = sclV k F.v from rfl] at E1 E2 ⊢
  generalize tmN F.v x = a at *
  generalize tmN F.v y = c at *
  generalize tmD F.v x = d at *
  generalize tmD F.v y = f at *
  generalize tmN (sclV k F.v) x = a' at *
  generalize tmN (sclV k F.v) y = c' at *
  generalize tmD (sclV k F.v) x = d' at *
  generalize tmD (sclV k F.v) y = f' at *
  generalize b.n = gn at *
  generalize b.d = gd at *
  generalize b'.n = gn' at *
  generalize b'.d = gd' at *
  have P := Int.mul_pos (Int.mul_pos D1 D2) bn
  have P' := Int.mul_pos (Int.mul_pos E1 E2) bn'
  -- both over one denominator
  have s : (a' * f' - c' * d') * gd' * (d * f * gn) = (a * f - c * d) * gd * k * (d' * f' * gn') := by
    have s1 : (a' * f' - c' * d') * (d * f) = (a * f - c * d) * k * (d' * f') := by grind
    calc (a' * f' - c' * d') * gd' * (d * f * gn) = (a' * f' - c' * d') * (d * f) * (gn * gd') := by ac_rfl
      _ = (a * f - c * d) * k * (d' * f') * (gn' * gd) := by rw [s1, e]
      _ = (a * f - c * d) * gd * k * (d' * f' * gn') := by ac_rfl
  have e3 : d' * f' * gn' * (d * f * gn) = d * f * gn * (d' * f' * gn') := by ac_rfl
  have e4 : ((a * f - c * d) * gd * (d' * f' * gn')) * k = (a * f - c * d) * gd * k * (d' * f' * gn') := by ac_rfl
  generalize (a' * f' - c' * d') * gd' = A' at *
  generalize d' * f' * gn' = B' at *
  generalize d * f * gn = B at *
  have PP := Int.mul_pos P P'
  constructor
  · refine fl_by PP hk (fl_mul P P' rfl) ?_
    rw [e4, ← s, ← e3]
    exact fl_mul P' P rfl
  · refine ce_by PP hk (ce_mul P P' rfl) ?_
    rw [e4, ← s, ← e3]
    exact ce_mul P' P rfl
end
end Go.Proofs.YtnfndiafabhhdaaGreat
/- Truth: whatever the wear, the first level and the minutes are, if all is as it was seen it is one of the cases (Wear). Plain. -/
namespace Go.Proofs.YtnfndiafabhhdaaGreat

/-- What is left of the first time, in truth, times the wear: compared with the time of a level. -/
def lfT (F : Fl) (W x m : Int) : Int := max 0 (tmN F.v x * W - 1000 * m * tmD F.v x)
def cmT (F : Fl) (W x l m : Int) : Int := tmN F.v l * W * tmD F.v x - lfT F W x m * tmD F.v l
def trP (F : Fl) (W x : Int) : V3 := ⟨W * tmD F.v x, 1000 * tmD F.v x, tmN F.v x * W⟩
structure Fair (F : Fl) (W x : Int) (at_ : Int → Int) : Prop where
  w1 : F.wlo ≤ W
  w2 : W ≤ F.whi
  x0 : 0 ≤ x
  xn : x ≤ hgt F.v
  fa : cmT F W x (endA F.f) 0 ≤ 0
  fb : 0 ≤ cmT F W x (endB (hgt F.v) F.f) 0
  s : ∀ i : Int, 0 ≤ i → i < F.s.length → ((sn F i).lo ≤ at_ i ∧ at_ i ≤ (sn F i).hi) ∧ cmT F W x (endA (sn F i).k) (at_ i) ≤ 0 ∧ 0 ≤ cmT F W x (endB (hgt F.v) (sn F i).k) (at_ i)
section
variable {F : Fl} {W x : Int} {at_ : Int → Int} {I : List Int}
/-- What a comparison says of the point. -/
theorem cm_le (h : OkF F) {l m : Int} (l0 : 0 < l) (ln : l ≤ hgt F.v) (W0 : 0 < W) (x0 : 0 ≤ x) (xn : x ≤ hgt F.v) (c : cmT F W x l m ≤ 0) : tmN F.v l * (trP F W x).q ≤ ((trP F W x).y - m * (trP F W x).p) * tmD F.v l := by
  have D := (tm_bd h.v (show 0 ≤ l by omega) ln).2.1
  have Dx := (tm_bd h.v x0 xn).2.1
  have t0 := tm_lt' h.v (x := 0) (y := l) (by omega) l0 ln
  rw [tm_zero h.v, Int.zero_mul] at t0
  have Dz := (tm_bd h.v (x := 0) (by omega) (by have := okF_hgt h; rw [← hgt_eq]; omega)).2.1
  have N : 0 < tmN F.v l := by
    rcases Int.lt_or_le 0 (tmN F.v l) with k | k
    · exact k
    · have := Int.mul_nonpos_of_nonpos_of_nonneg k (Int.le_of_lt Dz)
      omega
  unfold cmT lfT at c
  simp only [trP]
  have P := Int.mul_pos (Int.mul_pos N W0) Dx
  rcases Int.lt_or_le 0 (tmN F.v x * W - 1000 * m * tmD F.v x) with k | k
  · rw [Int.max_eq_right (Int.le_of_lt k)] at c
    grind
  · rw [Int.max_eq_left k, Int.zero_mul] at c
    omega
theorem cm_ge (h : OkF F) {l m : Int} (l0 : 0 ≤ l) (ln : l ≤ hgt F.v) (_x0 : 0 ≤ x) (_xn : x ≤ hgt F.v) (c : 0 ≤ cmT F W x l m) : ((trP F W x).y - m * (trP F W x).p) * tmD F.v l ≤ tmN F.v l * (trP F W x).q := by
  have D := (tm_bd h.v l0 ln).2.1
  unfold cmT lfT at c
  simp only [trP]
  have a := mul_mono (Int.le_max_right 0 (tmN F.v x * W - 1000 * m * tmD F.v x)) D
  grind
theorem le_cm (h : OkF F) {l m : Int} (l0 : 0 ≤ l) (ln : l ≤ hgt F.v) (c : l = 0 ∨ tmN F.v l * (trP F W x).q ≤ ((trP F W x).y - m * (trP F W x).p) * tmD F.v l) : cmT F W x l m ≤ 0 := by
  have D := (tm_bd h.v l0 ln).2.1
  unfold cmT lfT
  have a := mul_mono (Int.le_max_right 0 (tmN F.v x * W - 1000 * m * tmD F.v x)) D
  have a0 := mul_mono (Int.le_max_left 0 (tmN F.v x * W - 1000 * m * tmD F.v x)) D
  rcases c with rfl | c
  · rw [tm_zero h.v]
    rw [Int.zero_mul] at a0 ⊢
    rw [Int.zero_mul]
    omega
  · simp only [trP] at c
    grind
theorem lt_cm (h : OkF F) {l m : Int} (l0 : 0 ≤ l) (ln : l ≤ hgt F.v) (c : tmN F.v l * (trP F W x).q < ((trP F W x).y - m * (trP F W x).p) * tmD F.v l) : cmT F W x l m < 0 := by
  have D := (tm_bd h.v l0 ln).2.1
  unfold cmT lfT
  have a := mul_mono (Int.le_max_right 0 (tmN F.v x * W - 1000 * m * tmD F.v x)) D
  simp only [trP] at c
  grind
theorem ge_cm (h : OkF F) (W0 : 0 < W) (x0 : 0 ≤ x) (xn : x ≤ hgt F.v) {l m : Int} (l0 : 0 ≤ l) (ln : l ≤ hgt F.v) (c : ((trP F W x).y - m * (trP F W x).p) * tmD F.v l ≤ tmN F.v l * (trP F W x).q) : 0 ≤ cmT F W x l m := by
  have D := (tm_bd h.v l0 ln).2.1
  have N := (tm_bd h.v l0 ln).1.1
  have Dx := (tm_bd h.v x0 xn).2.1
  unfold cmT lfT
  simp only [trP] at c
  have P := Int.mul_nonneg (Int.mul_nonneg N (Int.le_of_lt W0)) (Int.le_of_lt Dx)
  rcases Int.lt_or_le 0 (tmN F.v x * W - 1000 * m * tmD F.v x) with k | k
  · rw [Int.max_eq_right (Int.le_of_lt k)]
    grind
  · rw [Int.max_eq_left k, Int.zero_mul]
    omega
theorem Fair.W0 (f : Fair F W x at_) (h : OkF F) : 0 < W := by
  have := f.w1
  have := h.w1
  omega
theorem tr_pt (h : OkF F) (f : Fair F W x at_) (hI : ∀ i ∈ I, -2 ≤ i ∧ i < F.s.length) : Pt F I (trP F W x) := by
  have W0 := f.W0 h
  have H := okF_hgt h
  have Dx := (tm_bd h.v f.x0 f.xn).2.1
  have Nx := (tm_bd h.v f.x0 f.xn).1.1
  have w1 := f.w1
  have w2 := f.w2
  have h3 := h.w3
  have q0 := Int.mul_pos W0 Dx
  refine ⟨⟨q0, ⟨?_, ?_⟩, fun y hy => ?_⟩, fun i hi => ?_⟩
  · have := mul_mono (show W ≤ 4000 by omega) Dx
    simp only [trP]
    omega
  · have := mul_mono (show 1 ≤ W by omega) Dx
    simp only [trP]
    omega
  · simp only [frameL, List.mem_cons, List.not_mem_nil, or_false] at hy
    rcases hy with rfl | rfl
    · simp only [Bool.false_eq_true, if_false, Abv, trP]
      have := Int.mul_nonneg Nx (Int.le_of_lt W0)
      omega
    · simp only [if_true, Blw, lnT, trP]
      have t := tm_le h.v f.x0 f.xn (Int.le_refl _)
      have := mul_mono t W0
      grind
  · obtain ⟨i0, i1⟩ := hI i hi
    unfold Ci
    by_cases c : i = -2
    · rw [if_pos c]
      simp only [wearC, trP]
      have a := mul_mono w1 Dx
      have b := mul_mono w2 Dx
      grind
    · rw [if_neg c]
      unfold itemL
      by_cases c1 : i = -1
      · rw [if_pos c1]
        have e := end_in h.f
        have fb := cm_ge h (show 0 ≤ endB (hgt F.v) F.f by omega) e.2.2 f.x0 f.xn f.fb
        rw [Int.zero_mul, Int.sub_zero] at fb
        intro y hy
        simp only [List.mem_cons, List.not_mem_nil, or_false] at hy
        rcases hy with rfl | rfl
        · simp only [Bool.false_eq_true, if_false, Abv, lnT, Int.zero_mul, Int.zero_add]
          rcases Int.lt_or_le 0 (endA F.f) with k | k
          · have fa := cm_le h k (by omega) W0 f.x0 f.xn f.fa
            rw [Int.zero_mul, Int.sub_zero] at fa
            exact fa
          · have k0 : endA F.f = 0 := by omega
            rw [k0, tm_zero h.v, Int.zero_mul]
            exact Int.mul_nonneg (Int.mul_nonneg Nx (Int.le_of_lt W0)) (Int.le_of_lt (tm_bd h.v (x := 0) (by omega) (by rw [← hgt_eq]; omega)).2.1)
        · simp only [if_true, Blw, lnT, Int.zero_mul, Int.zero_add]
          exact fb
      · rw [if_neg c1]
        obtain ⟨⟨s1, s2⟩, s3, s4⟩ := f.s i (by omega) i1
        have e := end_in (sn_okk h i1)
        have Pp : 0 < (trP F W x).p := by simp only [trP]; omega
        have fb := cm_ge h (show 0 ≤ endB (hgt F.v) (sn F i).k by omega) e.2.2 f.x0 f.xn s4
        have Db := (tm_bd h.v (show 0 ≤ endB (hgt F.v) (sn F i).k by omega) e.2.2).2.1
        have up : Blw (lnT F.v (sn F i).hi (endB (hgt F.v) (sn F i).k) false) (trP F W x) := by
          simp only [Blw, lnT]
          have a := mul_mono (mul_mono s2 Pp) Db
          grind
        intro y hy
        rcases List.mem_cons.1 hy with rfl | hy
        · simp only [if_true]
          exact up
        · split at hy
          · rename_i ha
            simp only [List.mem_cons, List.not_mem_nil, or_false] at hy
            subst hy
            simp only [Bool.false_eq_true, if_false, Abv, lnT]
            have fa := cm_le h ha (by omega) W0 f.x0 f.xn s3
            have Da := (tm_bd h.v (show 0 ≤ endA (sn F i).k by omega) (show endA (sn F i).k ≤ hgt F.v by omega)).2.1
            have a := mul_mono (mul_mono s1 Pp) Da
            grind
          · cases hy
/-- What is told holds. -/
theorem tr_can (h : OkF F) (f : Fair F W x at_) (hI : ∀ i ∈ I, -2 ≤ i ∧ i < F.s.length) : canI F I = true := (canI_pt h fun i hi => (hI i hi).2).2 ⟨_, tr_pt h f hI⟩
theorem tr_bounds (h : OkF F) (f : Fair F W x at_) (hI : ∀ i ∈ I, -2 ≤ i ∧ i < F.s.length) : 1000 * (solvedW F I).hi.d ≤ W * (solvedW F I).hi.n ∧ W * (solvedW F I).lo.n ≤ 1000 * (solvedW F I).lo.d := by
  rw [← wear_in (tr_can h f hI), has_pt h (fun i hi => (hI i hi).2) (f.W0 h)]
  exact ⟨tmD F.v x, tmN F.v x * W, (tm_bd h.v f.x0 f.xn).2.1, tr_pt h f hI⟩
theorem tr_un (h : OkF F) (f : Fair F W x at_) (hI : ∀ i ∈ I, -2 ≤ i ∧ i < F.s.length) {l m : Int} (l0 : 0 ≤ l) (ln : l ≤ hgt F.v) (k : unM F I l m = false) : tmN F.v l * (trP F W x).q ≤ ((trP F W x).y - m * (trP F W x).p) * tmD F.v l := by
  have k' : ¬ unM F I l m = true := by rw [k]; decide
  rw [un_iff h (fun i hi => (hI i hi).2) l0 ln] at k'
  rcases Int.lt_or_le (((trP F W x).y - m * (trP F W x).p) * tmD F.v l) (tmN F.v l * (trP F W x).q) with c | c
  · exact absurd ⟨_, tr_pt h f hI, c⟩ k'
  · exact c
theorem tr_ov (h : OkF F) (f : Fair F W x at_) (hI : ∀ i ∈ I, -2 ≤ i ∧ i < F.s.length) {l m : Int} (l0 : 0 ≤ l) (ln : l ≤ hgt F.v) (k : ovM F I l m = false) : ((trP F W x).y - m * (trP F W x).p) * tmD F.v l ≤ tmN F.v l * (trP F W x).q := by
  have k' : ¬ ovM F I l m = true := by rw [k]; decide
  rw [ov_iff h (fun i hi => (hI i hi).2) l0 ln] at k'
  rcases Int.lt_or_le (tmN F.v l * (trP F W x).q) (((trP F W x).y - m * (trP F W x).p) * tmD F.v l) with c | c
  · exact absurd ⟨_, tr_pt h f hI, c⟩ k'
  · exact c
theorem tr_start (h : OkF F) (f : Fair F W x at_) (hI : ∀ i ∈ I, -2 ≤ i ∧ i < F.s.length) : lvLo F I 0 ≤ x ∧ x ≤ lvHi F I 0 := by
  have hI' : ∀ i ∈ I, i < F.s.length := fun i hi => (hI i hi).2
  obtain ⟨⟨a0, a1⟩, a, b⟩ := lvLo_spec h hI' 0
  obtain ⟨⟨e0, e1⟩, e, g⟩ := lvHi_spec h hI' 0
  have W0 := f.W0 h
  have x0 := f.x0
  have xn := f.xn
  constructor
  · rcases Int.lt_or_le x (lvLo F I 0) with k | k
    · have c := tr_un h f hI a0 a1 (a _ (by omega) (Int.le_refl _))
      have t := tm_lt' h.v x0 k a1
      have := Int.mul_lt_mul_of_pos_right t W0
      simp only [trP] at c
      grind
    · exact k
  · rcases Int.lt_or_le (lvHi F I 0) x with k | k
    · have c := tr_ov h f hI e0 e1 (g _ (Int.le_refl _) (by omega))
      have t := tm_lt' h.v e0 k xn
      have := Int.mul_lt_mul_of_pos_right t W0
      simp only [trP] at c
      grind
    · exact k
theorem tr_level (h : OkF F) (f : Fair F W x at_) (hI : ∀ i ∈ I, -2 ≤ i ∧ i < F.s.length) {m : Int} (m0 : 0 ≤ m) : cmT F W x (lvLo F I m) m ≤ 0 ∧ 0 ≤ cmT F W x (lvHi F I m) m := by
  have hI' : ∀ i ∈ I, i < F.s.length := fun i hi => (hI i hi).2
  obtain ⟨⟨a0, a1⟩, a, b⟩ := lvLo_spec h hI' m
  obtain ⟨⟨e0, e1⟩, e, g⟩ := lvHi_spec h hI' m
  have p := tr_pt h f hI
  constructor
  · refine le_cm h a0 a1 ?_
    rcases Int.lt_or_le 0 (lvLo F I m) with k | k
    · exact .inr (tr_un h f hI a0 a1 (a _ k (Int.le_refl _)))
    · exact .inl (by omega)
  · refine ge_cm h (f.W0 h) f.x0 f.xn e0 e1 ?_
    rcases Int.lt_or_le (lvHi F I m) (hgt F.v) with k | k
    · exact tr_ov h f hI e0 e1 (g _ (Int.le_refl _) k)
    · have e2 : lvHi F I m = hgt F.v := by omega
      rw [e2]
      have t := (pt_top p).2
      have D := (tm_bd h.v (x := hgt F.v) (by omega) (Int.le_refl _)).2.1
      have c := mul_mono (show (trP F W x).y - m * (trP F W x).p ≤ (trP F W x).y by have := Int.mul_nonneg m0 (Int.le_of_lt p.pos.2); omega) D
      omega
theorem tr_reached (h : OkF F) (f : Fair F W x at_) (hI : ∀ i ∈ I, -2 ≤ i ∧ i < F.s.length) {l : Int} (l0 : 0 ≤ l) (ln : l ≤ hgt F.v) : 0 ≤ cmT F W x l (rcHi F I l) ∧ (0 < rcLo F I l → cmT F W x l (rcLo F I l - 1) < 0) := by
  have hI' : ∀ i ∈ I, i < F.s.length := fun i hi => (hI i hi).2
  obtain ⟨⟨a0, a1⟩, a, b⟩ := rcLo_spec h hI' l0 ln
  obtain ⟨⟨e0, e1⟩, e, g⟩ := rcHi_spec h hI' l0 ln
  have p := tr_pt h f hI
  refine ⟨ge_cm h (f.W0 h) f.x0 f.xn l0 ln (tr_ov h f hI l0 ln (g _ (Int.le_refl _))), fun k => lt_cm h l0 ln ?_⟩
  have c := tr_un h f hI l0 ln (a _ k (Int.le_refl _))
  have D := (tm_bd h.v l0 ln).2.1
  have d := Int.mul_lt_mul_of_pos_right (show (trP F W x).y - rcLo F I l * (trP F W x).p < (trP F W x).y - (rcLo F I l - 1) * (trP F W x).p by have := p.pos.2; rw [Int.sub_mul]; omega) D
  omega
/-- The minute of a reading lies within Seen. -/
theorem tr_seen (h : OkF F) (f : Fair F W x at_) (hI : ∀ i ∈ I, -2 ≤ i ∧ i < F.s.length) {i : Int} (i0 : 0 ≤ i) (i1 : i < F.s.length) : rcLo F I (endB (hgt F.v) (sn F i).k) ≤ at_ i ∧ (0 < endA (sn F i).k → at_ i ≤ rcHi F I (endA (sn F i).k)) := by
  have hI' : ∀ i ∈ I, i < F.s.length := fun i hi => (hI i hi).2
  obtain ⟨⟨s1, s2⟩, s3, s4⟩ := f.s i i0 i1
  have e := end_in (sn_okk h i1)
  have p := tr_pt h f hI
  have hso : 0 ≤ (sn F i).lo := by
    have hm : i.toNat < F.s.length := by omega
    have := h.s _ (List.getElem_mem hm)
    unfold sn
    rw [List.getElem?_eq_getElem hm]
    simp only [okSn, Bool.and_eq_true, decide_eq_true_eq] at this
    exact this.1.1.1
  constructor
  · have b0 : 0 ≤ endB (hgt F.v) (sn F i).k := by omega
    have c := cm_ge h b0 e.2.2 f.x0 f.xn s4
    exact ever_ge h hI' b0 e.2.2 (by omega) ((ev_iff h hI' b0 e.2.2).2 ⟨_, p, c⟩)
  · intro k
    have a1 : endA (sn F i).k ≤ hgt F.v := by omega
    have c := cm_le h k a1 (f.W0 h) f.x0 f.xn s3
    rcases Int.lt_or_le (rcHi F I (endA (sn F i).k)) (at_ i) with j | j
    · have r := (rcHi_spec h hI' (show 0 ≤ endA (sn F i).k by omega) a1).2.2 (at_ i - 1) (by omega)
      have c2 := tr_ov h f hI (show 0 ≤ endA (sn F i).k by omega) a1 r
      have D := (tm_bd h.v (show 0 ≤ endA (sn F i).k by omega) a1).2.1
      have d := Int.mul_lt_mul_of_pos_right (show (trP F W x).y - at_ i * (trP F W x).p < (trP F W x).y - (at_ i - 1) * (trP F W x).p by have := p.pos.2; rw [Int.sub_mul]; omega) D
      omega
    · exact j
end
end Go.Proofs.YtnfndiafabhhdaaGreat
/- Both ends of the wear are attained; a case that is one lies between them; how great they are (Wear). Plain. -/
namespace Go.Proofs.YtnfndiafabhhdaaGreat

/-- The denominators of the ends of g, where minutes are at most 2^20. -/
structure LnM (l : Ln) : Prop where
  d0 : 0 < l.d
  d1 : l.d ≤ 1000
  k0 : 0 ≤ l.k
  k1 : l.k ≤ 1048576
theorem pairW_den {r : Rn} {l u : Ln} (h : r.lo.d ≤ 1048576000000 ∧ r.hi.d ≤ 1048576000000) (hl : LnM l) (hu : LnM u) : (pairW r l u).lo.d ≤ 1048576000000 ∧ (pairW r l u).hi.d ≤ 1048576000000 := by
  have D : 0 ≤ lnD l u ∧ lnD l u ≤ 1000000 := by
    have := mul_bd (Int.le_of_lt hl.d0) hl.d1 (Int.le_of_lt hu.d0) hu.d1
    unfold lnD; omega
  have a := hl.k0; have b := hl.k1; have c := hu.k0; have d := hu.k1
  unfold pairW
  split
  · exact h
  · split
    · exact h
    · split
      · rename_i k
        have := mul_bd D.1 D.2 (show 0 ≤ l.k - u.k by omega) (show l.k - u.k ≤ 1048576 by omega)
        refine ⟨h.1, ?_⟩
        simp only [mnW]
        split
        · simp only; omega
        · exact h.2
      · split
        · rename_i k k2
          have := mul_bd D.1 D.2 (show 0 ≤ -(l.k - u.k) by omega) (show -(l.k - u.k) ≤ 1048576 by omega)
          refine ⟨?_, h.2⟩
          simp only [mxW]
          split
          · simp only; omega
          · exact h.1
        · exact h
theorem allW_den {B : List Ln} (hB : ∀ u ∈ B, LnM u) : ∀ (A : List Ln) (r : Rn), (∀ l ∈ A, LnM l) → r.lo.d ≤ 1048576000000 ∧ r.hi.d ≤ 1048576000000 → (allP pairW r A B).lo.d ≤ 1048576000000 ∧ (allP pairW r A B).hi.d ≤ 1048576000000
  | [], _, _, h => h
  | l :: A, r, hA, h => by
    have inner : ∀ (C : List Ln) (r : Rn), (∀ u ∈ C, LnM u) → r.lo.d ≤ 1048576000000 ∧ r.hi.d ≤ 1048576000000 → (C.foldl (fun r u => pairW r l u) r).lo.d ≤ 1048576000000 ∧ (C.foldl (fun r u => pairW r l u) r).hi.d ≤ 1048576000000 := by
      intro C
      induction C with
      | nil => intro r _ h; exact h
      | cons u C ih => intro r hC h; exact ih _ (fun x hx => hC x (by simp [hx])) (pairW_den h (hA l (by simp)) (hC u (by simp)))
    exact allW_den hB A _ (fun x hx => hA x (by simp [hx])) (inner B r hB h)
theorem rnW_den {F : Fl} (h : OkF F) : ∀ (I : List Int) (r : Rn), r.lo.d ≤ 1048576000000 ∧ r.hi.d ≤ 1048576000000 → (I.foldl (fun r i => if i = -2 then { r with lo := mxW r.lo ⟨1000, F.whi, false⟩, hi := mnW r.hi ⟨1000, F.wlo, false⟩ } else r) r).lo.d ≤ 1048576000000 ∧ (I.foldl (fun r i => if i = -2 then { r with lo := mxW r.lo ⟨1000, F.whi, false⟩, hi := mnW r.hi ⟨1000, F.wlo, false⟩ } else r) r).hi.d ≤ 1048576000000
  | [], _, k => k
  | i :: I, r, k => by
    have h1 := h.w1
    have h2 := h.w2
    have h3 := h.w3
    rw [List.foldl_cons]
    split
    · refine rnW_den h I _ ⟨?_, ?_⟩
      · simp only [mxW]
        split
        · simp only; omega
        · exact k.1
      · simp only [mnW]
        split
        · simp only; omega
        · exact k.2
    · exact rnW_den h I _ k
theorem lines_M {F : Fl} (h : OkF F) {I : List Int} (hI : ∀ i ∈ I, i < F.s.length) : ∀ x ∈ linesL F I, LnM x.1 := by
  have H := okF_hgt h
  have T : ∀ k x s, 0 ≤ x → x ≤ hgt F.v → 0 ≤ k → k ≤ 1048576 → LnM (lnT F.v k x s) := fun k x s a b c d => ⟨(tm_bd h.v a b).2.1, (tm_bd h.v a b).2.2, c, d⟩
  intro x hx
  unfold linesL at hx
  rcases List.mem_append.1 hx with hx | hx
  · simp only [frameL, List.mem_cons, List.not_mem_nil, or_false] at hx
    rcases hx with rfl | rfl
    · exact ⟨by decide, by decide, by decide, by decide⟩
    · exact T _ _ _ (by omega) (Int.le_refl _) (by decide) (by decide)
  · obtain ⟨i, hi, hx⟩ := List.mem_flatMap.1 hx
    by_cases h2 : i = -2
    · rw [if_pos h2] at hx; cases hx
    · rw [if_neg h2] at hx
      unfold itemL at hx
      split at hx
      · have e := end_in h.f
        simp only [List.mem_cons, List.not_mem_nil, or_false] at hx
        rcases hx with rfl | rfl
        · exact T _ _ _ e.1.1 (by omega) (by decide) (by decide)
        · exact T _ _ _ (by omega) e.2.2 (by decide) (by decide)
      · have e := end_in (sn_okk h (hI i hi))
        have hs : 0 ≤ (sn F i).lo ∧ (sn F i).lo ≤ (sn F i).hi ∧ (sn F i).hi ≤ 1048576 := by
          have hk : i.toNat < F.s.length ∨ F.s.length ≤ i.toNat := Nat.lt_or_ge _ _
          rcases hk with hk | hk
          · have := h.s _ (List.getElem_mem hk)
            simp only [okSn, Bool.and_eq_true, decide_eq_true_eq] at this
            unfold sn
            rw [List.getElem?_eq_getElem hk]
            exact ⟨this.1.1.1, this.1.1.2, this.1.2⟩
          · unfold sn
            rw [List.getElem?_eq_none hk]
            simp
        simp only [List.mem_cons] at hx
        rcases hx with rfl | hx
        · exact T _ _ _ (by omega) e.2.2 (by omega) hs.2.2
        · split at hx
          · simp only [List.mem_cons, List.not_mem_nil, or_false] at hx
            subst hx
            exact T _ _ _ e.1.1 (by omega) hs.1 (by omega)
          · cases hx
theorem solved_den {F : Fl} (h : OkF F) {I : List Int} (hI : ∀ i ∈ I, i < F.s.length) : (solvedW F I).lo.d ≤ 1048576000000 ∧ (solvedW F I).hi.d ≤ 1048576000000 := by
  have L := lines_M h hI
  exact allW_den (fun u hu => L _ (mem_ups.1 hu)) _ _ (fun l hl => L _ (mem_lows.1 hl)) (rnW_den h I _ ⟨by decide, by decide⟩)
section
variable {F : Fl} {I : List Int}
/-- The ends are held. -/
theorem ends_has (_h : OkF F) (_hI : ∀ i ∈ I, i < F.s.length) (hc : canI F I = true) : (solvedW F I).has (solvedW F I).lo.n (solvedW F I).lo.d ∧ (solvedW F I).has (solvedW F I).hi.n (solvedW F I).hi.d ∧ (solvedW F I).lo.n * (solvedW F I).hi.d ≤ (solvedW F I).hi.n * (solvedW F I).lo.d := by
  obtain ⟨s1, s2⟩ := solved_soft (F := F) I
  obtain ⟨e, k⟩ := some_parts hc
  have c : (solvedW F I).lo.n * (solvedW F I).hi.d ≤ (solvedW F I).hi.n * (solvedW F I).lo.d := by
    rcases k with k | k
    · omega
    · omega
  unfold Rn.has Bd.ge Bd.le
  rw [s1, s2, e]
  simp only [Bool.false_eq_true, if_false, true_and]
  exact ⟨⟨Int.le_refl _, c⟩, ⟨c, Int.le_refl _⟩, c⟩
theorem end_case (h : OkF F) (hI : ∀ i ∈ I, i < F.s.length) (h1 : -1 ∈ I) (h2 : -2 ∈ I) {n d : Int} (hd : 0 < d) (hn : 0 < n) (k : (solvedW F I).has n d) :
    ∃ b ∈ I, b ≠ -2 ∧ CaseOk F I (lowN1 (1000 * d) n) (lowN2 (1000 * d) n) b := by
  obtain ⟨⟨k1, k2⟩, k3⟩ := (solved_has h hI hd).1 k
  obtain ⟨w1, w2⟩ := k2 h2
  obtain ⟨b, hb, b2, f1, f2⟩ := some_known h hI h1 hd k3
  have c := lowN_cross (n := 1000 * d) (d := n) (by omega) hn
  obtain ⟨⟨n0, n1⟩, d0, d1⟩ := lowN_bd (n := 1000 * d) (d := n) (by omega) hn
  generalize lowN1 (1000 * d) n = N at *
  generalize lowN2 (1000 * d) n = D at *
  have N0 : 0 < N := by
    rcases Int.lt_or_le 0 N with j | j
    · exact j
    · have := Int.mul_nonpos_of_nonpos_of_nonneg j (Int.le_of_lt hn)
      have := Int.mul_pos (show 0 < 1000 * d by omega) d0
      omega
  have e : n * N = 1000 * D * d := by rw [Int.mul_comm n, c]; ac_rfl
  refine ⟨b, hb, b2, ⟨?_, ?_⟩, fun l hl => (fit_scale hd N0 e).1 (f1 l hl), fun u hu => (fit_scale hd N0 e).1 (f2 u hu)⟩
  · refine (mul_le_r hn).1 ?_
    have := mul_mono w2 d0
    grind
  · refine (mul_le_r hn).1 ?_
    have := mul_mono w1 d0
    grind
/-- A case that is one is held. -/
theorem case_has (h : OkF F) (hI : ∀ i ∈ I, i < F.s.length) {N D b : Int} (hN : 0 < N) (hD : 0 < D) (k : CaseOk F I N D b) : (solvedW F I).has (1000 * D) N := by
  obtain ⟨⟨w1, w2⟩, f1, f2⟩ := k
  have A := lowsP h hI
  have B := upsP h hI
  have X := known_pos (F := F) h (b := b)
  have a1 := h.w1
  have a3 := h.w3
  have c1 := mul_mono a1 hD
  have c2 := mul_mono a3 hD
  have wc : wearC F (1000 * D) N := ⟨by grind, by grind⟩
  exact (solved_has h hI hN).2 ⟨⟨⟨by omega, by omega⟩, fun _ => wc⟩, fun l hl u hu => fit_trans (A l hl).1 X.1 (B u hu).1 (A l hl).2 X.2 (B u hu).2 (f1 l hl) (f2 u hu)⟩
theorem has_can (h : OkF F) (hI : ∀ i ∈ I, i < F.s.length) {p q : Int} (hq : 0 < q) (k : (solvedW F I).has p q) : canI F I = true := by
  obtain ⟨t, y, _, p⟩ := (has_pt h hI hq).1 k
  exact (canI_pt h hI).2 ⟨_, p⟩
/-- The wear of a point that is held lies between the wears of the ends. -/
theorem held_between (_h : OkF F) (_hI : ∀ i ∈ I, i < F.s.length) {N D : Int} (_hN : 0 < N) (k : (solvedW F I).has (1000 * D) N) :
    1000 * (solvedW F I).hi.d * D ≤ N * (solvedW F I).hi.n ∧ N * (solvedW F I).lo.n ≤ 1000 * (solvedW F I).lo.d * D := by
  obtain ⟨s1, s2⟩ := solved_soft (F := F) I
  obtain ⟨_, a, b⟩ := k
  unfold Bd.ge at a
  unfold Bd.le at b
  rw [s1, if_neg (by decide)] at a
  rw [s2, if_neg (by decide)] at b
  constructor
  · grind
  · grind
/-- In lowest terms: which of two wears is less. -/
theorem low_le {n d N D : Int} (hn : 0 ≤ n) (hd : 0 < d) (_hD : 0 < D) : (lowN1 n d * D ≤ N * lowN2 n d ↔ n * D ≤ N * d) ∧ (N * lowN2 n d ≤ lowN1 n d * D ↔ N * d ≤ n * D) := by
  have c := lowN_cross hn hd
  obtain ⟨_, d0, _⟩ := lowN_bd hn hd
  generalize lowN1 n d = a at *
  generalize lowN2 n d = b at *
  constructor
  · rw [← mul_le_r hd, ← mul_le_r (a := n * D) (b := N * d) d0]
    have e1 : a * D * d = n * D * b := by grind
    have e2 : N * b * d = N * d * b := by ac_rfl
    rw [e1, e2]
  · rw [← mul_le_r hd, ← mul_le_r (a := N * d) (b := n * D) d0]
    have e1 : a * D * d = n * D * b := by grind
    have e2 : N * b * d = N * d * b := by ac_rfl
    rw [e1, e2]
end
end Go.Proofs.YtnfndiafabhhdaaGreat
/- With more that was seen what is told is narrower; a filling of which all but some items is known as little as can be (Wear). Plain. -/
namespace Go.Proofs.YtnfndiafabhhdaaGreat

/-- All items. -/
def allI (F : Fl) : List Int := (List.range (F.s.length + 2)).map fun (j : Nat) => (j : Int) - 2
theorem allI_mem {F : Fl} {i : Int} : i ∈ allI F ↔ -2 ≤ i ∧ i < F.s.length := by
  unfold allI
  rw [List.mem_map]
  constructor
  · rintro ⟨j, hj, rfl⟩
    have := List.mem_range.1 hj
    omega
  · rintro ⟨a, b⟩
    exact ⟨(i + 2).toNat, List.mem_range.2 (by omega), by omega⟩
theorem allI_in {F : Fl} : ∀ i ∈ allI F, i < F.s.length := fun _ hi => (allI_mem.1 hi).2
/-- Fillings of the same vessel, the cases of one among those of the other. -/
structure Nar (F : Fl) (I : List Int) (F' : Fl) (I' : List Int) : Prop where
  h : OkF F
  h' : OkF F'
  i : ∀ i ∈ I, i < F.s.length
  i' : ∀ i ∈ I', i < F'.s.length
  v : F'.v = F.v
  p : ∀ v, Pt F' I' v → Pt F I v
section
variable {F F' : Fl} {I I' : List Int}
theorem Nar.can (n : Nar F I F' I') (k : canI F' I' = true) : canI F I = true := by
  rw [canI_pt n.h' n.i'] at k
  rw [canI_pt n.h n.i]
  obtain ⟨v, p⟩ := k
  exact ⟨v, n.p v p⟩
theorem Nar.un (n : Nar F I F' I') {x m : Int} (x0 : 0 ≤ x) (xn : x ≤ hgt F.v) (k : unM F' I' x m = true) : unM F I x m = true := by
  rw [un_iff n.h' n.i' x0 (by rw [n.v]; exact xn)] at k
  rw [un_iff n.h n.i x0 xn]
  obtain ⟨v, p, c⟩ := k
  rw [n.v] at c
  exact ⟨v, n.p v p, c⟩
theorem Nar.ov (n : Nar F I F' I') {x m : Int} (x0 : 0 ≤ x) (xn : x ≤ hgt F.v) (k : ovM F' I' x m = true) : ovM F I x m = true := by
  rw [ov_iff n.h' n.i' x0 (by rw [n.v]; exact xn)] at k
  rw [ov_iff n.h n.i x0 xn]
  obtain ⟨v, p, c⟩ := k
  rw [n.v] at c
  exact ⟨v, n.p v p, c⟩
theorem Nar.lv (n : Nar F I F' I') (m : Int) : lvLo F I m ≤ lvLo F' I' m ∧ lvHi F' I' m ≤ lvHi F I m := by
  obtain ⟨⟨a0, a1⟩, a, b⟩ := lvLo_spec n.h n.i m
  obtain ⟨⟨c0, c1⟩, c, d⟩ := lvLo_spec n.h' n.i' m
  obtain ⟨⟨e0, e1⟩, e, f⟩ := lvHi_spec n.h n.i m
  obtain ⟨⟨g0, g1⟩, g, j⟩ := lvHi_spec n.h' n.i' m
  rw [n.v] at c1 d g1 j
  constructor
  · rcases Int.lt_or_le (lvLo F' I' m) (lvLo F I m) with k | k
    · have q1 := d _ k a1
      have q2 := a _ (by omega) (Int.le_refl _)
      rw [n.un a0 a1 q1] at q2; cases q2
    · exact k
  · rcases Int.lt_or_le (lvHi F I m) (lvHi F' I' m) with k | k
    · have q1 := g _ e0 k
      have q2 := f _ (Int.le_refl _) (by omega)
      rw [n.ov e0 e1 q1] at q2; cases q2
    · exact k
theorem Nar.rc (n : Nar F I F' I') {x : Int} (x0 : 0 ≤ x) (xn : x ≤ hgt F.v) : rcLo F I x ≤ rcLo F' I' x ∧ rcHi F' I' x ≤ rcHi F I x := by
  have xn' : x ≤ hgt F'.v := by rw [n.v]; exact xn
  obtain ⟨⟨a0, a1⟩, a, b⟩ := rcLo_spec n.h n.i x0 xn
  obtain ⟨⟨c0, c1⟩, c, d⟩ := rcLo_spec n.h' n.i' x0 xn'
  obtain ⟨⟨e0, e1⟩, e, f⟩ := rcHi_spec n.h n.i x0 xn
  obtain ⟨⟨g0, g1⟩, g, j⟩ := rcHi_spec n.h' n.i' x0 xn'
  constructor
  · rcases Int.lt_or_le (rcLo F' I' x) (rcLo F I x) with k | k
    · have q1 := d _ k a1
      have q2 := a _ (by omega) (Int.le_refl _)
      rw [n.un x0 xn q1] at q2; cases q2
    · exact k
  · rcases Int.lt_or_le (rcHi F I x) (rcHi F' I' x) with k | k
    · have q1 := g _ e0 k
      have q2 := f _ (Int.le_refl _)
      rw [n.ov x0 xn q1] at q2; cases q2
    · exact k
theorem Nar.has (n : Nar F I F' I') {p q : Int} (hq : 0 < q) (k : (solvedW F' I').has p q) : (solvedW F I).has p q := by
  rw [has_pt n.h' n.i' hq] at k
  rw [has_pt n.h n.i hq]
  obtain ⟨t, y, ht, p⟩ := k
  exact ⟨t, y, ht, n.p _ p⟩
/-- The ends of g. -/
theorem Nar.ends (n : Nar F I F' I') (hc : canI F' I' = true) : (solvedW F I).lo.n * (solvedW F' I').lo.d ≤ (solvedW F' I').lo.n * (solvedW F I).lo.d ∧ (solvedW F' I').hi.n * (solvedW F I).hi.d ≤ (solvedW F I).hi.n * (solvedW F' I').hi.d := by
  obtain ⟨a, b, _⟩ := ends_has n.h' n.i' hc
  have s' := (solved_same n.h' n.i').1
  obtain ⟨s1, s2⟩ := solved_soft (F := F) I
  have a1 := (n.has s'.l a).2.1
  have b1 := (n.has s'.h b).2.2
  unfold Bd.ge at a1
  unfold Bd.le at b1
  rw [s1, if_neg (by decide)] at a1
  rw [s2, if_neg (by decide)] at b1
  exact ⟨a1, b1⟩
end
/-- The lines of a reading. -/
def rdL (v : List Rg) (s : Sn) : List (Ln × Bool) := (lnT v s.hi (endB (hgt v) s.k) false, true) :: (if 0 < endA s.k then [(lnT v s.lo (endA s.k) false, false)] else [])
def Rd (v : List Rg) (s : Sn) (p : V3) : Prop := ∀ x ∈ rdL v s, if x.2 = true then Blw x.1 p else Abv x.1 p
theorem ci_rd {F : Fl} {i : Int} (h1 : i ≠ -1) (h2 : i ≠ -2) (p : V3) : Ci F i p ↔ Rd F.v (sn F i) p := by
  unfold Ci Rd itemL rdL
  rw [if_neg h2, if_neg h1]
/-- All items of a filling, by its parts. -/
theorem pt_all {F : Fl} {p : V3} : Pt F (allI F) p ↔ Kc F p ∧ wearC F p.p p.q ∧ Ci F (-1) p ∧ ∀ s ∈ F.s, Rd F.v s p := by
  refine and_congr Iff.rfl ?_
  constructor
  · intro h
    refine ⟨?_, h (-1) (allI_mem.2 (by omega)), fun s hs => ?_⟩
    · have := h (-2) (allI_mem.2 (by omega))
      unfold Ci at this
      rwa [if_pos rfl] at this
    · obtain ⟨j, hj, rfl⟩ := List.mem_iff_getElem.1 hs
      have := h (j : Int) (allI_mem.2 (by omega))
      rw [ci_rd (by omega) (by omega)] at this
      unfold sn at this
      rw [show ((j : Int)).toNat = j by omega, List.getElem?_eq_getElem hj] at this
      exact this
  · rintro ⟨a, b, c⟩ i hi
    obtain ⟨i0, i1⟩ := allI_mem.1 hi
    by_cases h2 : i = -2
    · subst h2
      unfold Ci
      rw [if_pos rfl]
      exact a
    · by_cases h1 : i = -1
      · subst h1; exact b
      · rw [ci_rd h1 h2]
        apply c
        unfold sn
        rw [List.getElem?_eq_getElem (show i.toNat < F.s.length by omega)]
        exact List.getElem_mem _
/-- With other readings. -/
def seenF (F : Fl) (s : List Sn) : Fl := ⟨F.v, F.f, F.wlo, F.whi, s⟩
theorem okF_seen {F : Fl} (h : OkF F) {s : List Sn} (n : s.length ≤ 24) (k : ∀ x ∈ s, okSn (hgt F.v) x = true) : OkF (seenF F s) := ⟨h.v, h.f, h.w1, h.w2, h.w3, n, k⟩
theorem kc_seen {F : Fl} {s : List Sn} {p : V3} : Kc (seenF F s) p ↔ Kc F p := Iff.rfl
theorem c1_seen {F : Fl} {s : List Sn} {p : V3} : Ci (seenF F s) (-1) p ↔ Ci F (-1) p := by
  unfold Ci
  rw [if_neg (by decide), if_neg (by decide)]
  exact Iff.rfl
theorem nar_seen {F : Fl} (h : OkF F) {s : List Sn} (h' : OkF (seenF F s)) (k : ∀ x ∈ F.s, x ∈ s) : Nar F (allI F) (seenF F s) (allI (seenF F s)) :=
  ⟨h, h', allI_in, allI_in, rfl, fun v p => by
    rw [pt_all] at p ⊢
    obtain ⟨a, b, c, d⟩ := p
    exact ⟨a, b, c1_seen.1 c, fun x hx => d x (k x hx)⟩⟩
theorem nar_less {F : Fl} (h : OkF F) {s : List Sn} (h' : OkF (seenF F s)) (k : ∀ x ∈ s, x ∈ F.s) : Nar (seenF F s) (allI (seenF F s)) F (allI F) :=
  ⟨h', h, allI_in, allI_in, rfl, fun v p => by
    rw [pt_all] at p ⊢
    obtain ⟨a, b, c, d⟩ := p
    exact ⟨a, b, c1_seen.2 c, fun x hx => d x (k x hx)⟩⟩
/-- All but some items known as little as can be. -/
def widF (F : Fl) (l : List Int) : Fl := ⟨F.v, if -1 ∈ l then F.f else ⟨hgt F.v, 1000⟩, if -2 ∈ l then F.wlo else 1, if -2 ∈ l then F.whi else 4000, (l.filter fun (i : Int) => decide (0 ≤ i) && decide (i < F.s.length)).map (sn F)⟩
theorem okF_wid {F : Fl} (h : OkF F) {l : List Int} (hn : l.length ≤ 24) : OkF (widF F l) := by
  have H := okF_hgt h
  have h1 := h.w1
  have h2 := h.w2
  have h3 := h.w3
  refine ⟨h.v, ?_, ?_, ?_, ?_, ?_, ?_⟩
  · show okLk (hgt F.v) (if -1 ∈ l then F.f else ⟨hgt F.v, 1000⟩) = true
    split
    · exact h.f
    · simp [okLk]; omega
  · show 1 ≤ (if -2 ∈ l then F.wlo else 1)
    split <;> omega
  · show (if -2 ∈ l then F.wlo else 1) ≤ (if -2 ∈ l then F.whi else 4000)
    split <;> omega
  · show (if -2 ∈ l then F.whi else 4000) ≤ 4000
    split <;> omega
  · show ((l.filter fun (i : Int) => decide (0 ≤ i) && decide (i < F.s.length)).map (sn F)).length ≤ 24
    rw [List.length_map]
    exact Nat.le_trans (List.length_filter_le _ _) hn
  · intro x hx
    obtain ⟨i, hi, rfl⟩ := List.mem_map.1 hx
    have := (List.mem_filter.1 hi).2
    simp only [Bool.and_eq_true, decide_eq_true_eq] at this
    unfold sn
    rw [List.getElem?_eq_getElem (show i.toNat < F.s.length by omega)]
    exact h.s _ (List.getElem_mem _)
theorem pt_wid {F : Fl} (h : OkF F) {l : List Int} (hl : ∀ i ∈ l, -2 ≤ i ∧ i < F.s.length) (hh : hgt F.v ≤ 1000) (p : V3) : Pt (widF F l) (allI (widF F l)) p ↔ Pt F l p := by
  have H := okF_hgt h
  rw [pt_all]
  have kc : Kc (widF F l) p ↔ Kc F p := Iff.rfl
  rw [kc]
  refine and_congr_right fun k => ?_
  have k1 := k.2.1
  have k2 := k.2.2
  have g1 := k2 (⟨0, 0, 1, false⟩, false) (by simp [frameL])
  have g2 := k2 (lnT F.v 0 (hgt F.v) false, true) (by simp [frameL])
  simp [Abv] at g1
  simp [Blw, lnT] at g2
  have w : wearC (widF F l) p.p p.q ↔ (-2 ∈ l → wearC F p.p p.q) := by
    show (1000 * p.q ≤ p.p * (if -2 ∈ l then F.whi else 4000) ∧ p.p * (if -2 ∈ l then F.wlo else 1) ≤ 1000 * p.q) ↔ _
    by_cases c : -2 ∈ l
    · rw [if_pos c, if_pos c]
      exact ⟨fun a _ => a, fun a => a c⟩
    · rw [if_neg c, if_neg c]
      exact ⟨fun _ a => absurd a c, fun _ => ⟨k1.1, by omega⟩⟩
  have f : Ci (widF F l) (-1) p ↔ (-1 ∈ l → Ci F (-1) p) := by
    by_cases c : -1 ∈ l
    · have e : (widF F l).f = F.f := if_pos c
      have : Ci (widF F l) (-1) p ↔ Ci F (-1) p := by
        have e2 : itemL (widF F l) (-1) = itemL F (-1) := by
          unfold itemL
          rw [if_pos rfl, if_pos rfl, e]
          rfl
        unfold Ci
        rw [if_neg (by decide), if_neg (by decide), e2]
      rw [this]
      exact ⟨fun a _ => a, fun a => a c⟩
    · have e : (widF F l).f = ⟨hgt F.v, 1000⟩ := if_neg c
      refine ⟨fun _ a => absurd a c, fun _ => ?_⟩
      unfold Ci itemL
      rw [if_neg (by decide), if_pos rfl, e]
      have ea : endA ⟨hgt F.v, 1000⟩ = 0 := by unfold endA; simp only; omega
      have eb : endB (hgt (widF F l).v) ⟨hgt F.v, 1000⟩ = hgt F.v := by
        show min (hgt F.v) (hgt F.v + 1000) = hgt F.v
        omega
      rw [ea, eb]
      intro x hx
      simp only [List.mem_cons, List.not_mem_nil, or_false] at hx
      rcases hx with rfl | rfl
      · show Abv (lnT F.v 0 0 false) p
        simp only [Abv, lnT, tm_zero h.v, Int.zero_mul, Int.zero_add]
        exact Int.mul_nonneg g1 (Int.le_of_lt (tm_bd h.v (x := 0) (by omega) (by rw [← hgt_eq]; omega)).2.1)
      · show Blw (lnT F.v 0 (hgt F.v) false) p
        simp only [Blw, lnT, Int.zero_mul, Int.zero_add]
        exact g2
  have r : (∀ s ∈ (widF F l).s, Rd (widF F l).v s p) ↔ ∀ i ∈ l, 0 ≤ i → Ci F i p := by
    constructor
    · intro a i hi i0
      rw [ci_rd (by omega) (by omega)]
      exact a _ (List.mem_map.2 ⟨i, List.mem_filter.2 ⟨hi, by simp [i0, (hl i hi).2]⟩, rfl⟩)
    · intro a s hs
      obtain ⟨i, hi, rfl⟩ := List.mem_map.1 hs
      obtain ⟨hi, c⟩ := List.mem_filter.1 hi
      simp only [Bool.and_eq_true, decide_eq_true_eq] at c
      have := a i hi c.1
      rwa [ci_rd (by omega) (by omega)] at this
  rw [w, f, r]
  constructor
  · rintro ⟨a, b, c⟩ i hi
    obtain ⟨i0, i1⟩ := hl i hi
    by_cases h2 : i = -2
    · subst h2
      unfold Ci
      rw [if_pos rfl]
      exact a hi
    · by_cases h1 : i = -1
      · subst h1; exact b hi
      · exact c i hi (by omega)
  · intro a
    refine ⟨fun m => ?_, fun m => a _ m, fun i hi _ => a i hi⟩
    have := a _ m
    unfold Ci at this
    rwa [if_pos rfl] at this
theorem can_wid {F : Fl} (h : OkF F) {l : List Int} (hl : ∀ i ∈ l, -2 ≤ i ∧ i < F.s.length) (hn : l.length ≤ 24) (hh : hgt F.v ≤ 1000) : canI (widF F l) (allI (widF F l)) = canI F l := by
  rw [Bool.eq_iff_iff, canI_pt (okF_wid h hn) allI_in, canI_pt h fun i hi => (hl i hi).2]
  exact exists_congr fun p => pt_wid h hl hh p
/-- Nothing at all can be so. -/
theorem can_nil {F : Fl} (h : OkF F) : canI F [] = true := by
  have H := okF_hgt h
  rw [canI_pt h (by simp)]
  refine ⟨⟨1, 1, 0⟩, ⟨by decide, by decide, fun x hx => ?_⟩, by simp⟩
  simp only [frameL, List.mem_cons, List.not_mem_nil, or_false] at hx
  rcases hx with rfl | rfl
  · simp [Abv]
  · have := (tm_bd h.v (x := hgt F.v) (by omega) (Int.le_refl _)).1.1
    simpa [Blw, lnT] using this
theorem can_sub {F : Fl} (h : OkF F) {I J : List Int} (hI : ∀ i ∈ I, i < F.s.length) (hJ : ∀ i ∈ J, i ∈ I) (k : canI F I = true) : canI F J = true := by
  rw [canI_pt h hI] at k
  rw [canI_pt h fun i hi => hI i (hJ i hi)]
  obtain ⟨v, p1, p2⟩ := k
  exact ⟨v, p1, fun i hi => p2 i (hJ i hi)⟩
end Go.Proofs.YtnfndiafabhhdaaGreat
/- A filling whose wear is narrowed to one number: a case is possible exactly if the number lies within the bounds. -/
namespace Go.Proofs.YtnfndiafabhhdaaGreat

def narF (F : Fl) (n : Int) : Fl := ⟨F.v, F.f, n, n, F.s⟩
theorem okF_nar {F : Fl} (h : OkF F) {n : Int} (h1 : F.wlo ≤ n) (h2 : n ≤ F.whi) : OkF (narF F n) :=
  ⟨h.v, h.f, by have := h.w1; show (1 : Int) ≤ n; omega, Int.le_refl _, by have := h.w3; show n ≤ 4000; omega, h.n, h.s⟩
theorem fit_along {l u : Ln} {p q p' q' : Int} (hs : l.s = false) (ht : u.s = false) (hq : 0 < q) (hq' : 0 < q') (e : p * q' = p' * q) (h : Fit l u p q) : Fit l u p' q' := by
  unfold Fit at h ⊢
  rw [hs, ht] at h ⊢
  simp only [Bool.or_self, Bool.false_eq_true, if_false] at h ⊢
  have h1 := Int.mul_le_mul_of_nonneg_right h (Int.le_of_lt hq')
  have e1 : (l.k - u.k) * p * lnD l u * q' = (l.k - u.k) * p' * lnD l u * q := by
    rw [show (l.k - u.k) * p * lnD l u * q' = (l.k - u.k) * lnD l u * (p * q') by ac_rfl, e]; ac_rfl
  rw [e1, show lnN l u * q * q' = lnN l u * q' * q by ac_rfl] at h1
  exact Int.le_of_mul_le_mul_right h1 hq
theorem nar_can {F : Fl} (h : OkF F) {n : Int} (h1 : F.wlo ≤ n) (h2 : n ≤ F.whi) {I : List Int} (hI : ∀ i ∈ I, i < F.s.length) (hw : -2 ∈ I) : canI (narF F n) I = true ↔ (solvedW F I).has 1000 n := by
  have h' := okF_nar h h1 h2
  have hI' : ∀ i ∈ I, i < ((narF F n).s.length : Int) := hI
  have hn : 0 < n := by have := h.w1; omega
  have n4 : n ≤ 4000 := by have := h.w3; omega
  have eL : linesL (narF F n) I = linesL F I := rfl
  constructor
  · intro hc
    obtain ⟨k, _, _⟩ := ends_has h' hI' hc
    have hd : 0 < (solvedW (narF F n) I).lo.d := (solved_same h' hI').1.l
    rw [solved_has h' hI' hd] at k
    obtain ⟨⟨⟨k1, k2⟩, k3⟩, k4⟩ := k
    have k3 := k3 hw
    have e : (solvedW (narF F n) I).lo.n * n = 1000 * (solvedW (narF F n) I).lo.d := by
      have a := k3.1
      have b := k3.2
      simp only [narF] at a b ⊢
      omega
    rw [solved_has h hI hn]
    refine ⟨⟨⟨by omega, by omega⟩, fun _ => ⟨by omega, by omega⟩⟩, fun l hl u hu => ?_⟩
    rw [← eL] at hl hu
    exact fit_along (lines_soft _ (mem_lows.1 hl)) (lines_soft _ (mem_ups.1 hu)) hd hn (by rw [e]) (k4 l hl u hu)
  · intro k
    rw [solved_has h hI hn] at k
    refine has_can h' hI' hn ((solved_has h' hI' hn).2 ⟨⟨k.1.1, fun _ => ⟨?_, ?_⟩⟩, k.2⟩)
    · show 1000 * n ≤ 1000 * n; omega
    · show 1000 * n ≤ 1000 * n; omega
end Go.Proofs.YtnfndiafabhhdaaGreat
