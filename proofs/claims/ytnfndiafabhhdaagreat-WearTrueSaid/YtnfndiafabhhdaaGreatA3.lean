/- What can be so, by points (minutes, wear, first time); the time of a level rises (Wear). Plain. -/
import Derived.Test.YtnfndiafabhhdaaGreatA2
namespace Go.Proofs.YtnfndiafabhhdaaGreat
def Pt (F : Fl) (I : List Int) (v : V3) : Prop := Kc F v ∧ ∀ i ∈ I, Ci F i v
theorem canI_pt {F : Fl} (h : OkF F) {I : List Int} (hI : ∀ i ∈ I, i < F.s.length) : canI F I = true ↔ ∃ v, Pt F I v := canI_point h hI
theorem Pt.pos {F : Fl} {I : List Int} {v : V3} (h : Pt F I v) : 0 < v.q ∧ 0 < v.p := by
  have := h.1.1
  have := h.1.2.1
  omega
theorem pt_of {F : Fl} (h : OkF F) {I : List Int} {p q t y : Int} (hq : 0 < q) (ht : 0 < t) (k1 : (rnR F I).has p q) (ha : ∀ l ∈ lows (linesL F I), Abv l ⟨q * t, p * t, y⟩) (hb : ∀ u ∈ ups (linesL F I), Blw u ⟨q * t, p * t, y⟩) :
    Pt F I ⟨q * t, p * t, y⟩ := by
  obtain ⟨f1, f2⟩ := (rnR_has h I hq).1 k1
  obtain ⟨g1, g2⟩ := lines_point.1 ⟨ha, hb⟩
  have sc : ∀ {x z : Int}, x ≤ z → x * t ≤ z * t := fun c => Int.mul_le_mul_of_nonneg_right c (Int.le_of_lt ht)
  refine ⟨⟨Int.mul_pos hq ht, ?_, g1⟩, fun i hi => ?_⟩
  · have c1 := sc f1.1
    have c2 := sc f1.2
    have e1 : 1000 * q * t = 1000 * (q * t) := by ac_rfl
    have e2 : p * 4000 * t = p * t * 4000 := by ac_rfl
    simp only
    omega
  · unfold Ci
    by_cases c : i = -2
    · rw [if_pos c]
      obtain ⟨w1, w2⟩ := f2 (c ▸ hi)
      have c1 := sc w1
      have c2 := sc w2
      have e1 : 1000 * q * t = 1000 * (q * t) := by ac_rfl
      have e2 : p * F.whi * t = p * t * F.whi := by ac_rfl
      have e3 : p * F.wlo * t = p * t * F.wlo := by ac_rfl
      simp only [wearC]
      omega
    · rw [if_neg c]
      exact g2 i hi c
theorem Pt.to {F : Fl} (h : OkF F) {I : List Int} {v : V3} (k : Pt F I v) : (rnR F I).has v.p v.q ∧ (∀ l ∈ lows (linesL F I), Abv l v) ∧ ∀ u ∈ ups (linesL F I), Blw u v := by
  obtain ⟨⟨hq, f1, g1⟩, k⟩ := k
  refine ⟨(rnR_has h I hq).2 ⟨f1, fun c => ?_⟩, lines_point.2 ⟨g1, fun i hi c => ?_⟩⟩
  · have := k _ c
    unfold Ci at this
    rwa [if_pos rfl] at this
  · have := k i hi
    unfold Ci at this
    rwa [if_neg c] at this
theorem fit_vals {l u : Ln} {p q : Int} (s : (l.s || u.s) = true) : Fit l u p q ↔ (l.k * p * l.d + l.n * q) * u.d < (u.k * p * u.d + u.n * q) * l.d := by
  unfold Fit
  rw [if_pos s]
  simp only [lnD, lnN, Int.sub_mul, Int.add_mul]
  have e1 : l.k * p * (l.d * u.d) = l.k * p * l.d * u.d := by ac_rfl
  have e2 : u.k * p * (l.d * u.d) = u.k * p * u.d * l.d := by ac_rfl
  have e3 : u.n * l.d * q = u.n * q * l.d := by ac_rfl
  have e4 : l.n * u.d * q = l.n * q * u.d := by ac_rfl
  omega
theorem bot_line {p q : Int} : ∀ (B : List Ln), B ≠ [] → (∀ l ∈ B, 0 < l.d ∧ l.s = false) → ∃ t ∈ B, ∀ u ∈ B, Fit t u p q
  | [], h, _ => absurd rfl h
  | [l], _, h => ⟨l, by simp, fun x hx => by
      obtain rfl : x = l := by simpa using hx
      exact fit_self (h x (by simp)).2⟩
  | l :: m :: A, _, h => by
    obtain ⟨t, ht, k⟩ := bot_line (m :: A) (by simp) (fun x hx => h x (by simp [hx]))
    have hl := h l (by simp)
    have ht' := h t (by simp only [List.mem_cons] at ht ⊢; exact .inr ht)
    rcases Int.le_total ((t.k * p * t.d + t.n * q) * l.d) ((l.k * p * l.d + l.n * q) * t.d) with c | c
    · refine ⟨t, by simp only [List.mem_cons] at ht ⊢; exact .inr ht, fun x hx => ?_⟩
      rcases List.mem_cons.1 hx with rfl | hx
      · exact (fit_val ht'.2 hl.2).2 c
      · exact k x hx
    · refine ⟨l, by simp, fun x hx => ?_⟩
      rcases List.mem_cons.1 hx with rfl | hx
      · exact fit_self hl.2
      · have hx' := h x (by simp only [List.mem_cons] at hx ⊢; exact .inr hx)
        exact fit_trans hl.1 ht'.1 hx'.1 hl.2 ht'.2 hx'.2 ((fit_val hl.2 ht'.2).2 c) (k x hx)
theorem lowsP {F : Fl} (h : OkF F) {I : List Int} (hI : ∀ i ∈ I, i < F.s.length) : ∀ l ∈ lows (linesL F I), 0 < l.d ∧ l.s = false := fun _ hl => ⟨lines_pos h hI _ (mem_lows.1 hl), lines_soft _ (mem_lows.1 hl)⟩
theorem upsP {F : Fl} (h : OkF F) {I : List Int} (hI : ∀ i ∈ I, i < F.s.length) : ∀ l ∈ ups (linesL F I), 0 < l.d ∧ l.s = false := fun _ hl => ⟨lines_pos h hI _ (mem_ups.1 hl), lines_soft _ (mem_ups.1 hl)⟩
theorem lows0 {F : Fl} {I : List Int} : lows (linesL F I) ≠ [] := fun e => by
  have : (⟨0, 0, 1, false⟩ : Ln) ∈ lows (linesL F I) := mem_lows.2 (List.mem_append.2 (.inl (by simp [frameL])))
  rw [e] at this
  cases this
theorem ups0 {F : Fl} {I : List Int} : ups (linesL F I) ≠ [] := fun e => by
  have : lnT F.v 0 (hgt F.v) false ∈ ups (linesL F I) := mem_ups.2 (List.mem_append.2 (.inl (by simp [frameL])))
  rw [e] at this
  cases this
theorem canM_up {F : Fl} (h : OkF F) {I : List Int} (hI : ∀ i ∈ I, i < F.s.length) {x : Ln} (hx : 0 < x.d) :
    canM F I (x, true) = true ↔ ∃ v, Pt F I v ∧ if x.s then (v.y - x.k * v.p) * x.d < x.n * v.q else (v.y - x.k * v.p) * x.d ≤ x.n * v.q := by
  rw [canM_iff h hI hx]
  have e1 : lows [(x, true)] = [] := rfl
  have e2 : ups [(x, true)] = [x] := rfl
  rw [e1, e2, List.append_nil]
  have A := lowsP h hI
  have B := upsP h hI
  constructor
  · rintro ⟨p, q, hq, hp, k1, k2⟩
    obtain ⟨t, ht, k⟩ := top_line (p := p) (q := q) _ lows0 A
    have td := (A t ht).1
    refine ⟨⟨q * t.d, p * t.d, t.k * p * t.d + t.n * q⟩, pt_of h hq td k1 (fun l hl => ?_) (fun u hu => ?_), ?_⟩
    · have f := (fit_val (A l hl).2 (A t ht).2).1 (k l hl)
      simp only [Abv]
      have e1 : l.k * (p * t.d) * l.d + l.n * (q * t.d) = (l.k * p * l.d + l.n * q) * t.d := by rw [Int.add_mul]; congr 1 <;> ac_rfl
      rw [e1]
      exact f
    · have f := (fit_val (A t ht).2 (B u hu).2).1 (k2 t ht u (List.mem_append.2 (.inl hu)))
      simp only [Blw]
      have e1 : u.k * (p * t.d) * u.d + u.n * (q * t.d) = (u.k * p * u.d + u.n * q) * t.d := by rw [Int.add_mul]; congr 1 <;> ac_rfl
      rw [e1]
      exact f
    · have f := k2 t ht x (List.mem_append.2 (.inr (by simp)))
      have e1 : (t.k * p * t.d + t.n * q - x.k * (p * t.d)) * x.d = (t.k * p * t.d + t.n * q) * x.d - x.k * p * x.d * t.d := by rw [Int.sub_mul]; congr 1; ac_rfl
      have e2 : x.n * (q * t.d) = x.n * q * t.d := by ac_rfl
      have e3 : (x.k * p * x.d + x.n * q) * t.d = x.k * p * x.d * t.d + x.n * q * t.d := by rw [Int.add_mul]
      simp only [e1, e2]
      cases hs : x.s
      · have f := (fit_val (A t ht).2 hs).1 f
        simp only [Bool.false_eq_true, if_false]
        omega
      · have f := (fit_vals (by simp [hs])).1 f
        simp only [if_true]
        omega
  · rintro ⟨v, k, c⟩
    obtain ⟨hq, hp⟩ := k.pos
    obtain ⟨k1, ka, kb⟩ := k.to h
    refine ⟨v.p, v.q, hq, hp, k1, fun l hl u hu => ?_⟩
    rcases List.mem_append.1 hu with hu | hu
    · exact point_fit (A l hl).1 (B u hu).1 (A l hl).2 (B u hu).2 (ka l hl) (kb u hu)
    · obtain rfl : u = x := by simpa using hu
      have a := Int.mul_le_mul_of_nonneg_right (ka l hl) (Int.le_of_lt hx)
      have e1 : (u.k * v.p * u.d + u.n * v.q) * l.d = u.k * v.p * u.d * l.d + u.n * v.q * l.d := by rw [Int.add_mul]
      have e2 : v.y * l.d * u.d = v.y * u.d * l.d := by ac_rfl
      have ld := (A l hl).1
      cases hs : u.s
      · rw [fit_val (A l hl).2 hs]
        simp only [hs, Bool.false_eq_true, if_false, Int.sub_mul] at c
        have b := Int.mul_le_mul_of_nonneg_right (show v.y * u.d ≤ u.k * v.p * u.d + u.n * v.q by omega) (Int.le_of_lt ld)
        rw [Int.add_mul (u.k * v.p * u.d)] at b
        omega
      · rw [fit_vals (by simp [hs])]
        simp only [hs, if_true, Int.sub_mul] at c
        have b := Int.mul_lt_mul_of_pos_right (show v.y * u.d < u.k * v.p * u.d + u.n * v.q by omega) ld
        rw [Int.add_mul (u.k * v.p * u.d)] at b
        omega
theorem canM_dn {F : Fl} (h : OkF F) {I : List Int} (hI : ∀ i ∈ I, i < F.s.length) {x : Ln} (hx : 0 < x.d) :
    canM F I (x, false) = true ↔ ∃ v, Pt F I v ∧ if x.s then x.n * v.q < (v.y - x.k * v.p) * x.d else x.n * v.q ≤ (v.y - x.k * v.p) * x.d := by
  rw [canM_iff h hI hx]
  have e1 : lows [(x, false)] = [x] := rfl
  have e2 : ups [(x, false)] = [] := rfl
  rw [e1, e2, List.append_nil]
  have A := lowsP h hI
  have B := upsP h hI
  constructor
  · rintro ⟨p, q, hq, hp, k1, k2⟩
    obtain ⟨t, ht, k⟩ := bot_line (p := p) (q := q) _ ups0 B
    have td := (B t ht).1
    refine ⟨⟨q * t.d, p * t.d, t.k * p * t.d + t.n * q⟩, pt_of h hq td k1 (fun l hl => ?_) (fun u hu => ?_), ?_⟩
    · have f := (fit_val (A l hl).2 (B t ht).2).1 (k2 l (List.mem_append.2 (.inl hl)) t ht)
      simp only [Abv]
      have e1 : l.k * (p * t.d) * l.d + l.n * (q * t.d) = (l.k * p * l.d + l.n * q) * t.d := by rw [Int.add_mul]; congr 1 <;> ac_rfl
      rw [e1]
      exact f
    · have f := (fit_val (B t ht).2 (B u hu).2).1 (k u hu)
      simp only [Blw]
      have e1 : u.k * (p * t.d) * u.d + u.n * (q * t.d) = (u.k * p * u.d + u.n * q) * t.d := by rw [Int.add_mul]; congr 1 <;> ac_rfl
      rw [e1]
      exact f
    · have f := k2 x (List.mem_append.2 (.inr (by simp))) t ht
      have e1 : (t.k * p * t.d + t.n * q - x.k * (p * t.d)) * x.d = (t.k * p * t.d + t.n * q) * x.d - x.k * p * x.d * t.d := by rw [Int.sub_mul]; congr 1; ac_rfl
      have e2 : x.n * (q * t.d) = x.n * q * t.d := by ac_rfl
      have e3 : (x.k * p * x.d + x.n * q) * t.d = x.k * p * x.d * t.d + x.n * q * t.d := by rw [Int.add_mul]
      simp only [e1, e2]
      cases hs : x.s
      · have f := (fit_val hs (B t ht).2).1 f
        simp only [Bool.false_eq_true, if_false]
        omega
      · have f := (fit_vals (by simp [hs])).1 f
        simp only [if_true]
        omega
  · rintro ⟨v, k, c⟩
    obtain ⟨hq, hp⟩ := k.pos
    obtain ⟨k1, ka, kb⟩ := k.to h
    refine ⟨v.p, v.q, hq, hp, k1, fun l hl u hu => ?_⟩
    rcases List.mem_append.1 hl with hl | hl
    · exact point_fit (A l hl).1 (B u hu).1 (A l hl).2 (B u hu).2 (ka l hl) (kb u hu)
    · obtain rfl : l = x := by simpa using hl
      have a := Int.mul_le_mul_of_nonneg_right (kb u hu) (Int.le_of_lt hx)
      have e1 : (l.k * v.p * l.d + l.n * v.q) * u.d = l.k * v.p * l.d * u.d + l.n * v.q * u.d := by rw [Int.add_mul]
      have e2 : v.y * u.d * l.d = v.y * l.d * u.d := by ac_rfl
      have ud := (B u hu).1
      cases hs : l.s
      · rw [fit_val hs (B u hu).2]
        simp only [hs, Bool.false_eq_true, if_false, Int.sub_mul] at c
        have b := Int.mul_le_mul_of_nonneg_right (show l.k * v.p * l.d + l.n * v.q ≤ v.y * l.d by omega) (Int.le_of_lt ud)
        rw [Int.add_mul (l.k * v.p * l.d)] at b
        omega
      · rw [fit_vals (by simp [hs])]
        simp only [hs, if_true, Int.sub_mul] at c
        have b := Int.mul_lt_mul_of_pos_right (show l.k * v.p * l.d + l.n * v.q < v.y * l.d by omega) ud
        rw [Int.add_mul (l.k * v.p * l.d)] at b
        omega
theorem tm_step {l : List Rg} (hv : okVs l = true) {x : Int} (x0 : 0 ≤ x) (xn : x < vX l l.length) : tmN l x * tmD l (x + 1) < tmN l (x + 1) * tmD l x := by
  have hv' := hv
  simp only [okVs, Bool.and_eq_true, decide_eq_true_eq] at hv
  obtain ⟨⟨n1, n2⟩, h⟩ := hv
  obtain ⟨_, r1, r2, r3⟩ := ringF_in (l := l) (x := x + 1) l.length 0 (show vX l 0 ≤ x + 1 by show (0 : Int) ≤ x + 1; omega) (by rw [Nat.zero_add]; omega) (by omega)
  rw [Nat.zero_add] at r1
  -- the ring that has x + 1, by its own or the one below
  obtain ⟨j, hj, j1, j2⟩ : ∃ j, j < l.length ∧ vX l j ≤ x ∧ x + 1 ≤ vX l (j + 1) := by
    rcases Int.lt_or_le x (vX l (ringF l (x + 1) l.length 0)) with k | k
    · obtain ⟨i, hi⟩ : ∃ i, ringF l (x + 1) l.length 0 = i := ⟨_, rfl⟩
      rw [hi] at r1 r2 r3 k
      cases i with
      | zero => have : vX l 0 = 0 := rfl; omega
      | succ i =>
        have := (vX_lt h (show i < i + 1 by omega) (by omega)).1
        exact ⟨i, by omega, by omega, by omega⟩
    · exact ⟨_, r1, k, r3⟩
  obtain ⟨a1, a2⟩ := tm_at hv' hj j1 (by omega)
  obtain ⟨b1, b2⟩ := tm_at hv' hj (show vX l j ≤ x + 1 by omega) j2
  obtain ⟨b, _, d⟩ := okRg_bd (okFrom_at h j hj)
  have e : tN0 l j (x + 1) = tN0 l j x + (rg l j).d := by
    unfold tN0
    rw [show x + 1 - vX l j = x - vX l j + 1 by omega, Int.add_mul, Int.one_mul, Int.add_assoc]
  have nn := (tN0_nn h hj j1 (by omega)).1
  have nn1 := (tN0_nn h hj (show vX l j ≤ x + 1 by omega) j2).1
  have H : 0 < (rg l j).h := by omega
  have c1 := lowN_cross nn H
  have c2 := lowN_cross nn1 H
  rw [a1, a2] at c1
  rw [b1, b2] at c2
  have D1 : 0 < tmD l x := by rw [← a2]; exact (lowN_bd nn H).2.1
  have D2 : 0 < tmD l (x + 1) := by rw [← b2]; exact (lowN_bd nn1 H).2.1
  -- times the height of the ring
  have key : tmN l x * tmD l (x + 1) * (rg l j).h < tmN l (x + 1) * tmD l x * (rg l j).h := by
    calc tmN l x * tmD l (x + 1) * (rg l j).h = tmN l x * (rg l j).h * tmD l (x + 1) := by ac_rfl
      _ = tN0 l j x * (tmD l x * tmD l (x + 1)) := by rw [c1]; ac_rfl
      _ < tN0 l j (x + 1) * (tmD l x * tmD l (x + 1)) := Int.mul_lt_mul_of_pos_right (by omega) (Int.mul_pos D1 D2)
      _ = tmN l (x + 1) * (rg l j).h * tmD l x := by rw [c2]; ac_rfl
      _ = tmN l (x + 1) * tmD l x * (rg l j).h := by ac_rfl
  exact Int.lt_of_mul_lt_mul_right key (Int.le_of_lt H)
theorem tm_lt {l : List Rg} (hv : okVs l = true) {x : Int} (x0 : 0 ≤ x) : ∀ k : Nat, x + (k + 1) ≤ vX l l.length → tmN l x * tmD l (x + (k + 1)) < tmN l (x + (k + 1)) * tmD l x
  | 0, hk => by
    have := tm_step hv x0 (by omega)
    simpa using this
  | k + 1, hk => by
    have ih := tm_lt hv x0 k (by omega)
    have st := tm_step hv (show 0 ≤ x + (k + 1) by omega) (by omega)
    have e : x + ((k + 1 : Nat) + 1 : Int) = x + (k + 1) + 1 := by omega
    rw [e]
    have D1 := (tm_bd hv (show 0 ≤ x by omega) (by omega)).2.1
    have D2 := (tm_bd hv (show 0 ≤ x + (k + 1) by omega) (by omega)).2.1
    have D3 := (tm_bd hv (show 0 ≤ x + (k + 1) + 1 by omega) (by omega)).2.1
    generalize x + (k + 1 : Int) = y at *
    have s1 := Int.mul_lt_mul_of_pos_right ih D3
    have s2 := Int.mul_lt_mul_of_pos_right st D1
    have key : tmN l x * tmD l (y + 1) * tmD l y < tmN l (y + 1) * tmD l x * tmD l y := by
      have e1 : tmN l x * tmD l y * tmD l (y + 1) = tmN l x * tmD l (y + 1) * tmD l y := by ac_rfl
      have e2 : tmN l y * tmD l x * tmD l (y + 1) = tmN l y * tmD l (y + 1) * tmD l x := by ac_rfl
      have e3 : tmN l (y + 1) * tmD l y * tmD l x = tmN l (y + 1) * tmD l x * tmD l y := by ac_rfl
      omega
    exact Int.lt_of_mul_lt_mul_right key (Int.le_of_lt D2)
theorem tm_le {l : List Rg} (hv : okVs l = true) {x y : Int} (x0 : 0 ≤ x) (xy : x ≤ y) (yn : y ≤ vX l l.length) : tmN l x * tmD l y ≤ tmN l y * tmD l x := by
  rcases Int.lt_or_le x y with k | k
  · have := tm_lt hv x0 (y - x - 1).toNat (by omega)
    rw [show x + (((y - x - 1).toNat : Int) + 1) = y by omega] at this
    omega
  · obtain rfl : x = y := by omega
    omega
theorem tm_lt' {l : List Rg} (hv : okVs l = true) {x y : Int} (x0 : 0 ≤ x) (xy : x < y) (yn : y ≤ vX l l.length) : tmN l x * tmD l y < tmN l y * tmD l x := by
  have := tm_lt hv x0 (y - x - 1).toNat (by omega)
  rw [show x + (((y - x - 1).toNat : Int) + 1) = y by omega] at this
  omega
theorem tm_zero {l : List Rg} (hv : okVs l = true) : tmN l 0 = 0 := by
  have hv' := hv
  simp only [okVs, Bool.and_eq_true, decide_eq_true_eq] at hv
  obtain ⟨b, _, d⟩ := okRg_bd (okFrom_at hv.2 0 (by omega))
  have := (tm_at hv' (j := 0) (x := 0) (by omega) (Int.le_refl _) (by show 0 ≤ 0 + (rg l 0).h; omega)).1
  rw [← this]
  have e : tN0 l 0 0 = 0 := by simp [tN0, vX, vY]
  unfold lowN1
  rw [e, Int.zero_ediv]
theorem tm_top {l : List Rg} (hv : okVs l = true) {x : Int} (x0 : 0 ≤ x) (xn : x ≤ vX l l.length) : tmN l x ≤ 480000 * tmD l x := by
  have hv' := hv
  simp only [okVs, Bool.and_eq_true, decide_eq_true_eq] at hv
  obtain ⟨⟨n1, n2⟩, h⟩ := hv
  obtain ⟨_, r1, r2, r3⟩ := ringF_in (l := l) (x := x) l.length 0 x0 (by rw [Nat.zero_add]; exact xn) (by omega)
  rw [Nat.zero_add] at r1
  obtain ⟨a1, a2⟩ := tm_at hv' r1 r2 r3
  obtain ⟨b, _, _⟩ := okRg_bd (okFrom_at h _ r1)
  obtain ⟨c1, c2⟩ := tN0_nn h r1 r2 r3
  have H : 0 < (rg l (ringF l x l.length 0)).h := by omega
  have cr := lowN_cross c1 H
  rw [a1, a2] at cr
  have y := (vXY_bd h (ringF l x l.length 0 + 1) (by omega)).2.1
  have c3 := Int.mul_le_mul_of_nonneg_right (show vY l (ringF l x l.length 0 + 1) ≤ 480000 by omega) (Int.le_of_lt H)
  have D := (tm_bd hv' x0 xn).2.1
  generalize (rg l (ringF l x l.length 0)).h = G at *
  generalize tN0 l (ringF l x l.length 0) x = T at *
  have c4 := Int.mul_le_mul_of_nonneg_right (show T ≤ 480000 * G by omega) (Int.le_of_lt D)
  have key : tmN l x * G ≤ 480000 * tmD l x * G := by
    rw [cr]
    have : 480000 * tmD l x * G = 480000 * G * tmD l x := by ac_rfl
    omega
  exact (mul_le_r H).1 key
end Go.Proofs.YtnfndiafabhhdaaGreat
/- The later, the lower: what Level, Reached, Surely and Ever say, by points (Wear). Plain. -/
namespace Go.Proofs.YtnfndiafabhhdaaGreat
def unM (F : Fl) (I : List Int) (x m : Int) : Bool := canM F I (lnT F.v m x true, true)
def ovM (F : Fl) (I : List Int) (x m : Int) : Bool := canM F I (lnT F.v m x true, false)
def evM (F : Fl) (I : List Int) (x m : Int) : Bool := canM F I (lnT F.v m x false, true)
theorem hgt_eq (F : Fl) : hgt F.v = vX F.v F.v.length := rfl
theorem okF_hgt {F : Fl} (h : OkF F) : 1 ≤ hgt F.v ∧ hgt F.v ≤ 24000 := by
  have hv := h.v
  simp only [okVs, Bool.and_eq_true, decide_eq_true_eq] at hv
  have := (vXY_bd hv.2 F.v.length (Nat.le_refl _)).1
  unfold hgt
  omega
section
variable {F : Fl} {I : List Int}
theorem un_iff (h : OkF F) (hI : ∀ i ∈ I, i < F.s.length) {x m : Int} (x0 : 0 ≤ x) (xn : x ≤ hgt F.v) : unM F I x m = true ↔ ∃ v, Pt F I v ∧ (v.y - m * v.p) * tmD F.v x < tmN F.v x * v.q := by
  have D := (tm_bd h.v x0 xn).2.1
  have := canM_up h hI (x := lnT F.v m x true) D
  simpa [lnT, unM, ovM, evM] using this
theorem ov_iff (h : OkF F) (hI : ∀ i ∈ I, i < F.s.length) {x m : Int} (x0 : 0 ≤ x) (xn : x ≤ hgt F.v) : ovM F I x m = true ↔ ∃ v, Pt F I v ∧ tmN F.v x * v.q < (v.y - m * v.p) * tmD F.v x := by
  have D := (tm_bd h.v x0 xn).2.1
  have := canM_dn h hI (x := lnT F.v m x true) D
  simpa [lnT, unM, ovM, evM] using this
theorem ev_iff (h : OkF F) (hI : ∀ i ∈ I, i < F.s.length) {x m : Int} (x0 : 0 ≤ x) (xn : x ≤ hgt F.v) : evM F I x m = true ↔ ∃ v, Pt F I v ∧ (v.y - m * v.p) * tmD F.v x ≤ tmN F.v x * v.q := by
  have D := (tm_bd h.v x0 xn).2.1
  have := canM_up h hI (x := lnT F.v m x false) D
  simpa [lnT, unM, ovM, evM] using this
theorem mul_mono {a b c : Int} (h : a ≤ b) (hc : 0 < c) : a * c ≤ b * c := Int.mul_le_mul_of_nonneg_right h (Int.le_of_lt hc)
theorem un_min (h : OkF F) (hI : ∀ i ∈ I, i < F.s.length) {x m m' : Int} (x0 : 0 ≤ x) (xn : x ≤ hgt F.v) (hm : m ≤ m') (k : unM F I x m = true) : unM F I x m' = true := by
  rw [un_iff h hI x0 xn] at k ⊢
  obtain ⟨v, p, c⟩ := k
  have D := (tm_bd h.v x0 xn).2.1
  have a := mul_mono hm p.pos.2
  have b := mul_mono (show v.y - m' * v.p ≤ v.y - m * v.p by omega) D
  exact ⟨v, p, by omega⟩
theorem ov_min (h : OkF F) (hI : ∀ i ∈ I, i < F.s.length) {x m m' : Int} (x0 : 0 ≤ x) (xn : x ≤ hgt F.v) (hm : m ≤ m') (k : ovM F I x m' = true) : ovM F I x m = true := by
  rw [ov_iff h hI x0 xn] at k ⊢
  obtain ⟨v, p, c⟩ := k
  have D := (tm_bd h.v x0 xn).2.1
  have a := mul_mono hm p.pos.2
  have b := mul_mono (show v.y - m' * v.p ≤ v.y - m * v.p by omega) D
  exact ⟨v, p, by omega⟩
theorem lt_cross {y q n d n' d' : Int} (hq : 0 < q) (hd : 0 < d) (hd' : 0 < d') (e : n * d' ≤ n' * d) (k : y * d < n * q) : y * d' < n' * q := by
  have a := Int.mul_lt_mul_of_pos_right k hd'
  have b := mul_mono e hq
  have e1 : y * d * d' = y * d' * d := by ac_rfl
  have e2 : n * q * d' = n * d' * q := by ac_rfl
  have e3 : n' * d * q = n' * q * d := by ac_rfl
  have c : y * d' * d < n' * q * d := by omega
  exact (mul_lt_r hd).1 c
theorem gt_cross {y q n d n' d' : Int} (hq : 0 < q) (hd : 0 < d) (hd' : 0 < d') (e : n' * d ≤ n * d') (k : n * q < y * d) : n' * q < y * d' := by
  have a := Int.mul_lt_mul_of_pos_right k hd'
  have b := mul_mono e hq
  have e1 : y * d * d' = y * d' * d := by ac_rfl
  have e2 : n * q * d' = n * d' * q := by ac_rfl
  have e3 : n' * d * q = n' * q * d := by ac_rfl
  have c : n' * q * d < y * d' * d := by omega
  exact (mul_lt_r hd).1 c
theorem un_lev (h : OkF F) (hI : ∀ i ∈ I, i < F.s.length) {x x' m : Int} (x0 : 0 ≤ x) (xx : x ≤ x') (xn : x' ≤ hgt F.v) (k : unM F I x m = true) : unM F I x' m = true := by
  rw [un_iff h hI x0 (by omega)] at k
  rw [un_iff h hI (by omega) xn]
  obtain ⟨v, p, c⟩ := k
  exact ⟨v, p, lt_cross p.pos.1 (tm_bd h.v x0 (by rw [← hgt_eq]; omega)).2.1 (tm_bd h.v (by omega) xn).2.1 (tm_le h.v x0 xx xn) c⟩
theorem ov_lev (h : OkF F) (hI : ∀ i ∈ I, i < F.s.length) {x x' m : Int} (x0 : 0 ≤ x) (xx : x ≤ x') (xn : x' ≤ hgt F.v) (k : ovM F I x' m = true) : ovM F I x m = true := by
  rw [ov_iff h hI (by omega) xn] at k
  rw [ov_iff h hI x0 (by omega)]
  obtain ⟨v, p, c⟩ := k
  exact ⟨v, p, gt_cross p.pos.1 (tm_bd h.v (by omega) xn).2.1 (tm_bd h.v x0 (by rw [← hgt_eq]; omega)).2.1 (tm_le h.v x0 xx xn) c⟩
theorem un_ov (h : OkF F) (hI : ∀ i ∈ I, i < F.s.length) (hc : canI F I = true) {x x' m : Int} (x0 : 0 ≤ x) (xx : x < x') (xn : x' ≤ hgt F.v) (k : unM F I x' m = false) : ovM F I x m = true := by
  obtain ⟨v, p⟩ := (canI_pt h hI).1 hc
  rw [ov_iff h hI x0 (by omega)]
  have k' : ¬ unM F I x' m = true := by rw [k]; decide
  rw [un_iff h hI (by omega) xn] at k'
  have c : tmN F.v x' * v.q ≤ (v.y - m * v.p) * tmD F.v x' := by
    rcases Int.lt_or_le ((v.y - m * v.p) * tmD F.v x') (tmN F.v x' * v.q) with c | c
    · exact absurd ⟨v, p, c⟩ k'
    · exact c
  refine ⟨v, p, ?_⟩
  have D := (tm_bd h.v x0 (show x ≤ vX F.v F.v.length by rw [← hgt_eq]; omega)).2.1
  have D' := (tm_bd h.v (show 0 ≤ x' by omega) xn).2.1
  have lt := tm_lt' h.v x0 xx xn
  have a := Int.mul_lt_mul_of_pos_right lt p.pos.1
  have b := mul_mono c D
  have e1 : tmN F.v x' * v.q * tmD F.v x = tmN F.v x' * tmD F.v x * v.q := by ac_rfl
  have e2 : tmN F.v x * tmD F.v x' * v.q = tmN F.v x * v.q * tmD F.v x' := by ac_rfl
  have e3 : (v.y - m * v.p) * tmD F.v x' * tmD F.v x = (v.y - m * v.p) * tmD F.v x * tmD F.v x' := by ac_rfl
  have c : tmN F.v x * v.q * tmD F.v x' < (v.y - m * v.p) * tmD F.v x * tmD F.v x' := by omega
  exact (mul_lt_r D').1 c
theorem un_ov_min (h : OkF F) (hI : ∀ i ∈ I, i < F.s.length) (hc : canI F I = true) {x m m' : Int} (x0 : 0 ≤ x) (xn : x ≤ hgt F.v) (mm : m < m') (k : unM F I x m' = false) : ovM F I x m = true := by
  obtain ⟨v, p⟩ := (canI_pt h hI).1 hc
  rw [ov_iff h hI x0 xn]
  have k' : ¬ unM F I x m' = true := by rw [k]; decide
  rw [un_iff h hI x0 xn] at k'
  have c : tmN F.v x * v.q ≤ (v.y - m' * v.p) * tmD F.v x := by
    rcases Int.lt_or_le ((v.y - m' * v.p) * tmD F.v x) (tmN F.v x * v.q) with c | c
    · exact absurd ⟨v, p, c⟩ k'
    · exact c
  refine ⟨v, p, ?_⟩
  have D := (tm_bd h.v x0 xn).2.1
  have a := Int.mul_lt_mul_of_pos_right mm p.pos.2
  have b := Int.mul_lt_mul_of_pos_right (show v.y - m' * v.p < v.y - m * v.p by omega) D
  omega
theorem ov_ev (h : OkF F) (hI : ∀ i ∈ I, i < F.s.length) (hc : canI F I = true) {x m : Int} (x0 : 0 ≤ x) (xn : x ≤ hgt F.v) (k : ovM F I x m = false) : evM F I x m = true := by
  obtain ⟨v, p⟩ := (canI_pt h hI).1 hc
  rw [ev_iff h hI x0 xn]
  have k' : ¬ ovM F I x m = true := by rw [k]; decide
  rw [ov_iff h hI x0 xn] at k'
  refine ⟨v, p, ?_⟩
  rcases Int.lt_or_le (tmN F.v x * v.q) ((v.y - m * v.p) * tmD F.v x) with c | c
  · exact absurd ⟨v, p, c⟩ k'
  · exact c
theorem un_ev (h : OkF F) (hI : ∀ i ∈ I, i < F.s.length) {x m : Int} (x0 : 0 ≤ x) (xn : x ≤ hgt F.v) (k : unM F I x m = true) : evM F I x m = true := by
  rw [un_iff h hI x0 xn] at k
  rw [ev_iff h hI x0 xn]
  obtain ⟨v, p, c⟩ := k
  exact ⟨v, p, by omega⟩
theorem ev_un (h : OkF F) (hI : ∀ i ∈ I, i < F.s.length) {x m m' : Int} (x0 : 0 ≤ x) (xn : x ≤ hgt F.v) (mm : m < m') (k : evM F I x m = true) : unM F I x m' = true := by
  rw [ev_iff h hI x0 xn] at k
  rw [un_iff h hI x0 xn]
  obtain ⟨v, p, c⟩ := k
  have D := (tm_bd h.v x0 xn).2.1
  have a := Int.mul_lt_mul_of_pos_right mm p.pos.2
  have b := Int.mul_lt_mul_of_pos_right (show v.y - m' * v.p < v.y - m * v.p by omega) D
  exact ⟨v, p, by omega⟩
theorem pt_top {v : V3} (p : Pt F I v) : 0 ≤ v.y ∧ v.y * tmD F.v (hgt F.v) ≤ tmN F.v (hgt F.v) * v.q := by
  obtain ⟨_, g⟩ := p.1.2
  have g1 := g (⟨0, 0, 1, false⟩, false) (by simp [frameL])
  have g2 := g (lnT F.v 0 (hgt F.v) false, true) (by simp [frameL])
  simp [Abv] at g1
  simp [Blw, lnT] at g2
  exact ⟨g1, g2⟩
theorem pt_g {v : V3} (p : Pt F I v) : v.q ≤ 4 * v.p ∧ v.p ≤ 1000 * v.q := by
  have := p.1.2.1
  omega
theorem pt_y {v : V3} (p : Pt F I v) (h : OkF F) : 0 ≤ v.y ∧ v.y ≤ 480000 * v.q := by
  obtain ⟨a, b⟩ := pt_top p
  have H := okF_hgt h
  have t := tm_top h.v (x := hgt F.v) (by omega) (Int.le_refl _)
  have D := (tm_bd h.v (x := hgt F.v) (by omega) (Int.le_refl _)).2.1
  have c := mul_mono t p.pos.1
  refine ⟨a, (mul_le_r D).1 ?_⟩
  have e : 480000 * tmD F.v (hgt F.v) * v.q = 480000 * v.q * tmD F.v (hgt F.v) := by ac_rfl
  omega
theorem un_end (h : OkF F) (hI : ∀ i ∈ I, i < F.s.length) (hc : canI F I = true) {x m : Int} (x0 : 0 ≤ x) (xn : x ≤ hgt F.v) (hm : 1920001 ≤ m) : unM F I x m = true := by
  obtain ⟨v, p⟩ := (canI_pt h hI).1 hc
  rw [un_iff h hI x0 xn]
  refine ⟨v, p, ?_⟩
  have D := (tm_bd h.v x0 xn).2.1
  have N := (tm_bd h.v x0 xn).1.1
  have y := pt_y p h
  have g := pt_g p
  have hp := p.pos
  have a := mul_mono hm hp.2
  have b := Int.mul_neg_of_neg_of_pos (show v.y - m * v.p < 0 by omega) D
  have c := Int.mul_nonneg N (Int.le_of_lt hp.1)
  omega
theorem ov_end (h : OkF F) (hI : ∀ i ∈ I, i < F.s.length) {x m : Int} (x0 : 0 ≤ x) (xn : x ≤ hgt F.v) (hm : 1920000 ≤ m) : ovM F I x m = false := by
  cases k : ovM F I x m with
  | false => rfl
  | true =>
    exfalso
    rw [ov_iff h hI x0 xn] at k
    obtain ⟨v, p, c⟩ := k
    have D := (tm_bd h.v x0 xn).2.1
    have N := (tm_bd h.v x0 xn).1.1
    have y := pt_y p h
    have g := pt_g p
    have hp := p.pos
    have a := mul_mono hm hp.2
    have b := Int.mul_nonpos_of_nonpos_of_nonneg (show v.y - m * v.p ≤ 0 by omega) (Int.le_of_lt D)
    have c := Int.mul_nonneg N (Int.le_of_lt hp.1)
    omega
end
theorem lastNot_in2 {P : Int → Bool} {A B : Int} (mono : ∀ m m', A ≤ m → m ≤ m' → m' ≤ B → P m = true → P m' = true) : ∀ (f : Nat) (lo hi : Int), A ≤ lo → lo ≤ hi → hi ≤ B → (hi - lo).toNat < 2 ^ f → (∀ m, lo < m → m ≤ lastNot P f lo hi → P m = false) ∧ (∀ m, lastNot P f lo hi < m → m ≤ hi → P m = true)
  | 0, lo, hi, _, h, _, hf => by
    simp only [lastNot]
    simp at hf
    exact ⟨fun m a b => by omega, fun m a b => by omega⟩
  | f + 1, lo, hi, hA, h, hB, hf => by
    have hp : 2 ^ (f + 1) = 2 * 2 ^ f := by rw [Nat.pow_succ]; omega
    unfold lastNot
    split
    · split
      · rename_i hP
        obtain ⟨a, b⟩ := lastNot_in2 mono f lo ((lo + hi + 1) / 2 - 1) hA (by omega) (by omega) (by omega)
        refine ⟨a, fun m k1 k2 => ?_⟩
        rcases Int.lt_or_le m ((lo + hi + 1) / 2) with k | k
        · exact b m k1 (by omega)
        · exact mono _ _ (by omega) k (by omega) hP
      · rename_i hP
        have hP : P ((lo + hi + 1) / 2) = false := by simpa using hP
        obtain ⟨a, b⟩ := lastNot_in2 mono f ((lo + hi + 1) / 2) hi (by omega) (by omega) hB (by omega)
        refine ⟨fun m k1 k2 => ?_, b⟩
        rcases Int.lt_or_le ((lo + hi + 1) / 2) m with k | k
        · exact a m k k2
        · cases e : P m with
          | false => rfl
          | true => rw [mono _ _ (by omega) k (by omega) e] at hP; cases hP
    · exact ⟨fun m a b => by omega, fun m a b => by omega⟩
theorem firstNot_in2 {P : Int → Bool} {A B : Int} (mono : ∀ m m', A ≤ m → m ≤ m' → m' ≤ B → P m' = true → P m = true) : ∀ (f : Nat) (lo hi : Int), A ≤ lo → lo ≤ hi → hi ≤ B → (hi - lo).toNat < 2 ^ f → (∀ m, lo ≤ m → m < firstNot P f lo hi → P m = true) ∧ (∀ m, firstNot P f lo hi ≤ m → m < hi → P m = false)
  | 0, lo, hi, _, h, _, hf => by
    simp only [firstNot]
    simp at hf
    exact ⟨fun m a b => by omega, fun m a b => by omega⟩
  | f + 1, lo, hi, hA, h, hB, hf => by
    have hp : 2 ^ (f + 1) = 2 * 2 ^ f := by rw [Nat.pow_succ]; omega
    unfold firstNot
    split
    · split
      · rename_i hP
        obtain ⟨a, b⟩ := firstNot_in2 mono f ((lo + hi) / 2 + 1) hi (by omega) (by omega) hB (by omega)
        refine ⟨fun m k1 k2 => ?_, b⟩
        rcases Int.lt_or_le ((lo + hi) / 2) m with k | k
        · exact a m (by omega) k2
        · exact mono _ _ (by omega) k (by omega) hP
      · rename_i hP
        have hP : P ((lo + hi) / 2) = false := by simpa using hP
        obtain ⟨a, b⟩ := firstNot_in2 mono f lo ((lo + hi) / 2) hA (by omega) (by omega) (by omega)
        refine ⟨a, fun m k1 k2 => ?_⟩
        rcases Int.lt_or_le m ((lo + hi) / 2) with k | k
        · exact b m k1 k
        · cases e : P m with
          | false => rfl
          | true => rw [mono _ _ (by omega) k (by omega) e] at hP; cases hP
    · exact ⟨fun m a b => by omega, fun m a b => by omega⟩
def lvLo (F : Fl) (I : List Int) (m : Int) : Int := lastNot (fun n => decide (0 < n) && unM F I n m) 24 0 (hgt F.v)
def lvHi (F : Fl) (I : List Int) (m : Int) : Int := firstNot (fun n => ovM F I n m) 24 0 (hgt F.v)
def rcLo (F : Fl) (I : List Int) (x : Int) : Int := lastNot (fun n => decide (0 < n) && unM F I x n) 24 0 2097152
def rcHi (F : Fl) (I : List Int) (x : Int) : Int := firstNot (fun n => ovM F I x n) 24 0 2097152
section
variable {F : Fl} {I : List Int}
theorem lvLo_spec (h : OkF F) (hI : ∀ i ∈ I, i < F.s.length) (m : Int) : (0 ≤ lvLo F I m ∧ lvLo F I m ≤ hgt F.v) ∧ (∀ n, 0 < n → n ≤ lvLo F I m → unM F I n m = false) ∧ ∀ n, lvLo F I m < n → n ≤ hgt F.v → unM F I n m = true := by
  have H := okF_hgt h
  have i := lastNot_in (fun n => decide (0 < n) && unM F I n m) 24 0 (hgt F.v) (by omega)
  obtain ⟨a, b⟩ := lastNot_in2 (P := fun n => decide (0 < n) && unM F I n m) (A := 0) (B := hgt F.v) (fun n n' n0 nn n1 k => by
    simp only [Bool.and_eq_true, decide_eq_true_eq] at k ⊢
    exact ⟨by omega, un_lev h hI n0 nn n1 k.2⟩) 24 0 (hgt F.v) (Int.le_refl _) (by omega) (Int.le_refl _) (by omega)
  refine ⟨i, fun n n0 k => ?_, fun n n0 k => ?_⟩
  · have := a n n0 k
    simpa [n0] using this
  · have := b n n0 k
    simp only [Bool.and_eq_true, decide_eq_true_eq] at this
    exact this.2
theorem lvHi_spec (h : OkF F) (hI : ∀ i ∈ I, i < F.s.length) (m : Int) : (0 ≤ lvHi F I m ∧ lvHi F I m ≤ hgt F.v) ∧ (∀ n, 0 ≤ n → n < lvHi F I m → ovM F I n m = true) ∧ ∀ n, lvHi F I m ≤ n → n < hgt F.v → ovM F I n m = false := by
  have H := okF_hgt h
  have i := firstNot_in (fun n => ovM F I n m) 24 0 (hgt F.v) (by omega)
  obtain ⟨a, b⟩ := firstNot_in2 (P := fun n => ovM F I n m) (A := 0) (B := hgt F.v) (fun n n' n0 nn n1 k => ov_lev h hI n0 nn n1 k) 24 0 (hgt F.v) (Int.le_refl _) (by omega) (Int.le_refl _) (by omega)
  exact ⟨i, a, b⟩
theorem rcLo_spec (h : OkF F) (hI : ∀ i ∈ I, i < F.s.length) {x : Int} (x0 : 0 ≤ x) (xn : x ≤ hgt F.v) : (0 ≤ rcLo F I x ∧ rcLo F I x ≤ 2097152) ∧ (∀ n, 0 < n → n ≤ rcLo F I x → unM F I x n = false) ∧ ∀ n, rcLo F I x < n → n ≤ 2097152 → unM F I x n = true := by
  have i := lastNot_in (fun n => decide (0 < n) && unM F I x n) 24 0 2097152 (by omega)
  obtain ⟨a, b⟩ := lastNot_in2 (P := fun n => decide (0 < n) && unM F I x n) (A := 0) (B := 2097152) (fun n n' n0 nn n1 k => by
    simp only [Bool.and_eq_true, decide_eq_true_eq] at k ⊢
    exact ⟨by omega, un_min h hI x0 xn nn k.2⟩) 24 0 2097152 (Int.le_refl _) (by omega) (Int.le_refl _) (by omega)
  refine ⟨i, fun n n0 k => ?_, fun n n0 k => ?_⟩
  · have := a n n0 k
    simpa [n0] using this
  · have := b n n0 k
    simp only [Bool.and_eq_true, decide_eq_true_eq] at this
    exact this.2
theorem rcHi_spec (h : OkF F) (hI : ∀ i ∈ I, i < F.s.length) {x : Int} (x0 : 0 ≤ x) (xn : x ≤ hgt F.v) : (0 ≤ rcHi F I x ∧ rcHi F I x ≤ 1920000) ∧ (∀ n, 0 ≤ n → n < rcHi F I x → ovM F I x n = true) ∧ ∀ n, rcHi F I x ≤ n → ovM F I x n = false := by
  have i := firstNot_in (fun n => ovM F I x n) 24 0 2097152 (by omega)
  obtain ⟨a, b⟩ := firstNot_in2 (P := fun n => ovM F I x n) (A := 0) (B := 2097152) (fun n n' n0 nn n1 k => ov_min h hI x0 xn nn k) 24 0 2097152 (Int.le_refl _) (by omega) (Int.le_refl _) (by omega)
  have c : firstNot (fun n => ovM F I x n) 24 0 2097152 ≤ 1920000 := by
    rcases Int.lt_or_le 1920000 (firstNot (fun n => ovM F I x n) 24 0 2097152) with k | k
    · have := a 1920000 (by omega) k
      rw [ov_end h hI x0 xn (Int.le_refl _)] at this
      cases this
    · exact k
  refine ⟨⟨i.1, c⟩, a, fun n k => ?_⟩
  rcases Int.lt_or_le n 2097152 with j | j
  · exact b n k j
  · exact ov_end h hI x0 xn (by omega)
theorem rcLo_bd (h : OkF F) (hI : ∀ i ∈ I, i < F.s.length) (hc : canI F I = true) {x : Int} (x0 : 0 ≤ x) (xn : x ≤ hgt F.v) : rcLo F I x ≤ 1920000 := by
  obtain ⟨i, a, b⟩ := rcLo_spec h hI x0 xn
  rcases Int.lt_or_le 1920000 (rcLo F I x) with k | k
  · have := a 1920001 (by omega) (by omega)
    rw [un_end h hI hc x0 xn (Int.le_refl _)] at this
    cases this
  · exact k
theorem rcLo_all (h : OkF F) (hI : ∀ i ∈ I, i < F.s.length) (hc : canI F I = true) {x : Int} (x0 : 0 ≤ x) (xn : x ≤ hgt F.v) {n : Int} (k : rcLo F I x < n) : unM F I x n = true := by
  obtain ⟨i, a, b⟩ := rcLo_spec h hI x0 xn
  rcases Int.lt_or_le 2097152 n with j | j
  · exact un_end h hI hc x0 xn (by omega)
  · exact b n k j
theorem lv_min (h : OkF F) (hI : ∀ i ∈ I, i < F.s.length) {m m' : Int} (mm : m ≤ m') : lvLo F I m' ≤ lvLo F I m ∧ lvHi F I m' ≤ lvHi F I m := by
  obtain ⟨⟨a0, a1⟩, a, b⟩ := lvLo_spec h hI m
  obtain ⟨⟨c0, c1⟩, c, d⟩ := lvLo_spec h hI m'
  obtain ⟨⟨e0, e1⟩, e, f⟩ := lvHi_spec h hI m
  obtain ⟨⟨g0, g1⟩, g, j⟩ := lvHi_spec h hI m'
  constructor
  · rcases Int.lt_or_le (lvLo F I m) (lvLo F I m') with k | k
    · have k1 := b _ k c1
      have k2 := c _ (by omega) (Int.le_refl _)
      rw [un_min h hI c0 c1 mm k1] at k2
      cases k2
    · exact k
  · rcases Int.lt_or_le (lvHi F I m) (lvHi F I m') with k | k
    · have k1 := f _ (Int.le_refl _) (by omega)
      have k2 := g _ e0 k
      rw [ov_min h hI e0 e1 mm k2] at k1
      cases k1
    · exact k
theorem lv_le (h : OkF F) (hI : ∀ i ∈ I, i < F.s.length) (hc : canI F I = true) (m : Int) : lvLo F I m ≤ lvHi F I m := by
  obtain ⟨⟨a0, a1⟩, a, b⟩ := lvLo_spec h hI m
  obtain ⟨⟨e0, e1⟩, e, f⟩ := lvHi_spec h hI m
  rcases Int.lt_or_le (lvHi F I m) (lvLo F I m) with k | k
  · have k1 := a _ (by omega) (Int.le_refl _)
    have k2 := f _ (Int.le_refl _) (by omega)
    rw [un_ov h hI hc e0 k a1 k1] at k2
    cases k2
  · exact k
theorem rc_le (h : OkF F) (hI : ∀ i ∈ I, i < F.s.length) (hc : canI F I = true) {x : Int} (x0 : 0 ≤ x) (xn : x ≤ hgt F.v) : rcLo F I x ≤ rcHi F I x := by
  obtain ⟨⟨a0, a1⟩, a, b⟩ := rcLo_spec h hI x0 xn
  obtain ⟨⟨e0, e1⟩, e, f⟩ := rcHi_spec h hI x0 xn
  rcases Int.lt_or_le (rcHi F I x) (rcLo F I x) with k | k
  · have k1 := a _ (by omega) (Int.le_refl _)
    have k2 := f _ (Int.le_refl _)
    rw [un_ov_min h hI hc x0 xn k k1] at k2
    cases k2
  · exact k
theorem rc_lev (h : OkF F) (hI : ∀ i ∈ I, i < F.s.length) {x x' : Int} (x0 : 0 ≤ x) (xx : x ≤ x') (xn : x' ≤ hgt F.v) : rcLo F I x' ≤ rcLo F I x ∧ rcHi F I x' ≤ rcHi F I x := by
  obtain ⟨⟨a0, a1⟩, a, b⟩ := rcLo_spec h hI x0 (show x ≤ hgt F.v by omega)
  obtain ⟨⟨c0, c1⟩, c, d⟩ := rcLo_spec h hI (show 0 ≤ x' by omega) xn
  obtain ⟨⟨e0, e1⟩, e, f⟩ := rcHi_spec h hI x0 (show x ≤ hgt F.v by omega)
  obtain ⟨⟨g0, g1⟩, g, j⟩ := rcHi_spec h hI (show 0 ≤ x' by omega) xn
  constructor
  · rcases Int.lt_or_le (rcLo F I x) (rcLo F I x') with k | k
    · have k1 := b _ k c1
      have k2 := c _ (by omega) (Int.le_refl _)
      rw [un_lev h hI x0 xx xn k1] at k2
      cases k2
    · exact k
  · rcases Int.lt_or_le (rcHi F I x) (rcHi F I x') with k | k
    · have k1 := f _ (Int.le_refl _)
      have k2 := g _ e0 k
      rw [ov_lev h hI x0 xx xn k2] at k1
      cases k1
    · exact k
theorem sure_iff (h : OkF F) (hI : ∀ i ∈ I, i < F.s.length) {x : Int} (x0 : 0 ≤ x) (xn : x ≤ hgt F.v) {m : Int} (m0 : 0 ≤ m) : ovM F I x m = false ↔ rcHi F I x ≤ m := by
  obtain ⟨⟨e0, e1⟩, e, f⟩ := rcHi_spec h hI x0 xn
  constructor
  · intro k
    rcases Int.lt_or_le m (rcHi F I x) with j | j
    · rw [e m m0 j] at k; cases k
    · exact j
  · exact f m
theorem ever_ge (h : OkF F) (hI : ∀ i ∈ I, i < F.s.length) {x : Int} (x0 : 0 ≤ x) (xn : x ≤ hgt F.v) {m : Int} (m0 : 0 ≤ m) (k : evM F I x m = true) : rcLo F I x ≤ m := by
  obtain ⟨⟨a0, a1⟩, a, b⟩ := rcLo_spec h hI x0 xn
  rcases Int.lt_or_le m (rcLo F I x) with j | j
  · have := a (m + 1) (by omega) (by omega)
    rw [ev_un h hI x0 xn (by omega) k] at this
    cases this
  · exact j
theorem ever_of (h : OkF F) (hI : ∀ i ∈ I, i < F.s.length) (hc : canI F I = true) {x : Int} (x0 : 0 ≤ x) (xn : x ≤ hgt F.v) {m : Int} (k : rcLo F I x < m) : evM F I x m = true :=
  un_ev h hI x0 xn (rcLo_all h hI hc x0 xn k)
end
end Go.Proofs.YtnfndiafabhhdaaGreat
/- Levels apart: what Sinks says adds up to within a minute; by many times as many minutes (Wear). Plain. -/
namespace Go.Proofs.YtnfndiafabhhdaaGreat
def skN (F : Fl) (x y : Int) : Int := tmN F.v x * tmD F.v y - tmN F.v y * tmD F.v x
def skD (F : Fl) (x y : Int) : Int := tmD F.v x * tmD F.v y
def skLo (F : Fl) (b : Bd) (x y : Int) : Int := skN F x y * b.d / (skD F x y * b.n)
def skHi (F : Fl) (b : Bd) (x y : Int) : Int := skN F x y * b.d / (skD F x y * b.n) + (if skN F x y * b.d % (skD F x y * b.n) = 0 then 0 else 1)
theorem fl_iff {A D q : Int} (hD : 0 < D) : A / D = q ↔ q * D ≤ A ∧ A < (q + 1) * D := by
  constructor
  · rintro rfl
    exact ⟨Int.ediv_mul_le _ (by omega), Int.lt_ediv_add_one_mul_self _ hD⟩
  · rintro ⟨a, b⟩
    have := (Int.le_ediv_iff_mul_le hD).2 a
    have := Int.ediv_lt_of_lt_mul hD b
    omega
theorem ce_iff {A D c : Int} (hD : 0 < D) : A / D + (if A % D = 0 then 0 else 1) = c ↔ (c - 1) * D < A ∧ A ≤ c * D := by
  have h1 := Int.mul_ediv_add_emod A D
  have h2 := Int.emod_nonneg A (show D ≠ 0 by omega)
  have h3 := Int.emod_lt_of_pos A hD
  generalize A / D = q at *
  generalize A % D = r at *
  constructor
  · rintro rfl
    split
    · grind
    · grind
  · rintro ⟨a, b⟩
    split
    · rename_i h
      subst h
      -- q D = A
      have a' : (c - 1) * D < q * D := by grind
      have b' : q * D ≤ c * D := by grind
      have := (mul_lt_r hD).1 a'
      have := (mul_le_r hD).1 b'
      omega
    · have a' : (c - 1) * D < (q + 1) * D := by grind
      have b' : q * D < c * D := by grind
      have := (mul_lt_r hD).1 a'
      have := (mul_lt_r hD).1 b'
      omega
section
variable {A D q k : Int}
theorem fl_mul (hD : 0 < D) (hk : 0 < k) (h : A / D = q) : A * k / (D * k) = q := by
  rw [fl_iff hD] at h
  rw [fl_iff (Int.mul_pos hD hk)]
  have a := mul_mono h.1 hk
  have b := Int.mul_lt_mul_of_pos_right h.2 hk
  constructor
  · rw [← Int.mul_assoc]; exact a
  · rw [← Int.mul_assoc]; exact b
theorem ce_mul (hD : 0 < D) (hk : 0 < k) (h : A / D + (if A % D = 0 then 0 else 1) = q) : A * k / (D * k) + (if A * k % (D * k) = 0 then 0 else 1) = q := by
  rw [ce_iff hD] at h
  rw [ce_iff (Int.mul_pos hD hk)]
  have a := mul_mono h.2 hk
  have b := Int.mul_lt_mul_of_pos_right h.1 hk
  constructor
  · rw [← Int.mul_assoc]; exact b
  · rw [← Int.mul_assoc]; exact a
end
theorem fl_add {A B C D p q r : Int} (hD : 0 < D) (e : C = A + B) (h1 : A / D = p) (h2 : B / D = q) (h3 : C / D = r) : 0 ≤ r - p - q ∧ r - p - q ≤ 1 := by
  rw [fl_iff hD] at h1 h2 h3
  have a : (p + q) * D < (r + 1) * D := by grind
  have b : r * D < (p + q + 2) * D := by grind
  have := (mul_lt_r hD).1 a
  have := (mul_lt_r hD).1 b
  omega
theorem ce_add {A B C D p q r : Int} (hD : 0 < D) (e : C = A + B) (h1 : A / D + (if A % D = 0 then 0 else 1) = p) (h2 : B / D + (if B % D = 0 then 0 else 1) = q) (h3 : C / D + (if C % D = 0 then 0 else 1) = r) : 0 ≤ p + q - r ∧ p + q - r ≤ 1 := by
  rw [ce_iff hD] at h1 h2 h3
  have a : (p + q - 2) * D < r * D := by grind
  have b : (r - 1) * D < (p + q) * D := by grind
  have := (mul_lt_r hD).1 a
  have := (mul_lt_r hD).1 b
  omega
theorem sk_add {F : Fl} (h : OkF F) {b : Bd} (bn : 0 < b.n) {x y z : Int} (x0 : 0 ≤ x ∧ x ≤ hgt F.v) (y0 : 0 ≤ y ∧ y ≤ hgt F.v) (z0 : 0 ≤ z ∧ z ≤ hgt F.v) :
    (0 ≤ skLo F b x z - skLo F b x y - skLo F b y z ∧ skLo F b x z - skLo F b x y - skLo F b y z ≤ 1) ∧ (0 ≤ skHi F b x y + skHi F b y z - skHi F b x z ∧ skHi F b x y + skHi F b y z - skHi F b x z ≤ 1) := by
  have D1 := (tm_bd h.v x0.1 x0.2).2.1
  have D2 := (tm_bd h.v y0.1 y0.2).2.1
  have D3 := (tm_bd h.v z0.1 z0.2).2.1
  unfold skLo skHi skN skD
  generalize tmN F.v x = a at *
  generalize tmN F.v y = c at *
  generalize tmN F.v z = e at *
  generalize tmD F.v x = d at *
  generalize tmD F.v y = f at *
  generalize tmD F.v z = g at *
  have p1 := Int.mul_pos (Int.mul_pos D1 D2) bn
  have p2 := Int.mul_pos (Int.mul_pos D2 D3) bn
  have p3 := Int.mul_pos (Int.mul_pos D1 D3) bn
  -- over d f g b.n
  have E := Int.mul_pos p1 D3
  have e2 : f * g * b.n * d = d * f * b.n * g := by ac_rfl
  have e3 : d * g * b.n * f = d * f * b.n * g := by ac_rfl
  have s : (a * g - e * d) * b.d * f = (a * f - c * d) * b.d * g + (c * g - e * f) * b.d * d := by grind
  constructor
  · refine fl_add E s ?_ ?_ ?_
    · exact fl_mul p1 D3 rfl
    · rw [← e2]; exact fl_mul p2 D1 rfl
    · rw [← e3]; exact fl_mul p3 D2 rfl
  · refine ce_add E s ?_ ?_ ?_
    · exact ce_mul p1 D3 rfl
    · rw [← e2]; exact ce_mul p2 D1 rfl
    · rw [← e3]; exact ce_mul p3 D2 rfl
theorem sk_same (F : Fl) (b : Bd) (x : Int) : skLo F b x x = 0 ∧ skHi F b x x = 0 := by
  unfold skLo skHi skN
  rw [Int.sub_self, Int.zero_mul, Int.zero_ediv, Int.zero_emod]
  exact ⟨rfl, rfl⟩
theorem fl_by {A D q r k : Int} (hD : 0 < D) (hk : 0 < k) (h : A / D = q) (h' : A * k / D = r) : q * k ≤ r ∧ r ≤ q * k + k - 1 := by
  rw [fl_iff hD] at h h'
  have a := mul_mono h.1 hk
  have b := Int.mul_lt_mul_of_pos_right h.2 hk
  have c : q * k * D < (r + 1) * D := by grind
  have d : r * D < (q * k + k) * D := by grind
  have := (mul_lt_r hD).1 c
  have := (mul_lt_r hD).1 d
  omega
theorem ce_by {A D q r k : Int} (hD : 0 < D) (hk : 0 < k) (h : A / D + (if A % D = 0 then 0 else 1) = q) (h' : A * k / D + (if A * k % D = 0 then 0 else 1) = r) : r ≤ q * k ∧ q * k - k + 1 ≤ r := by
  rw [ce_iff hD] at h h'
  have a := mul_mono h.2 hk
  have b := Int.mul_lt_mul_of_pos_right h.1 hk
  have c : (r - 1) * D < q * k * D := by grind
  have d : (q * k - k) * D < r * D := by grind
  have := (mul_lt_r hD).1 c
  have := (mul_lt_r hD).1 d
  omega
end Go.Proofs.YtnfndiafabhhdaaGreat
/- What a solved region holds, by points (Wear). -/
namespace Go.Proofs.YtnfndiafabhhdaaGreat
variable {F : Fl} {I : List Int}
theorem sn_okk (h : OkF F) {i : Int} (_hi : i < F.s.length) : okLk (hgt F.v) (sn F i).k = true := by
  have hk : i.toNat < F.s.length ∨ F.s.length ≤ i.toNat := Nat.lt_or_ge _ _
  rcases hk with hk | hk
  · have := h.s _ (List.getElem_mem hk)
    simp only [okSn, Bool.and_eq_true] at this
    unfold sn
    rw [List.getElem?_eq_getElem hk]
    exact this.2
  · unfold sn
    have := okF_hgt h
    rw [List.getElem?_eq_none hk]
    simp [okLk]
    omega
theorem has_pt (h : OkF F) (hI : ∀ i ∈ I, i < F.s.length) {p q : Int} (hq : 0 < q) : (solvedW F I).has p q ↔ ∃ t y, 0 < t ∧ Pt F I ⟨q * t, p * t, y⟩ := by
  rw [solved_has h hI hq, pairs_point lows0 (lowsP h hI) (upsP h hI), ← rnR_has h I hq]
  constructor
  · rintro ⟨k1, t, y, ht, a, b⟩
    exact ⟨t, y, ht, pt_of h hq ht k1 a b⟩
  · rintro ⟨t, y, ht, p1⟩
    obtain ⟨a, b, c⟩ := p1.to h
    refine ⟨?_, t, y, ht, b, c⟩
    rw [rnR_has h I (Int.mul_pos hq ht)] at a
    rw [rnR_has h I hq]
    have g3 : ∀ {a b : Int}, a * t ≤ b * t → a ≤ b := fun {a b} => (mul_le_r ht).1
    refine ⟨⟨g3 ?_, g3 ?_⟩, fun c => ?_⟩
    · have := a.1.1; grind
    · have := a.1.2; grind
    · have := a.2 c
      unfold wearC at this ⊢
      exact ⟨g3 (by have := this.1; grind), g3 (by have := this.2; grind)⟩
theorem can_sub {F : Fl} (h : OkF F) {I J : List Int} (hI : ∀ i ∈ I, i < F.s.length) (hJ : ∀ i ∈ J, i ∈ I) (k : canI F I = true) : canI F J = true := by
  rw [canI_pt h hI] at k
  rw [canI_pt h fun i hi => hI i (hJ i hi)]
  obtain ⟨v, p1, p2⟩ := k
  exact ⟨v, p1, fun i hi => p2 i (hJ i hi)⟩
def seenF (F : Fl) (s : List Sn) : Fl := ⟨F.v, F.f, F.wlo, F.whi, s⟩
def allI (F : Fl) : List Int := (List.range (F.s.length + 2)).map fun (j : Nat) => (j : Int) - 2
theorem allI_mem {F : Fl} {i : Int} : i ∈ allI F ↔ -2 ≤ i ∧ i < F.s.length := by
  unfold allI
  rw [List.mem_map]
  constructor
  · rintro ⟨j, hj, rfl⟩
    have := List.mem_range.1 hj
    omega
  · rintro ⟨a, b⟩
    exact ⟨(i + 2).toNat, List.mem_range.2 (by omega), by omega⟩
end Go.Proofs.YtnfndiafabhhdaaGreat
/- Both ends of the wear are attained; a case that is one lies between them; how great they are (Wear). Plain. -/
namespace Go.Proofs.YtnfndiafabhhdaaGreat
structure LnM (l : Ln) : Prop where
  d0 : 0 < l.d
  d1 : l.d ≤ 1000
  k0 : 0 ≤ l.k
  k1 : l.k ≤ 1048576
theorem pairW_den {r : Rn} {l u : Ln} (h : r.lo.d ≤ 1048576000000 ∧ r.hi.d ≤ 1048576000000) (hl : LnM l) (hu : LnM u) : (pairW r l u).lo.d ≤ 1048576000000 ∧ (pairW r l u).hi.d ≤ 1048576000000 := by
  have D : 0 ≤ lnD l u ∧ lnD l u ≤ 1000000 := by
    have := mul_bd (Int.le_of_lt hl.d0) hl.d1 (Int.le_of_lt hu.d0) hu.d1
    unfold lnD; omega
  have a := hl.k0; have b := hl.k1; have c := hu.k0; have d := hu.k1
  unfold pairW
  split
  · exact h
  · split
    · exact h
    · split
      · rename_i k
        have := mul_bd D.1 D.2 (show 0 ≤ l.k - u.k by omega) (show l.k - u.k ≤ 1048576 by omega)
        refine ⟨h.1, ?_⟩
        simp only [mnW]
        split
        · simp only; omega
        · exact h.2
      · split
        · rename_i k k2
          have := mul_bd D.1 D.2 (show 0 ≤ -(l.k - u.k) by omega) (show -(l.k - u.k) ≤ 1048576 by omega)
          refine ⟨?_, h.2⟩
          simp only [mxW]
          split
          · simp only; omega
          · exact h.1
        · exact h
theorem allW_den {B : List Ln} (hB : ∀ u ∈ B, LnM u) : ∀ (A : List Ln) (r : Rn), (∀ l ∈ A, LnM l) → r.lo.d ≤ 1048576000000 ∧ r.hi.d ≤ 1048576000000 → (allP pairW r A B).lo.d ≤ 1048576000000 ∧ (allP pairW r A B).hi.d ≤ 1048576000000
  | [], _, _, h => h
  | l :: A, r, hA, h => by
    have inner : ∀ (C : List Ln) (r : Rn), (∀ u ∈ C, LnM u) → r.lo.d ≤ 1048576000000 ∧ r.hi.d ≤ 1048576000000 → (C.foldl (fun r u => pairW r l u) r).lo.d ≤ 1048576000000 ∧ (C.foldl (fun r u => pairW r l u) r).hi.d ≤ 1048576000000 := by
      intro C
      induction C with
      | nil => intro r _ h; exact h
      | cons u C ih => intro r hC h; exact ih _ (fun x hx => hC x (by simp [hx])) (pairW_den h (hA l (by simp)) (hC u (by simp)))
    exact allW_den hB A _ (fun x hx => hA x (by simp [hx])) (inner B r hB h)
theorem rnW_den {F : Fl} (h : OkF F) : ∀ (I : List Int) (r : Rn), r.lo.d ≤ 1048576000000 ∧ r.hi.d ≤ 1048576000000 → (I.foldl (fun r i => if i = -2 then { r with lo := mxW r.lo ⟨1000, F.whi, false⟩, hi := mnW r.hi ⟨1000, F.wlo, false⟩ } else r) r).lo.d ≤ 1048576000000 ∧ (I.foldl (fun r i => if i = -2 then { r with lo := mxW r.lo ⟨1000, F.whi, false⟩, hi := mnW r.hi ⟨1000, F.wlo, false⟩ } else r) r).hi.d ≤ 1048576000000
  | [], _, k => k
  | i :: I, r, k => by
    have h1 := h.w1
    have h2 := h.w2
    have h3 := h.w3
    rw [List.foldl_cons]
    split
    · refine rnW_den h I _ ⟨?_, ?_⟩
      · simp only [mxW]
        split
        · simp only; omega
        · exact k.1
      · simp only [mnW]
        split
        · simp only; omega
        · exact k.2
    · exact rnW_den h I _ k
theorem lines_M {F : Fl} (h : OkF F) {I : List Int} (hI : ∀ i ∈ I, i < F.s.length) : ∀ x ∈ linesL F I, LnM x.1 := by
  have H := okF_hgt h
  have T : ∀ k x s, 0 ≤ x → x ≤ hgt F.v → 0 ≤ k → k ≤ 1048576 → LnM (lnT F.v k x s) := fun k x s a b c d => ⟨(tm_bd h.v a b).2.1, (tm_bd h.v a b).2.2, c, d⟩
  intro x hx
  unfold linesL at hx
  rcases List.mem_append.1 hx with hx | hx
  · simp only [frameL, List.mem_cons, List.not_mem_nil, or_false] at hx
    rcases hx with rfl | rfl
    · exact ⟨by decide, by decide, by decide, by decide⟩
    · exact T _ _ _ (by omega) (Int.le_refl _) (by decide) (by decide)
  · obtain ⟨i, hi, hx⟩ := List.mem_flatMap.1 hx
    by_cases h2 : i = -2
    · rw [if_pos h2] at hx; cases hx
    · rw [if_neg h2] at hx
      unfold itemL at hx
      split at hx
      · have e := end_in h.f
        simp only [List.mem_cons, List.not_mem_nil, or_false] at hx
        rcases hx with rfl | rfl
        · exact T _ _ _ e.1.1 (by omega) (by decide) (by decide)
        · exact T _ _ _ (by omega) e.2.2 (by decide) (by decide)
      · have e := end_in (sn_okk h (hI i hi))
        have hs : 0 ≤ (sn F i).lo ∧ (sn F i).lo ≤ (sn F i).hi ∧ (sn F i).hi ≤ 1048576 := by
          have hk : i.toNat < F.s.length ∨ F.s.length ≤ i.toNat := Nat.lt_or_ge _ _
          rcases hk with hk | hk
          · have := h.s _ (List.getElem_mem hk)
            simp only [okSn, Bool.and_eq_true, decide_eq_true_eq] at this
            unfold sn
            rw [List.getElem?_eq_getElem hk]
            exact ⟨this.1.1.1, this.1.1.2, this.1.2⟩
          · unfold sn
            rw [List.getElem?_eq_none hk]
            simp
        simp only [List.mem_cons] at hx
        rcases hx with rfl | hx
        · exact T _ _ _ (by omega) e.2.2 (by omega) hs.2.2
        · split at hx
          · simp only [List.mem_cons, List.not_mem_nil, or_false] at hx
            subst hx
            exact T _ _ _ e.1.1 (by omega) hs.1 (by omega)
          · cases hx
theorem solved_den {F : Fl} (h : OkF F) {I : List Int} (hI : ∀ i ∈ I, i < F.s.length) : (solvedW F I).lo.d ≤ 1048576000000 ∧ (solvedW F I).hi.d ≤ 1048576000000 := by
  have L := lines_M h hI
  exact allW_den (fun u hu => L _ (mem_ups.1 hu)) _ _ (fun l hl => L _ (mem_lows.1 hl)) (rnW_den h I _ ⟨by decide, by decide⟩)
section
variable {F : Fl} {I : List Int}
theorem ends_has (_h : OkF F) (_hI : ∀ i ∈ I, i < F.s.length) (hc : canI F I = true) : (solvedW F I).has (solvedW F I).lo.n (solvedW F I).lo.d ∧ (solvedW F I).has (solvedW F I).hi.n (solvedW F I).hi.d ∧ (solvedW F I).lo.n * (solvedW F I).hi.d ≤ (solvedW F I).hi.n * (solvedW F I).lo.d := by
  obtain ⟨s1, s2⟩ := solved_soft (F := F) I
  obtain ⟨e, k⟩ := some_parts hc
  have c : (solvedW F I).lo.n * (solvedW F I).hi.d ≤ (solvedW F I).hi.n * (solvedW F I).lo.d := by
    rcases k with k | k
    · omega
    · omega
  unfold Rn.has Bd.ge Bd.le
  rw [s1, s2, e]
  simp only [Bool.false_eq_true, if_false, true_and]
  exact ⟨⟨Int.le_refl _, c⟩, ⟨c, Int.le_refl _⟩, c⟩
theorem end_case (h : OkF F) (hI : ∀ i ∈ I, i < F.s.length) (h1 : -1 ∈ I) (h2 : -2 ∈ I) {n d : Int} (hd : 0 < d) (hn : 0 < n) (k : (solvedW F I).has n d) :
    ∃ b ∈ I, b ≠ -2 ∧ CaseOk F I (lowN1 (1000 * d) n) (lowN2 (1000 * d) n) b := by
  obtain ⟨⟨k1, k2⟩, k3⟩ := (solved_has h hI hd).1 k
  obtain ⟨w1, w2⟩ := k2 h2
  obtain ⟨b, hb, b2, f1, f2⟩ := some_known h hI h1 hd k3
  have c := lowN_cross (n := 1000 * d) (d := n) (by omega) hn
  obtain ⟨⟨n0, n1⟩, d0, d1⟩ := lowN_bd (n := 1000 * d) (d := n) (by omega) hn
  generalize lowN1 (1000 * d) n = N at *
  generalize lowN2 (1000 * d) n = D at *
  have N0 : 0 < N := by
    rcases Int.lt_or_le 0 N with j | j
    · exact j
    · have := Int.mul_nonpos_of_nonpos_of_nonneg j (Int.le_of_lt hn)
      have := Int.mul_pos (show 0 < 1000 * d by omega) d0
      omega
  have e : n * N = 1000 * D * d := by rw [Int.mul_comm n, c]; ac_rfl
  refine ⟨b, hb, b2, ⟨?_, ?_⟩, fun l hl => (fit_scale hd N0 e).1 (f1 l hl), fun u hu => (fit_scale hd N0 e).1 (f2 u hu)⟩
  · refine (mul_le_r hn).1 ?_
    have := mul_mono w2 d0
    grind
  · refine (mul_le_r hn).1 ?_
    have := mul_mono w1 d0
    grind
theorem case_has (h : OkF F) (hI : ∀ i ∈ I, i < F.s.length) {N D b : Int} (hN : 0 < N) (hD : 0 < D) (k : CaseOk F I N D b) : (solvedW F I).has (1000 * D) N := by
  obtain ⟨⟨w1, w2⟩, f1, f2⟩ := k
  have A := lowsP h hI
  have B := upsP h hI
  have X := known_pos (F := F) h (b := b)
  have a1 := h.w1
  have a3 := h.w3
  have c1 := mul_mono a1 hD
  have c2 := mul_mono a3 hD
  have wc : wearC F (1000 * D) N := ⟨by grind, by grind⟩
  exact (solved_has h hI hN).2 ⟨⟨⟨by omega, by omega⟩, fun _ => wc⟩, fun l hl u hu => fit_trans (A l hl).1 X.1 (B u hu).1 (A l hl).2 X.2 (B u hu).2 (f1 l hl) (f2 u hu)⟩
theorem has_can (h : OkF F) (hI : ∀ i ∈ I, i < F.s.length) {p q : Int} (hq : 0 < q) (k : (solvedW F I).has p q) : canI F I = true := by
  obtain ⟨t, y, _, p⟩ := (has_pt h hI hq).1 k
  exact (canI_pt h hI).2 ⟨_, p⟩
theorem held_between (_h : OkF F) (_hI : ∀ i ∈ I, i < F.s.length) {N D : Int} (_hN : 0 < N) (k : (solvedW F I).has (1000 * D) N) :
    1000 * (solvedW F I).hi.d * D ≤ N * (solvedW F I).hi.n ∧ N * (solvedW F I).lo.n ≤ 1000 * (solvedW F I).lo.d * D := by
  obtain ⟨s1, s2⟩ := solved_soft (F := F) I
  obtain ⟨_, a, b⟩ := k
  unfold Bd.ge at a
  unfold Bd.le at b
  rw [s1, if_neg (by decide)] at a
  rw [s2, if_neg (by decide)] at b
  constructor
  · grind
  · grind
theorem low_le {n d N D : Int} (hn : 0 ≤ n) (hd : 0 < d) (_hD : 0 < D) : (lowN1 n d * D ≤ N * lowN2 n d ↔ n * D ≤ N * d) ∧ (N * lowN2 n d ≤ lowN1 n d * D ↔ N * d ≤ n * D) := by
  have c := lowN_cross hn hd
  obtain ⟨_, d0, _⟩ := lowN_bd hn hd
  generalize lowN1 n d = a at *
  generalize lowN2 n d = b at *
  constructor
  · rw [← mul_le_r hd, ← mul_le_r (a := n * D) (b := N * d) d0]
    have e1 : a * D * d = n * D * b := by grind
    have e2 : N * b * d = N * d * b := by ac_rfl
    rw [e1, e2]
  · rw [← mul_le_r hd, ← mul_le_r (a := N * d) (b := n * D) d0]
    have e1 : a * D * d = n * D * b := by grind
    have e2 : N * b * d = N * d * b := by ac_rfl
    rw [e1, e2]
end
end Go.Proofs.YtnfndiafabhhdaaGreat
