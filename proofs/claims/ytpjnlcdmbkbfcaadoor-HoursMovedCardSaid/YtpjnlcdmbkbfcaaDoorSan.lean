/- The chapter's examples: what the functions answer there; the walk of 'sane'. -/
import Derived.Test.YtpjnlcdmbkbfcaaDoorP1
import Derived.Test.YtpjnlcdmbkbfcaaDoorC5
namespace Go.Proofs.YtpjnlcdmbkbfcaaDoor
open Go.ChangeShapes Go.WideShapes Go.ChangeAt Go.RowKit Go.BigFrame

def exS : Sea := ⟨365, [0, 180], [400, 300], [1000, 1140]⟩
theorem lonF_first (f : Int → Int) (k : Nat) : ∀ j : Nat, (j : Int) < lonF f k → f j < f (lonF f k) := by
  induction k with
  | zero => intro j h; simp [lonF] at h; omega
  | succ k ih =>
    intro j h
    have hm := lonF_max f k
    have hb := lonF_bd f k
    rw [lonF_step] at h ⊢
    split at h
    · rename_i h1
      rw [if_pos h1]
      have := hm j (by omega)
      omega
    · rename_i h1
      rw [if_neg h1]
      exact ih j h
theorem shoF_first (f : Int → Int) (k : Nat) : ∀ j : Nat, (j : Int) < shoF f k → f (shoF f k) < f j := by
  induction k with
  | zero => intro j h; simp [shoF] at h; omega
  | succ k ih =>
    intro j h
    have hm := shoF_min f k
    have hb := shoF_bd f k
    rw [shoF_step] at h ⊢
    split at h
    · rename_i h1
      rw [if_pos h1]
      have := hm j (by omega)
      omega
    · rename_i h1
      rw [if_neg h1]
      exact ih j h
theorem lonF_eq {f : Int → Int} {k m : Nat} (hm : m ≤ k) (h1 : ∀ j : Nat, j ≤ k → f j ≤ f m) (h2 : ∀ j : Nat, j < m → f j < f m) : lonF f k = m := by
  have hb := lonF_bd f k
  obtain ⟨x, hx⟩ : ∃ x : Nat, lonF f k = x := ⟨(lonF f k).toNat, by omega⟩
  have a1 := lonF_max f k m hm
  have a2 := lonF_first f k m
  rw [hx] at a1 a2 ⊢
  rcases Nat.lt_trichotomy x m with h | h | h
  · have := h2 x h; omega
  · rw [h]
  · have := a2 (by omega); have := h1 x (by omega); omega
theorem shoF_eq {f : Int → Int} {k m : Nat} (hm : m ≤ k) (h1 : ∀ j : Nat, j ≤ k → f m ≤ f j) (h2 : ∀ j : Nat, j < m → f m < f j) : shoF f k = m := by
  have hb := shoF_bd f k
  obtain ⟨x, hx⟩ : ∃ x : Nat, shoF f k = x := ⟨(shoF f k).toNat, by omega⟩
  have a1 := shoF_min f k m hm
  have a2 := shoF_first f k m
  rw [hx] at a1 a2 ⊢
  rcases Nat.lt_trichotomy x m with h | h | h
  · have := h2 x h; omega
  · rw [h]
  · have := a2 (by omega); have := h1 x (by omega); omega
theorem exA : ∀ j : Nat, j < 365 → lit exS j ≤ lit exS (180 : Nat) := by decide +kernel
theorem exB : ∀ j : Nat, j < 180 → lit exS j < lit exS (180 : Nat) := by decide +kernel
theorem exC : ∀ j : Nat, j < 365 → lit exS (0 : Nat) ≤ lit exS j := by decide +kernel
theorem ex_lon : gv (vld exS) (lonD exS) = 180 := by
  rw [show vld exS = true by decide, gv_t]
  exact lonF_eq (f := lit exS) (k := 364) (m := 180) (by omega) (fun j hj => exA j (by omega)) exB
theorem ex_sho : gv (vld exS) (shoD exS) = 0 := by
  rw [show vld exS = true by decide, gv_t]
  exact shoF_eq (f := lit exS) (k := 364) (m := 0) (by omega) (fun j hj => exC j (by omega)) (fun j hj => by omega)
theorem ex_mo : moV 1 = 13 := by
  have h0 : sta false 1 = 0 := by decide
  have hk : moK 1 = 365 := by decide
  unfold moV
  rw [if_pos (by omega), h0, hk]
  obtain ⟨j, b0, b1, b2, b3⟩ := cnt_mst (a := 0) (by omega) 365 (by decide) 0 (by omega) (by decide) (by omega)
  rw [b1]
  have m12 : mst 12 = 354 := by decide
  have m13 : mst 13 = 384 := by decide
  rcases Int.lt_trichotomy j 13 with h | h | h
  · have : mst j ≤ mst 12 := by
      rcases Int.lt_or_le j 12 with h1 | h1
      · exact Int.le_of_lt (mst_lt b0 h1)
      · obtain rfl : j = 12 := by omega
        omega
    omega
  · omega
  · have := b3 13 (by omega) h
    omega
theorem ex_dat : dat false 1460 = (4, 13, 6) := dat_eq (by decide) (by decide)

section
variable {vd vr vs : Value} {w : World}
theorem c_rise (h : SeaIn w vd vr vs exS) : Calls Tryd.prog 20 #[.agg #[.int .i64 365, vd, vr, vs], .int .i64 91] w fun e w' => e = .returned (.tuple #[.int .i64 349, .int .i64 0]) ∧ Below w.heap.size w w' := by
  have := Rise_any exS vd vr vs 91 w h
  rw [show gd exS (inB 91 0 11000) (lnR exS 91) = 349 by decide, show askE exS (inB 91 0 11000) = 0 by decide] at this
  exact this
theorem c_set (h : SeaIn w vd vr vs exS) : Calls Tryd.prog 22 #[.agg #[.int .i64 365, vd, vr, vs], .int .i64 270] w fun e w' => e = .returned (.tuple #[.int .i64 1071, .int .i64 0]) ∧ Below w.heap.size w w' := by
  have := Set_any exS vd vr vs 270 w h
  rw [show gd exS (inB 270 0 11000) (lnS exS 270) = 1071 by decide, show askE exS (inB 270 0 11000) = 0 by decide] at this
  exact this
theorem c_len (h : SeaIn w vd vr vs exS) : Calls Tryd.prog 24 #[.agg #[.int .i64 365, vd, vr, vs], .int .i64 0, .bool true] w fun e w' => e = .returned (.tuple #[.agg #[.int .i64 839, .int .i64 12], .int .i64 0]) ∧ Below w.heap.size w w' := by
  have := Length_any exS vd vr vs 0 true w h
  rw [show gd exS (inB 0 0 11000) (low1 (las exS 0 true) 12) = 839 by decide, show gd exS (inB 0 0 11000) (low2 (las exS 0 true) 12) = 12 by decide, show askE exS (inB 0 0 11000) = 0 by decide] at this
  exact this
theorem c_exact (h : SeaIn w vd vr vs exS) : Calls Tryd.prog 53 #[.agg #[.int .i64 365, vd, vr, vs], .int .i64 0, .agg #[.bool false, .int .i64 1, .int .i64 30]] w fun e w' => e = .returned (.tuple #[.agg #[.int .i64 475, .int .i64 1], .int .i64 0]) ∧ Below w.heap.size w w' := by
  have := Exact_any exS vd vr vs 0 false 1 30 w h
  rw [show gd exS (inB 0 0 11000 && okH 1 30) (low1 (mom exS 0 false 1 30) 720) = 475 by decide +kernel, show gd exS (inB 0 0 11000 && okH 1 30) (low2 (mom exS 0 false 1 30) 720) = 1 by decide +kernel, show askE exS (inB 0 0 11000 && okH 1 30) = 0 by decide] at this
  exact this
theorem c_first (h : SeaIn w vd vr vs exS) : Calls Tryd.prog 47 #[.agg #[.int .i64 365, vd, vr, vs], .int .i64 0, .agg #[.bool true, .int .i64 1, .int .i64 0]] w fun e w' => e = .returned (.tuple #[.int .i64 1070, .int .i64 0]) ∧ Below w.heap.size w w' := by
  have := First_any exS vd vr vs 0 true 1 0 w h
  rw [show gd exS (inB 0 0 11000 && okH 1 0) (fst exS 0 true 1 0) = 1070 by decide, show askE exS (inB 0 0 11000 && okH 1 0) = 0 by decide] at this
  exact this
theorem c_told (h : SeaIn w vd vr vs exS) : Calls Tryd.prog 48 #[.agg #[.int .i64 365, vd, vr, vs], .int .i64 1069] w fun e w' => e = .returned (.tuple #[.int .i64 0, .agg #[.bool true, .int .i64 0, .int .i64 59], .int .i64 0]) ∧ Below w.heap.size w w' := by
  have := Told_any exS vd vr vs 1069 w h
  unfold TlPost at this
  rw [show gv (tlG exS 1069) (tD exS 1069) = 0 by decide, show (tlG exS 1069 && tN exS 1069) = true by decide, show gv (tlG exS 1069) (tP exS 1069 / 60) = 0 by decide, show gv (tlG exS 1069) (tP exS 1069 % 60) = 59 by decide, show tlE exS 1069 = 0 by decide] at this
  exact this
theorem c_told2 (h : SeaIn w vd vr vs exS) : Calls Tryd.prog 48 #[.agg #[.int .i64 365, vd, vr, vs], .int .i64 399] w fun e w' => e = .returned (.tuple #[.int .i64 0, .agg #[.bool false, .int .i64 0, .int .i64 0], .int .i64 4]) ∧ Below w.heap.size w w' := by
  have := Told_any exS vd vr vs 399 w h
  unfold TlPost at this
  rw [show gv (tlG exS 399) (tD exS 399) = 0 by decide, show (tlG exS 399 && tN exS 399) = false by decide, show gv (tlG exS 399) (tP exS 399 / 60) = 0 by decide, show gv (tlG exS 399) (tP exS 399 % 60) = 0 by decide, show tlE exS 399 = 4 by decide] at this
  exact this
theorem c_later (h : SeaIn w vd vr vs exS) : Calls Tryd.prog 28 #[.agg #[.int .i64 365, vd, vr, vs], .int .i64 0, .agg #[.bool false, .int .i64 11, .int .i64 5], .int .i64 2] w fun e w' => e = .returned (.tuple #[.int .i64 0, .agg #[.bool true, .int .i64 1, .int .i64 5], .int .i64 0]) ∧ Below w.heap.size w w' := by
  have := Later_any exS vd vr vs 0 false 11 5 2 w h
  unfold LtPost at this
  rw [show ltG exS (inB 0 0 11000 && okH 11 5) (inB 2 (-300000) 300000) (inB (ltN 0 false 11 5 2 / 1440) 0 11000) = true by decide, show ltE exS (inB 0 0 11000 && okH 11 5) (inB 2 (-300000) 300000) (inB (ltN 0 false 11 5 2 / 1440) 0 11000) = 0 by decide] at this
  exact this
theorem c_passed (h : SeaIn w vd vr vs exS) : Calls Tryd.prog 30 #[.agg #[.int .i64 365, vd, vr, vs], .int .i64 0, .agg #[.bool false, .int .i64 0, .int .i64 0], .int .i64 0, .agg #[.bool true, .int .i64 1, .int .i64 0]] w fun e w' => e = .returned (.tuple #[.agg #[.int .i64 669, .int .i64 670], .int .i64 0]) ∧ Below w.heap.size w w' := by
  have := Passed_any exS vd vr vs 0 false 0 0 0 true 1 0 w h
  rw [show mom exS 0 true 1 0 - mom exS 0 false 0 0 = 482340 by decide] at this
  rw [show gv (pasG exS (inB 0 0 11000 && okH 0 0) (inB 0 0 11000 && okH 1 0) 482340) (482340 / 720) = 669 by decide, show gv (pasG exS (inB 0 0 11000 && okH 0 0) (inB 0 0 11000 && okH 1 0) 482340) ((482340 + 719) / 720) = 670 by decide, show pasE exS (inB 0 0 11000 && okH 0 0) (inB 0 0 11000 && okH 1 0) 482340 = 0 by decide] at this
  exact this
theorem c_longest (h : SeaIn w vd vr vs exS) : Calls Tryd.prog 32 #[.agg #[.int .i64 365, vd, vr, vs]] w fun e w' => e = .returned (.tuple #[.int .i64 180, .int .i64 0, .int .i64 0]) ∧ Below w.heap.size w w' := by
  have := Longest_any exS vd vr vs w h
  rw [ex_lon, ex_sho, show chk exS = 0 by decide] at this
  exact this
theorem c_court : Calls Tryd.prog 34 #[.int .i64 1460] w fun e w' => e = .returned (.tuple #[.agg #[.int .i64 4, .int .i64 13, .int .i64 6], .int .i64 0]) ∧ Below w.heap.size w w' := by
  have := Court_any 1460 w
  unfold DatPost at this
  rw [ex_dat, show datE false 1460 = 0 by decide] at this
  exact this
theorem c_market : Calls Tryd.prog 40 #[.agg #[.int .i64 2, .int .i64 12, .int .i64 30]] w fun e w' => e = .returned (.tuple #[.int .i64 708, .int .i64 0]) ∧ Below w.heap.size w w' := by
  have := MarketDay_any 2 12 30 w
  unfold NumPost at this
  rw [show numV true 2 12 30 = 708 by decide, show numE true 2 12 30 = 0 by decide] at this
  exact this
theorem c_months : Calls Tryd.prog 44 #[.int .i64 1] w fun e w' => e = .returned (.tuple #[.int .i64 13, .int .i64 0]) ∧ Below w.heap.size w w' := by
  have := Months_any 1 w
  rw [ex_mo, show moE 1 = 0 by decide] at this
  exact this
theorem c_print : Calls Tryd.prog 63 #[.agg #[.bool true, .int .i64 3, .int .i64 7]] w fun e w' => e = .returned (.tuple #[.string ⟨#[110, 105, 103, 104, 116, 32, 51, 58, 48, 55]⟩, .int .i64 0]) ∧ Below w.heap.size w w' := by
  have := Print_any true 3 7 w
  unfold PrPost at this
  rw [show prV true 3 7 = [110, 105, 103, 104, 116, 32, 51, 58, 48, 55] by decide +kernel, show prE 3 7 = 0 by decide] at this
  exact this
theorem c_check : Calls Tryd.prog 26 #[.agg #[.int .i64 0, .slice none 0 0, .slice none 0 0, .slice none 0 0]] w fun e w' => e = .returned (.int .i64 50) ∧ Below w.heap.size w w' := by
  have := Check_any ⟨0, [], [], []⟩ (.slice none 0 0) (.slice none 0 0) (.slice none 0 0) w (.inl ⟨rfl, _, _, rfl⟩) (.inl ⟨rfl, _, _, rfl⟩) (.inl ⟨rfl, _, _, rfl⟩)
  rw [show chk ⟨0, [], [], []⟩ = 50 by decide] at this
  exact this
end
end Go.Proofs.YtpjnlcdmbkbfcaaDoor
