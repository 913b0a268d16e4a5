/- The walk of HoursMoments. -/
import Derived.Test.YtpjnlcdmbkbfcaaDoorEq
namespace Go.Proofs.YtpjnlcdmbkbfcaaDoor
open Go.ChangeShapes Go.WideShapes Go.ChangeAt Go.RowKit Go.BigFrame
set_option maxRecDepth 100000 in
set_option maxHeartbeats 4000000 in
theorem law_moments (S : Sea) (vd vr vs : Value) (day : Int) (nt : Bool) (h p : Int) (m : Int) (w : World) (hI : SeaIn w vd vr vs S)
    (_ : -9223372036854775808 ≤ day) (_ : day ≤ 9223372036854775807) (_ : -9223372036854775808 ≤ m) (_ : m ≤ 9223372036854775807) :
    Calls Tryd.prog 14 #[.agg #[.int .i64 S.L, vd, vr, vs], .int .i64 day, .agg #[.bool nt, .int .i64 h, .int .i64 p], .int .i64 m] w fun e w' => e = .returned (.bool true) ∧ Below w.heap.size w w' := by
  have hI0 := (hI.alloc (seaO S vd vr vs)).alloc (hrO nt h p)
  have hL0 := ((Bx.none w).cons [.int .i64 S.L, vd, vr, vs] 24).cons [.bool nt, .int .i64 h, .int .i64 p] 37
  simp only [World.size_alloc] at hL0
  have hB0 : Below w.heap.size w ((w.alloc (seaO S vd vr vs)).alloc (hrO nt h p)) := (by repeat (first | exact Below.refl _ _ | assumption | refine bthen ?_ (by assumption) | refine Below.alloc ?_ (by first | exact Nat.le_refl _ | (simp; done) | (simp; omega) | omega) _ | refine Below.setCell ?_ (by first | exact Nat.le_refl _ | (simp; done) | (simp; omega) | omega) _ | refine below_drewN ?_ _ | refine Below.drew ?_))
  have hC := True.intro
  rcases bool_ft (decide (S.d.length ≤ 30) && decide (S.r.length ≤ 30) && decide (S.s.length ≤ 30)) with hfw | hfw
  · have HF := Lib.hid hfw
    clear hfw
    go_enter Tryd.func14, Tryd.ntmps14
    go_wp2_with fail
    clear hC
    refine (sane_any _).mono ?_
    rintro e w1 ⟨rfl, hb⟩
    have hI1 := hI0.below hb
    have hL1 := hL0.below hb
    have hB1 := bnext hB0 hb
    have hC := hL1.facts
    simp only [AllC, RowC, Nat.zero_add, Nat.reduceAdd] at hC
    go_wp2_with fail
    clear hC
    refine (few_c S vd vr vs _ _ hI1 HF.out).mono ?_
    rintro e w2 ⟨rfl, hb⟩
    have hI2 := hI1.below hb
    have hL2 := hL1.below hb
    have hB2 := bnext hB1 hb
    have hC := hL2.facts
    simp only [AllC, RowC, Nat.zero_add, Nat.reduceAdd] at hC
    go_wp2_with fail
    go_ret
    exact ⟨rfl, hB2⟩
  · have HF := Lib.hid hfw
    obtain ⟨x1, hx1⟩ : ∃ x, gd S (inB day 0 11000 && okH h p) (low1 (mom S day nt h p) 720) = x := ⟨_, rfl⟩
    obtain ⟨x2, hx2⟩ : ∃ x, gd S (inB day 0 11000 && okH h p) (low2 (mom S day nt h p) 720) = x := ⟨_, rfl⟩
    obtain ⟨x3, hx3⟩ : ∃ x, askE S (inB day 0 11000 && okH h p) = x := ⟨_, rfl⟩
    obtain ⟨x4, hx4⟩ : ∃ x, gd S (inB day 0 11000 && okH h p) (fst S day nt h p) = x := ⟨_, rfl⟩
    obtain ⟨y1, hy1⟩ : ∃ x, gv (tlG S m) (tD S m) = x := ⟨_, rfl⟩
    obtain ⟨y2, hy2⟩ : ∃ x, (tlG S m && tN S m) = x := ⟨_, rfl⟩
    obtain ⟨y3, hy3⟩ : ∃ x, gv (tlG S m) (tP S m / 60) = x := ⟨_, rfl⟩
    obtain ⟨y4, hy4⟩ : ∃ x, gv (tlG S m) (tP S m % 60) = x := ⟨_, rfl⟩
    obtain ⟨y5, hy5⟩ : ∃ x, tlE S m = x := ⟨_, rfl⟩
    obtain ⟨z1, hz1⟩ : ∃ x, askE S (inB day 0 11000) = x := ⟨_, rfl⟩
    obtain ⟨bl, hbl⟩ : ∃ x, (if vld S && inB day 0 11000 then blL S day 24 else []) = x := ⟨_, rfl⟩
    have hlen : bl.length ≤ 24 := by
      rw [← hbl]
      split
      · rw [blL_len]; omega
      · simp
    have X1 := Lib.hid hx1
    have X2 := Lib.hid hx2
    have X3 := Lib.hid hx3
    have X4 := Lib.hid hx4
    have Y1 := Lib.hid hy1
    have Y2 := Lib.hid hy2
    have Y3 := Lib.hid hy3
    have Y4 := Lib.hid hy4
    have Y5 := Lib.hid hy5
    have Z1 := Lib.hid hz1
    have ZB := Lib.hid hbl
    have ZE := Lib.hid (beq_self_eq_true bl)
    clear hfw hx1 hx2 hx3 hx4 hy1 hy2 hy3 hy4 hy5 hz1 hbl
    go_enter Tryd.func14, Tryd.ntmps14
    go_wp2_with fail
    clear hC
    refine (sane_any _).mono ?_
    rintro e w1 ⟨rfl, hb⟩
    have hI1 := hI0.below hb
    have hL1 := hL0.below hb
    have hB1 := bnext hB0 hb
    have hC := hL1.facts
    simp only [AllC, RowC, Nat.zero_add, Nat.reduceAdd] at hC
    go_wp2_with fail
    clear hC
    refine (few_c S vd vr vs _ _ hI1 HF.out).mono ?_
    rintro e w2 ⟨rfl, hb⟩
    have hI2 := hI1.below hb
    have hL2 := hL1.below hb
    have hB2 := bnext hB1 hb
    have hC := hL2.facts
    simp only [AllC, RowC, Nat.zero_add, Nat.reduceAdd] at hC
    go_wp2_with fail
    clear hC
    refine (Exact_any S vd vr vs day nt h p _ hI2).mono ?_
    rintro e w3 ⟨rfl, hb⟩
    have hI3 := hI2.below hb
    have hL3 := hL2.below hb
    have hB3 := bnext hB2 hb
    have hC := hL3.facts
    simp only [AllC, RowC, Nat.zero_add, Nat.reduceAdd] at hC
    rw [X1.out, X2.out, X3.out]
    go_wp2_with fail
    clear hC
    refine (rExact_any S vd vr vs day nt h p _ (hI3.alloc _)).mono ?_
    rintro e w4 ⟨rfl, hb⟩
    have hI4 := (hI3.alloc _).below hb
    have hL4 := (hL3.cons _ _).below hb
    have hB4 := bnextA hB3 hb
    have hC := hL4.facts
    simp only [AllC, RowC, Nat.zero_add, Nat.reduceAdd] at hC
    rw [X1.out, X2.out, X3.out]
    go_wp2_with fail
    clear hC
    refine (First_any S vd vr vs day nt h p _ (hI4.alloc _)).mono ?_
    rintro e w5 ⟨rfl, hb⟩
    have hI5 := (hI4.alloc _).below hb
    have hL5 := (hL4.cons _ _).below hb
    have hB5 := bnextA hB4 hb
    have hC := hL5.facts
    simp only [AllC, RowC, Nat.zero_add, Nat.reduceAdd] at hC
    rw [X4.out, X3.out]
    go_wp2_with fail
    clear hC
    refine (rFirst_any S vd vr vs day nt h p _ hI5).mono ?_
    rintro e w6 ⟨rfl, hb⟩
    have hI6 := hI5.below hb
    have hL6 := hL5.below hb
    have hB6 := bnext hB5 hb
    have hC := hL6.facts
    simp only [AllC, RowC, Nat.zero_add, Nat.reduceAdd] at hC
    rw [X4.out, X3.out]
    go_wp2_with fail
    clear hC
    refine (Told_any S vd vr vs m _ hI6).mono ?_
    rintro e w7 ⟨rfl, hb⟩
    have hI7 := hI6.below hb
    have hL7 := hL6.below hb
    have hB7 := bnext hB6 hb
    have hC := hL7.facts
    simp only [AllC, RowC, Nat.zero_add, Nat.reduceAdd] at hC
    rw [Y1.out, Y2.out, Y3.out, Y4.out, Y5.out]
    go_wp2_with fail
    clear hC
    refine (rTold_any S vd vr vs m _ (hI7.alloc _)).mono ?_
    rintro e w8 ⟨rfl, hb⟩
    have hI8 := (hI7.alloc _).below hb
    have hL8 := (hL7.cons _ _).below hb
    have hB8 := bnextA hB7 hb
    have hC := hL8.facts
    simp only [AllC, RowC, Nat.zero_add, Nat.reduceAdd] at hC
    rw [Y1.out, Y2.out, Y3.out, Y4.out, Y5.out]
    go_wp2_with fail
    clear hC
    refine (Bells_any S vd vr vs day _ (hI8.alloc _)).mono ?_
    rintro e w9 ⟨v9, rfl, hO9, hb⟩
    have hI9 := (hI8.alloc _).below hb
    have hL9 := (hL8.cons _ _).below hb
    have hB9 := bnextA hB8 hb
    have hC := hL9.facts
    simp only [AllC, RowC, Nat.zero_add, Nat.reduceAdd] at hC
    rw [Z1.out]
    rw [ZB.out] at hO9
    go_wp2_with fail
    clear hC
    refine (rBells_any S vd vr vs day _ hI9).mono ?_
    rintro e w10 ⟨v10, rfl, hO10, hb⟩
    have hO9b := hO9.below hb
    have hL10 := hL9.below hb
    have hB10 := bnext hB9 hb
    have hC := hL10.facts
    simp only [AllC, RowC, Nat.zero_add, Nat.reduceAdd] at hC
    rw [Z1.out]
    rw [ZB.out] at hO10
    go_wp2_with fail
    refine (equal_any v9 v10 bl bl _ hO9b.ints hO10.ints (by omega) (by omega)).mono ?_
    rintro e w11 ⟨rfl, hb⟩
    have hB11 := bnext hB10 hb
    rw [ZE.out]
    go_wp2_with fail
    go_ret
    exact ⟨rfl, hB11⟩
end Go.Proofs.YtpjnlcdmbkbfcaaDoor
