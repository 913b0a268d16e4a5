/- The walk of HoursLater. -/
import Derived.Test.YtpjnlcdmbkbfcaaDoorMem
namespace Go.Proofs.YtpjnlcdmbkbfcaaDoor
open Go.ChangeShapes Go.WideShapes Go.ChangeAt Go.RowKit Go.BigFrame
set_option maxRecDepth 100000 in
set_option maxHeartbeats 4000000 in
theorem law_later (S : Sea) (vd vr vs : Value) (day : Int) (nt : Bool) (h p : Int) (day2 : Int) (nt2 : Bool) (h2 p2 : Int) (n : Int) (w : World) (hI : SeaIn w vd vr vs S)
    (_ : -9223372036854775808 ≤ day) (_ : day ≤ 9223372036854775807) (_ : -9223372036854775808 ≤ day2) (_ : day2 ≤ 9223372036854775807) (_ : -9223372036854775808 ≤ n) (_ : n ≤ 9223372036854775807) :
    Calls Tryd.prog 4 #[.agg #[.int .i64 S.L, vd, vr, vs], .int .i64 day, .agg #[.bool nt, .int .i64 h, .int .i64 p], .int .i64 day2, .agg #[.bool nt2, .int .i64 h2, .int .i64 p2], .int .i64 n] w fun e w' => e = .returned (.bool true) ∧ Below w.heap.size w w' := by
  have hI0 := ((hI.alloc (seaO S vd vr vs)).alloc (hrO nt h p)).alloc (hrO nt2 h2 p2)
  have hL0 := (((Bx.none w).cons [.int .i64 S.L, vd, vr, vs] 24).cons [.bool nt, .int .i64 h, .int .i64 p] 37).cons [.bool nt2, .int .i64 h2, .int .i64 p2] 37
  simp only [World.size_alloc] at hL0
  have hB0 : Below w.heap.size w (((w.alloc (seaO S vd vr vs)).alloc (hrO nt h p)).alloc (hrO nt2 h2 p2)) := (by repeat (first | exact Below.refl _ _ | assumption | refine bthen ?_ (by assumption) | refine Below.alloc ?_ (by first | exact Nat.le_refl _ | (simp; done) | (simp; omega) | omega) _ | refine Below.setCell ?_ (by first | exact Nat.le_refl _ | (simp; done) | (simp; omega) | omega) _ | refine below_drewN ?_ _ | refine Below.drew ?_))
  have hC := True.intro
  rcases bool_ft (decide (S.d.length ≤ 30) && decide (S.r.length ≤ 30) && decide (S.s.length ≤ 30)) with hfw | hfw
  · have HF := Lib.hid hfw
    clear hfw
    go_enter Tryd.func4, Tryd.ntmps4
    go_wp2_with fail
    clear hC
    refine (sane_any _).mono ?_
    rintro e w1 ⟨rfl, hb⟩
    have hI1 := hI0.below hb
    have hL1 := hL0.below hb
    have hB1 := bnext hB0 hb
    have hC := hL1.facts
    simp only [AllC, RowC, Nat.zero_add, Nat.reduceAdd] at hC
    go_wp2_with fail
    clear hC
    refine (few_c S vd vr vs _ _ hI1 HF.out).mono ?_
    rintro e w2 ⟨rfl, hb⟩
    have hI2 := hI1.below hb
    have hL2 := hL1.below hb
    have hB2 := bnext hB1 hb
    have hC := hL2.facts
    simp only [AllC, RowC, Nat.zero_add, Nat.reduceAdd] at hC
    go_wp2_with fail
    go_ret
    exact ⟨rfl, hB2⟩
  · have HF := Lib.hid hfw
    obtain ⟨x1, hx1⟩ : ∃ x, gv (ltG S (inB day 0 11000 && okH h p) (inB n (-300000) 300000) (inB (ltN day nt h p n / 1440) 0 11000)) (ltN day nt h p n / 1440) = x := ⟨_, rfl⟩
    obtain ⟨x2, hx2⟩ : ∃ x, (ltG S (inB day 0 11000 && okH h p) (inB n (-300000) 300000) (inB (ltN day nt h p n / 1440) 0 11000) && gN (ltN day nt h p n)) = x := ⟨_, rfl⟩
    obtain ⟨x3, hx3⟩ : ∃ x, gv (ltG S (inB day 0 11000 && okH h p) (inB n (-300000) 300000) (inB (ltN day nt h p n / 1440) 0 11000)) (ltN day nt h p n / 60 % 12) = x := ⟨_, rfl⟩
    obtain ⟨x4, hx4⟩ : ∃ x, gv (ltG S (inB day 0 11000 && okH h p) (inB n (-300000) 300000) (inB (ltN day nt h p n / 1440) 0 11000)) (ltN day nt h p n % 60) = x := ⟨_, rfl⟩
    obtain ⟨x5, hx5⟩ : ∃ x, ltE S (inB day 0 11000 && okH h p) (inB n (-300000) 300000) (inB (ltN day nt h p n / 1440) 0 11000) = x := ⟨_, rfl⟩
    obtain ⟨y1, hy1⟩ : ∃ x, gv (pasG S (inB day 0 11000 && okH h p) (inB day2 0 11000 && okH h2 p2) (mom S day2 nt2 h2 p2 - mom S day nt h p)) ((mom S day2 nt2 h2 p2 - mom S day nt h p) / 720) = x := ⟨_, rfl⟩
    obtain ⟨y2, hy2⟩ : ∃ x, gv (pasG S (inB day 0 11000 && okH h p) (inB day2 0 11000 && okH h2 p2) (mom S day2 nt2 h2 p2 - mom S day nt h p)) ((mom S day2 nt2 h2 p2 - mom S day nt h p + 719) / 720) = x := ⟨_, rfl⟩
    obtain ⟨y3, hy3⟩ : ∃ x, pasE S (inB day 0 11000 && okH h p) (inB day2 0 11000 && okH h2 p2) (mom S day2 nt2 h2 p2 - mom S day nt h p) = x := ⟨_, rfl⟩
    obtain ⟨z1, hz1⟩ : ∃ x, gv (vld S) (lonD S) = x := ⟨_, rfl⟩
    obtain ⟨z2, hz2⟩ : ∃ x, gv (vld S) (shoD S) = x := ⟨_, rfl⟩
    obtain ⟨z3, hz3⟩ : ∃ x, chk S = x := ⟨_, rfl⟩
    have X1 := Lib.hid hx1
    have X2 := Lib.hid hx2
    have X3 := Lib.hid hx3
    have X4 := Lib.hid hx4
    have X5 := Lib.hid hx5
    have Y1 := Lib.hid hy1
    have Y2 := Lib.hid hy2
    have Y3 := Lib.hid hy3
    have Z1 := Lib.hid hz1
    have Z2 := Lib.hid hz2
    have Z3 := Lib.hid hz3
    clear hfw hx1 hx2 hx3 hx4 hx5 hy1 hy2 hy3 hz1 hz2 hz3
    go_enter Tryd.func4, Tryd.ntmps4
    go_wp2_with fail
    clear hC
    refine (sane_any _).mono ?_
    rintro e w1 ⟨rfl, hb⟩
    have hI1 := hI0.below hb
    have hL1 := hL0.below hb
    have hB1 := bnext hB0 hb
    have hC := hL1.facts
    simp only [AllC, RowC, Nat.zero_add, Nat.reduceAdd] at hC
    go_wp2_with fail
    clear hC
    refine (few_c S vd vr vs _ _ hI1 HF.out).mono ?_
    rintro e w2 ⟨rfl, hb⟩
    have hI2 := hI1.below hb
    have hL2 := hL1.below hb
    have hB2 := bnext hB1 hb
    have hC := hL2.facts
    simp only [AllC, RowC, Nat.zero_add, Nat.reduceAdd] at hC
    go_wp2_with fail
    clear hC
    refine (Later_any S vd vr vs day nt h p n _ hI2).mono ?_
    rintro e w3 ⟨rfl, hb⟩
    have hI3 := hI2.below hb
    have hL3 := hL2.below hb
    have hB3 := bnext hB2 hb
    have hC := hL3.facts
    simp only [AllC, RowC, Nat.zero_add, Nat.reduceAdd] at hC
    rw [X1.out, X2.out, X3.out, X4.out, X5.out]
    go_wp2_with fail
    clear hC
    refine (rLater_any S vd vr vs day nt h p n _ (hI3.alloc _)).mono ?_
    rintro e w4 ⟨rfl, hb⟩
    have hI4 := (hI3.alloc _).below hb
    have hL4 := (hL3.cons _ _).below hb
    have hB4 := bnextA hB3 hb
    have hC := hL4.facts
    simp only [AllC, RowC, Nat.zero_add, Nat.reduceAdd] at hC
    rw [X1.out, X2.out, X3.out, X4.out, X5.out]
    go_wp2_with fail
    clear hC
    refine (Passed_any S vd vr vs day nt h p day2 nt2 h2 p2 _ (hI4.alloc _)).mono ?_
    rintro e w5 ⟨rfl, hb⟩
    have hI5 := (hI4.alloc _).below hb
    have hL5 := (hL4.cons _ _).below hb
    have hB5 := bnextA hB4 hb
    have hC := hL5.facts
    simp only [AllC, RowC, Nat.zero_add, Nat.reduceAdd] at hC
    rw [Y1.out, Y2.out, Y3.out]
    go_wp2_with fail
    clear hC
    refine (rPassed_any S vd vr vs day nt h p day2 nt2 h2 p2 _ (hI5.alloc _)).mono ?_
    rintro e w6 ⟨rfl, hb⟩
    have hI6 := (hI5.alloc _).below hb
    have hL6 := (hL5.cons _ _).below hb
    have hB6 := bnextA hB5 hb
    have hC := hL6.facts
    simp only [AllC, RowC, Nat.zero_add, Nat.reduceAdd] at hC
    rw [Y1.out, Y2.out, Y3.out]
    go_wp2_with fail
    clear hC
    refine (Longest_any S vd vr vs _ (hI6.alloc _)).mono ?_
    rintro e w7 ⟨rfl, hb⟩
    have hI7 := (hI6.alloc _).below hb
    have hL7 := (hL6.cons _ _).below hb
    have hB7 := bnextA hB6 hb
    have hC := hL7.facts
    simp only [AllC, RowC, Nat.zero_add, Nat.reduceAdd] at hC
    rw [Z1.out, Z2.out, Z3.out]
    go_wp2_with fail
    clear hC
    refine (rLongest_any S vd vr vs _ hI7).mono ?_
    rintro e w8 ⟨rfl, hb⟩
    have hI8 := hI7.below hb
    have hL8 := hL7.below hb
    have hB8 := bnext hB7 hb
    have hC := hL8.facts
    simp only [AllC, RowC, Nat.zero_add, Nat.reduceAdd] at hC
    rw [Z1.out, Z2.out, Z3.out]
    go_wp2_with fail
    go_ret
    exact ⟨rfl, hB8⟩
end Go.Proofs.YtpjnlcdmbkbfcaaDoor
