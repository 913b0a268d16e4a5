/- The walks of HoursDates and HoursFeasts. -/
import Derived.Test.YtpjnlcdmbkbfcaaDoorMem
import Derived.Test.YtpjnlcdmbkbfcaaDoorRC3
namespace Go.Proofs.YtpjnlcdmbkbfcaaDoor
open Go.ChangeShapes Go.WideShapes Go.ChangeAt Go.RowKit Go.BigFrame
set_option maxRecDepth 100000 in
set_option maxHeartbeats 4000000 in
theorem law_dates (day y m d : Int) (w : World) (_ : -9223372036854775808 ≤ day) (_ : day ≤ 9223372036854775807) :
    Calls Tryd.prog 6 #[.int .i64 day, .agg #[.int .i64 y, .int .i64 m, .int .i64 d]] w fun e w' => e = .returned (.bool true) ∧ Below w.heap.size w w' := by
  have hL0 := (Bx.none w).cons [.int .i64 y, .int .i64 m, .int .i64 d] 50
  have hB0 : Below w.heap.size w (w.alloc (dO y m d)) := ballo _ _
  have hC := True.intro
  obtain ⟨x1, hx1⟩ : ∃ x, (dat false day).1 = x := ⟨_, rfl⟩
  obtain ⟨x2, hx2⟩ : ∃ x, (dat false day).2.1 = x := ⟨_, rfl⟩
  obtain ⟨x3, hx3⟩ : ∃ x, (dat false day).2.2 = x := ⟨_, rfl⟩
  obtain ⟨x4, hx4⟩ : ∃ x, datE false day = x := ⟨_, rfl⟩
  obtain ⟨y1, hy1⟩ : ∃ x, (dat true day).1 = x := ⟨_, rfl⟩
  obtain ⟨y2, hy2⟩ : ∃ x, (dat true day).2.1 = x := ⟨_, rfl⟩
  obtain ⟨y3, hy3⟩ : ∃ x, (dat true day).2.2 = x := ⟨_, rfl⟩
  obtain ⟨y4, hy4⟩ : ∃ x, datE true day = x := ⟨_, rfl⟩
  obtain ⟨u1, hu1⟩ : ∃ x, numV false y m d = x := ⟨_, rfl⟩
  obtain ⟨u2, hu2⟩ : ∃ x, numE false y m d = x := ⟨_, rfl⟩
  obtain ⟨v1, hv1⟩ : ∃ x, numV true y m d = x := ⟨_, rfl⟩
  obtain ⟨v2, hv2⟩ : ∃ x, numE true y m d = x := ⟨_, rfl⟩
  have X1 := Lib.hid hx1
  have X2 := Lib.hid hx2
  have X3 := Lib.hid hx3
  have X4 := Lib.hid hx4
  have Y1 := Lib.hid hy1
  have Y2 := Lib.hid hy2
  have Y3 := Lib.hid hy3
  have Y4 := Lib.hid hy4
  have U1 := Lib.hid hu1
  have U2 := Lib.hid hu2
  have V1 := Lib.hid hv1
  have V2 := Lib.hid hv2
  clear hx1 hx2 hx3 hx4 hy1 hy2 hy3 hy4 hu1 hu2 hv1 hv2
  go_enter Tryd.func6, Tryd.ntmps6
  go_wp2_with fail
  clear hC
  refine (sane_any _).mono ?_
  rintro e w1 ⟨rfl, hb⟩
  have hL1 := hL0.below hb
  have hB1 := bnext hB0 hb
  have hC := hL1.facts
  simp only [AllC, RowC, Nat.zero_add, Nat.reduceAdd] at hC
  go_wp2_with fail
  clear hC
  refine (Court_any day _).mono ?_
  rintro e w2 ⟨rfl, hb⟩
  have hL2 := hL1.below hb
  have hB2 := bnext hB1 hb
  have hC := hL2.facts
  simp only [AllC, RowC, Nat.zero_add, Nat.reduceAdd] at hC
  rw [X1.out, X2.out, X3.out, X4.out]
  go_wp2_with fail
  clear hC
  refine (rCourt_any day _).mono ?_
  rintro e w3 ⟨rfl, hb⟩
  have hL3 := (hL2.cons _ _).below hb
  have hB3 := bnextA hB2 hb
  have hC := hL3.facts
  simp only [AllC, RowC, Nat.zero_add, Nat.reduceAdd] at hC
  rw [X1.out, X2.out, X3.out, X4.out]
  go_wp2_with fail
  clear hC
  refine (CourtDay_any y m d _).mono ?_
  rintro e w4 ⟨rfl, hb⟩
  have hL4 := (hL3.cons _ _).below hb
  have hB4 := bnextA hB3 hb
  have hC := hL4.facts
  simp only [AllC, RowC, Nat.zero_add, Nat.reduceAdd] at hC
  rw [U1.out, U2.out]
  go_wp2_with fail
  clear hC
  refine (rCourtDay_any y m d _).mono ?_
  rintro e w5 ⟨rfl, hb⟩
  have hL5 := hL4.below hb
  have hB5 := bnext hB4 hb
  have hC := hL5.facts
  simp only [AllC, RowC, Nat.zero_add, Nat.reduceAdd] at hC
  rw [U1.out, U2.out]
  go_wp2_with fail
  clear hC
  refine (Market_any day _).mono ?_
  rintro e w6 ⟨rfl, hb⟩
  have hL6 := hL5.below hb
  have hB6 := bnext hB5 hb
  have hC := hL6.facts
  simp only [AllC, RowC, Nat.zero_add, Nat.reduceAdd] at hC
  rw [Y1.out, Y2.out, Y3.out, Y4.out]
  go_wp2_with fail
  clear hC
  refine (rMarket_any day _).mono ?_
  rintro e w7 ⟨rfl, hb⟩
  have hL7 := (hL6.cons _ _).below hb
  have hB7 := bnextA hB6 hb
  have hC := hL7.facts
  simp only [AllC, RowC, Nat.zero_add, Nat.reduceAdd] at hC
  rw [Y1.out, Y2.out, Y3.out, Y4.out]
  go_wp2_with fail
  clear hC
  refine (MarketDay_any y m d _).mono ?_
  rintro e w8 ⟨rfl, hb⟩
  have hL8 := (hL7.cons _ _).below hb
  have hB8 := bnextA hB7 hb
  have hC := hL8.facts
  simp only [AllC, RowC, Nat.zero_add, Nat.reduceAdd] at hC
  rw [V1.out, V2.out]
  go_wp2_with fail
  clear hC
  refine (rMarketDay_any y m d _).mono ?_
  rintro e w9 ⟨rfl, hb⟩
  have hL9 := hL8.below hb
  have hB9 := bnext hB8 hb
  have hC := hL9.facts
  simp only [AllC, RowC, Nat.zero_add, Nat.reduceAdd] at hC
  rw [V1.out, V2.out]
  go_wp2_with fail
  go_ret
  exact ⟨rfl, hB9⟩

set_option maxRecDepth 100000 in
set_option maxHeartbeats 4000000 in
theorem law_feasts (day year : Int) (w : World) (_ : -9223372036854775808 ≤ day) (_ : day ≤ 9223372036854775807) (_ : -9223372036854775808 ≤ year) (_ : year ≤ 9223372036854775807) :
    Calls Tryd.prog 8 #[.int .i64 day, .int .i64 year] w fun e w' => e = .returned (.bool true) ∧ Below w.heap.size w w' := by
  have hB0 := Below.refl w.heap.size w
  obtain ⟨x1, hx1⟩ : ∃ x, feaV day = x := ⟨_, rfl⟩
  obtain ⟨x2, hx2⟩ : ∃ x, feaE 4 day = x := ⟨_, rfl⟩
  obtain ⟨y1, hy1⟩ : ∃ x, moV year = x := ⟨_, rfl⟩
  obtain ⟨y2, hy2⟩ : ∃ x, moE year = x := ⟨_, rfl⟩
  have X1 := Lib.hid hx1
  have X2 := Lib.hid hx2
  have Y1 := Lib.hid hy1
  have Y2 := Lib.hid hy2
  clear hx1 hx2 hy1 hy2
  go_enter Tryd.func8, Tryd.ntmps8
  go_wp2_with fail
  refine (sane_any _).mono ?_
  rintro e w1 ⟨rfl, hb⟩
  have hB1 := bnext hB0 hb
  go_wp2_with fail
  refine (Feast_any day _).mono ?_
  rintro e w2 ⟨rfl, hb⟩
  have hB2 := bnext hB1 hb
  rw [X1.out, X2.out]
  go_wp2_with fail
  refine (rFeast_any day _).mono ?_
  rintro e w3 ⟨rfl, hb⟩
  have hB3 := bnext hB2 hb
  rw [X1.out, X2.out]
  go_wp2_with fail
  refine (Months_any year _).mono ?_
  rintro e w4 ⟨rfl, hb⟩
  have hB4 := bnext hB3 hb
  rw [Y1.out, Y2.out]
  go_wp2_with fail
  refine (rMonths_any year _).mono ?_
  rintro e w5 ⟨rfl, hb⟩
  have hB5 := bnext hB4 hb
  rw [Y1.out, Y2.out]
  go_wp2_with fail
  go_ret
  exact ⟨rfl, hB5⟩
end Go.Proofs.YtpjnlcdmbkbfcaaDoor
