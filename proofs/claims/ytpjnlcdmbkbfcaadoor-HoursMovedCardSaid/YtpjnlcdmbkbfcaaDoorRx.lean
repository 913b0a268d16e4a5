/- Contract of the law package's own helper exact, where there is such a moment. -/
import Derived.Test.YtpjnlcdmbkbfcaaDoorRt
namespace Go.Proofs.YtpjnlcdmbkbfcaaDoor
open Go.ChangeShapes Go.WideShapes Go.ChangeAt Go.RowKit Go.BigFrame

set_option maxRecDepth 100000 in
theorem exact_ok (S : Sea) (vd vr vs : Value) (day : Int) (nt : Bool) (h p : Int) (x : Int) (w : World) (hI : SeaIn w vd vr vs S) (hv : vld S = true) (h1 : 0 ≤ day) (h2 : day ≤ 11000) (hk : okH h p = true) (hx : mom S day nt h p = x) :
    Calls Tryd.prog 51 #[.agg #[.int .i64 S.L, vd, vr, vs], .int .i64 day, .agg #[.bool nt, .int .i64 h, .int .i64 p]] w fun e w' => e = .returned (.int .i64 x) ∧ Below w.heap.size w w' := by
  obtain ⟨⟨k1, k2⟩, p1, p2⟩ := okH_bd hk
  have ha : (inB day 0 11000 && okH h p) = true := by rw [hk, inB_mk h1 h2]; rfl
  obtain ⟨m1, m2⟩ := mom_bd hv h1 (by omega) nt k1 k2 p1 p2
  rw [hx] at m1 m2
  obtain ⟨g1, g2⟩ := low_back m1
  have g3 := low2_pos m1 (d := 720) (by decide)
  have g4 := low2_le (n := x) (d := 720) (by decide)
  have g5 := low1_nn (d := 720) m1
  have g6 := low1_le (d := 720) m1
  have X1 := Lib.hid (show gd S (inB day 0 11000 && okH h p) (low1 (mom S day nt h p) 720) = low1 x 720 by rw [gd_ok _ hv ha, hx])
  have X2 := Lib.hid (show gd S (inB day 0 11000 && okH h p) (low2 (mom S day nt h p) 720) = low2 x 720 by rw [gd_ok _ hv ha, hx])
  have X3 := Lib.hid (show askE S (inB day 0 11000 && okH h p) = 0 from askE_ok hv ha)
  generalize low1 x 720 = a at *
  generalize low2 x 720 = b at *
  have q1 : ¬ b < 1 := by omega
  have q2 : Int.tmod 720 b = 0 := by rw [Int.tmod_eq_emod_of_nonneg (by decide)]; exact g2
  have q3 : Int.tdiv 720 b = 720 / b := Int.tdiv_eq_ediv_of_nonneg (by decide)
  have q4 : 0 ≤ 720 / b := Int.ediv_nonneg (by decide) (by omega)
  have q5 : 720 / b ≤ 720 := Int.ediv_le_self _ (by decide)
  have G1 := Lib.hid g1
  have q6 : -9223372036854775808 ≤ a * (720 / b) := by rw [g1]; omega
  have q7 : a * (720 / b) ≤ 9223372036854775807 := by rw [g1]; omega
  generalize 720 / b = c at *
  have hI0 := (hI.alloc (seaO S vd vr vs)).alloc (hrO nt h p)
  have hL0 := ((Bx.none w).cons [.int .i64 S.L, vd, vr, vs] 24).cons [.bool nt, .int .i64 h, .int .i64 p] 37
  simp only [World.size_alloc] at hL0
  have hB0 : Below w.heap.size w ((w.alloc (seaO S vd vr vs)).alloc (hrO nt h p)) := (by repeat (first | exact Below.refl _ _ | assumption | refine bthen ?_ (by assumption) | refine Below.alloc ?_ (by first | exact Nat.le_refl _ | (simp; done) | (simp; omega) | omega) _ | refine Below.setCell ?_ (by first | exact Nat.le_refl _ | (simp; done) | (simp; omega) | omega) _ | refine below_drewN ?_ _ | refine Below.drew ?_))
  have hC := True.intro
  clear hk ha g1 hx
  go_enter Tryd.func51, Tryd.ntmps51
  go_wp2_with fail
  refine (Exact_any S vd vr vs day nt h p _ hI0).mono ?_
  rintro e w1 ⟨rfl, hb⟩
  rw [X1.out, X2.out, X3.out]
  go_wp2_with fail
  have hb0 : ¬ b = 0 := by omega
  go_quiet (fail)
  go_wp2_with fail
  go_ret
  exact ⟨ret_int G1.out, below_drewN (bthen (bnext hB0 hb) (ballo _ _)) nq⟩
end Go.Proofs.YtpjnlcdmbkbfcaaDoor
