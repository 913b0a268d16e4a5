/- Walks of Told on both sides. -/
import Derived.Test.YtpjnlcdmbkbfcaaDoorH9
namespace Go.Proofs.YtpjnlcdmbkbfcaaDoor
open Go.ChangeShapes Go.WideShapes Go.ChangeAt Go.RowKit Go.BigFrame

def tlE (S : Sea) (m : Int) : Int := if vld S then (if inB m 0 15840000 then (if tD S m < 0 then 4 else 0) else 1) else 50
def tlG (S : Sea) (m : Int) : Bool := vld S && inB m 0 15840000 && decide (0 ≤ tD S m)
abbrev TlPost (S : Sea) (m : Int) (w : World) (e : Ending) (w' : World) : Prop :=
  e = .returned (.tuple #[.int .i64 (gv (tlG S m) (tD S m)), .agg #[.bool (tlG S m && tN S m), .int .i64 (gv (tlG S m) (tP S m / 60)), .int .i64 (gv (tlG S m) (tP S m % 60))], .int .i64 (tlE S m)]) ∧ Below w.heap.size w w'
theorem tl_a {S : Sea} {m : Int} (h : m < spanA S (m / 1440) false) : tD S m = m / 1440 - 1 ∧ tN S m = true := by simp [tD, tN, h]
theorem tl_b {S : Sea} {m : Int} (h : spanA S (m / 1440) false ≤ m) (h2 : m < spanB S (m / 1440) false) : tD S m = m / 1440 ∧ tN S m = false := by
  simp [tD, tN, show ¬ m < spanA S (m / 1440) false by omega]; omega
theorem tl_c {S : Sea} {m : Int} (h : spanA S (m / 1440) false ≤ m) (h2 : spanB S (m / 1440) false ≤ m) : tD S m = m / 1440 ∧ tN S m = true := by
  simp [tD, tN, show ¬ m < spanA S (m / 1440) false by omega, h2]

set_option maxHeartbeats 1000000 in
theorem Told_any (S : Sea) (vd vr vs : Value) (m : Int) (w : World) (hI : SeaIn w vd vr vs S) :
    Calls Tryd.prog 48 #[.agg #[.int .i64 S.L, vd, vr, vs], .int .i64 m] w fun e w' => TlPost S m w e w' := by
  have hI1 := (hI.alloc (seaO S vd vr vs)).alloc (hrO false 0 0)
  rcases bool_ft (vld S) with hv | hv
  · have HE := Lib.hid (show tlE S m = 50 by simp [tlE, hv])
    have HG := Lib.hid (show tlG S m = false by simp [tlG, hv])
    have hc := chk_no hv
    clear hv
    go_enter Tryd.func48, Tryd.ntmps48
    go_wp2_with fail
    refine (Check_any S _ _ _ _ hI1.d hI1.r hI1.s).mono ?_
    rintro e w1 ⟨rfl, hb1⟩
    rw [hc]
    obtain ⟨hc1, hf1⟩ := bcell hb1
    go_wp2_with fail
    refine bodyPost_ret (v := .tuple #[.int .i64 0, .agg #[.bool false, .int .i64 0, .int .i64 0], .int .i64 50]) (by simp [results, Tryd.results48, go_sem, hc1]) rfl ⟨ret_hr (by rw [HG.out]; rfl) (by rw [HG.out]; rfl) (by rw [HG.out]; rfl) (by rw [HG.out]; rfl) HE.out.symm, ?_⟩
    exact (by repeat (first | exact Below.refl _ _ | assumption | refine bthen ?_ (by assumption) | refine Below.alloc ?_ (by first | exact Nat.le_refl _ | (simp; done) | (simp; omega) | omega) _ | refine Below.setCell ?_ (by first | exact Nat.le_refl _ | (simp; done) | (simp; omega) | omega) _ | refine below_drewN ?_ _ | refine Below.drew ?_))
  rcases bool_ft (inB m 0 15840000) with hm | hm
  · have HE := Lib.hid (show tlE S m = 1 by simp [tlE, hv, hm])
    have HG := Lib.hid (show tlG S m = false by simp [tlG, hm])
    have hc := chk_ok hv
    clear hv
    go_enter Tryd.func48, Tryd.ntmps48
    go_wp2_with fail
    refine (Check_any S _ _ _ _ hI1.d hI1.r hI1.s).mono ?_
    rintro e w1 ⟨rfl, hb1⟩
    rw [hc]
    obtain ⟨hc1, hf1⟩ := bcell hb1
    go_wp2_with fail
    refine (within_any m 0 15840000 _).mono ?_
    rintro e w2 ⟨rfl, rfl⟩
    rw [hm]
    go_wp2_with fail
    refine bodyPost_ret (v := .tuple #[.int .i64 0, .agg #[.bool false, .int .i64 0, .int .i64 0], .int .i64 1]) (by simp [results, Tryd.results48, go_sem, hc1]) rfl ⟨ret_hr (by rw [HG.out]; rfl) (by rw [HG.out]; rfl) (by rw [HG.out]; rfl) (by rw [HG.out]; rfl) HE.out.symm, ?_⟩
    exact (by repeat (first | exact Below.refl _ _ | assumption | refine bthen ?_ (by assumption) | refine Below.alloc ?_ (by first | exact Nat.le_refl _ | (simp; done) | (simp; omega) | omega) _ | refine Below.setCell ?_ (by first | exact Nat.le_refl _ | (simp; done) | (simp; omega) | omega) _ | refine below_drewN ?_ _ | refine Below.drew ?_))
  obtain ⟨m1, m2⟩ := inB_t hm
  have hc := chk_ok hv
  have sa := spanA_bd hv (m / 1440) false
  have sb := spanB_bd hv (m / 1440) false
  rcases Int.lt_or_le m (spanA S (m / 1440) false) with h1 | h1
  · obtain ⟨q1, q2⟩ := tl_a h1
    have hne : m < spanB S (m / 1440) false := by have := las_eq S (m / 1440) false; have := las_bd hv (m / 1440) false; omega
    rcases Int.lt_or_le (m / 1440 - 1) 0 with h2 | h2
    · have HE := Lib.hid (show tlE S m = 4 by simp [tlE, hv, hm, q1, h2])
      have HG := Lib.hid (show tlG S m = false by simp [tlG, q1]; intros; omega)
      have HV := Lib.hid hv
      clear q1 q2 hv
      go_enter Tryd.func48, Tryd.ntmps48
      go_wp2_with fail
      refine (Check_any S _ _ _ _ hI1.d hI1.r hI1.s).mono ?_
      rintro e w1 ⟨rfl, hb1⟩
      rw [hc]
      obtain ⟨hc1, hf1⟩ := bcell hb1
      go_wp2_with fail
      refine (within_any m 0 15840000 _).mono ?_
      rintro e w2 ⟨rfl, rfl⟩
      rw [hm]
      go_wp2_with fail
      refine (span_any S _ _ _ (m / 1440) false _ HV.out (hI1.below hb1) (by omega) (by omega)).mono ?_
      rintro e w2 ⟨rfl, hb2⟩
      replace hb2 := bthen hb1 hb2
      obtain ⟨hc2, hf2⟩ := bcell hb2
      go_wp2_with fail
      refine bodyPost_ret (v := .tuple #[.int .i64 0, .agg #[.bool false, .int .i64 0, .int .i64 0], .int .i64 4]) (by simp [results, Tryd.results48, go_sem, hc2]) rfl ⟨ret_hr (by rw [HG.out]; rfl) (by rw [HG.out]; rfl) (by rw [HG.out]; rfl) (by rw [HG.out]; rfl) HE.out.symm, ?_⟩
      exact (by repeat (first | exact Below.refl _ _ | assumption | refine bthen ?_ (by assumption) | refine Below.alloc ?_ (by first | exact Nat.le_refl _ | (simp; done) | (simp; omega) | omega) _ | refine Below.setCell ?_ (by first | exact Nat.le_refl _ | (simp; done) | (simp; omega) | omega) _ | refine below_drewN ?_ _ | refine Below.drew ?_))
    · have HE := Lib.hid (show tlE S m = 0 by simp [tlE, hv, hm, q1]; omega)
      have HG := Lib.hid (show tlG S m = true by simp [tlG, hv, hm, q1]; omega)
      have hin := t_in hv m
      have hpb := tP_bd hv m
      rw [q1, q2] at hin
      have hP : tP S m = (m - spanA S (m / 1440 - 1) true) * 720 / las S (m / 1440 - 1) true := by rw [tP, q1, q2]
      rw [hP] at hpb
      have Q1 := Lib.hid q1
      have Q2 := Lib.hid q2
      have HP := Lib.hid hP
      have LE := las_eq S (m / 1440 - 1) true
      have lb := las_bd hv (m / 1440 - 1) true
      have HV := Lib.hid hv
      clear q1 q2 hP hv
      go_enter Tryd.func48, Tryd.ntmps48
      go_wp2_with fail
      refine (Check_any S _ _ _ _ hI1.d hI1.r hI1.s).mono ?_
      rintro e w1 ⟨rfl, hb1⟩
      rw [hc]
      obtain ⟨hc1, hf1⟩ := bcell hb1
      go_wp2_with fail
      refine (within_any m 0 15840000 _).mono ?_
      rintro e w2 ⟨rfl, rfl⟩
      rw [hm]
      go_wp2_with fail
      refine (span_any S _ _ _ (m / 1440) false _ HV.out (hI1.below hb1) (by omega) (by omega)).mono ?_
      rintro e w2 ⟨rfl, hb2⟩
      replace hb2 := bthen hb1 hb2
      obtain ⟨hc2, hf2⟩ := bcell hb2
      go_wp2_with fail
      refine (span_any S _ _ _ (m / 1440 - 1) true _ HV.out (hI1.below hb2) (by omega) (by omega)).mono ?_
      rintro e w3 ⟨rfl, hb3⟩
      replace hb3 := bthen hb2 hb3
      obtain ⟨hc3, hf3⟩ := bcell hb3
      go_wp2_with fail
      refine bodyPost_ret (v := .tuple #[.int .i64 (m / 1440 - 1), .agg #[.bool true, .int .i64 ((m - spanA S (m / 1440 - 1) true) * 720 / las S (m / 1440 - 1) true / 60), .int .i64 ((m - spanA S (m / 1440 - 1) true) * 720 / las S (m / 1440 - 1) true % 60)], .int .i64 0]) (by simp [results, Tryd.results48, go_sem, hc3]) rfl ⟨ret_hr (by rw [HG.out, gv_t, Q1.out]) (by rw [HG.out, Q2.out]; rfl) (by rw [HG.out, gv_t, HP.out]) (by rw [HG.out, gv_t, HP.out]) HE.out.symm, ?_⟩
      exact (by repeat (first | exact Below.refl _ _ | assumption | refine bthen ?_ (by assumption) | refine Below.alloc ?_ (by first | exact Nat.le_refl _ | (simp; done) | (simp; omega) | omega) _ | refine Below.setCell ?_ (by first | exact Nat.le_refl _ | (simp; done) | (simp; omega) | omega) _ | refine below_drewN ?_ _ | refine Below.drew ?_))
  · rcases Int.lt_or_le m (spanB S (m / 1440) false) with h2 | h2
    · obtain ⟨q1, q2⟩ := tl_b h1 h2
      have hnd : decide (spanB S (m / 1440) false ≤ m) = false := decide_eq_false (by omega)
      have HE := Lib.hid (show tlE S m = 0 by simp [tlE, hv, hm, q1]; omega)
      have HG := Lib.hid (show tlG S m = true by simp [tlG, hv, hm, q1]; omega)
      have hin := t_in hv m
      have hpb := tP_bd hv m
      rw [q1, q2] at hin
      have hP : tP S m = (m - spanA S (m / 1440) false) * 720 / las S (m / 1440) false := by rw [tP, q1, q2]
      rw [hP] at hpb
      have Q1 := Lib.hid q1
      have Q2 := Lib.hid q2
      have HP := Lib.hid hP
      have LE := las_eq S (m / 1440) false
      have lb := las_bd hv (m / 1440) false
      have HV := Lib.hid hv
      clear q1 q2 hP hv
      go_enter Tryd.func48, Tryd.ntmps48
      go_wp2_with fail
      refine (Check_any S _ _ _ _ hI1.d hI1.r hI1.s).mono ?_
      rintro e w1 ⟨rfl, hb1⟩
      rw [hc]
      obtain ⟨hc1, hf1⟩ := bcell hb1
      go_wp2_with fail
      refine (within_any m 0 15840000 _).mono ?_
      rintro e w2 ⟨rfl, rfl⟩
      rw [hm]
      go_wp2_with fail
      refine (span_any S _ _ _ (m / 1440) false _ HV.out (hI1.below hb1) (by omega) (by omega)).mono ?_
      rintro e w2 ⟨rfl, hb2⟩
      replace hb2 := bthen hb1 hb2
      obtain ⟨hc2, hf2⟩ := bcell hb2
      go_wp2_with fail
      refine (span_any S _ _ _ (m / 1440) false _ HV.out (hI1.below hb2) (by omega) (by omega)).mono ?_
      rintro e w3 ⟨rfl, hb3⟩
      replace hb3 := bthen hb2 hb3
      obtain ⟨hc3, hf3⟩ := bcell hb3
      go_wp2_with fail
      refine bodyPost_ret (v := .tuple #[.int .i64 (m / 1440), .agg #[.bool false, .int .i64 ((m - spanA S (m / 1440) false) * 720 / las S (m / 1440) false / 60), .int .i64 ((m - spanA S (m / 1440) false) * 720 / las S (m / 1440) false % 60)], .int .i64 0]) (by simp [results, Tryd.results48, go_sem, hc3]) rfl ⟨ret_hr (by rw [HG.out, gv_t, Q1.out]) (by rw [HG.out, Q2.out]; rfl) (by rw [HG.out, gv_t, HP.out]) (by rw [HG.out, gv_t, HP.out]) HE.out.symm, ?_⟩
      exact (by repeat (first | exact Below.refl _ _ | assumption | refine bthen ?_ (by assumption) | refine Below.alloc ?_ (by first | exact Nat.le_refl _ | (simp; done) | (simp; omega) | omega) _ | refine Below.setCell ?_ (by first | exact Nat.le_refl _ | (simp; done) | (simp; omega) | omega) _ | refine below_drewN ?_ _ | refine Below.drew ?_))
    · obtain ⟨q1, q2⟩ := tl_c h1 h2
      have HE := Lib.hid (show tlE S m = 0 by simp [tlE, hv, hm, q1]; omega)
      have HG := Lib.hid (show tlG S m = true by simp [tlG, hv, hm, q1]; omega)
      have hin := t_in hv m
      have hpb := tP_bd hv m
      rw [q1, q2] at hin
      have hP : tP S m = (m - spanA S (m / 1440) true) * 720 / las S (m / 1440) true := by rw [tP, q1, q2]
      rw [hP] at hpb
      have Q1 := Lib.hid q1
      have Q2 := Lib.hid q2
      have HP := Lib.hid hP
      have LE := las_eq S (m / 1440) true
      have lb := las_bd hv (m / 1440) true
      have HV := Lib.hid hv
      clear q1 q2 hP hv
      go_enter Tryd.func48, Tryd.ntmps48
      go_wp2_with fail
      refine (Check_any S _ _ _ _ hI1.d hI1.r hI1.s).mono ?_
      rintro e w1 ⟨rfl, hb1⟩
      rw [hc]
      obtain ⟨hc1, hf1⟩ := bcell hb1
      go_wp2_with fail
      refine (within_any m 0 15840000 _).mono ?_
      rintro e w2 ⟨rfl, rfl⟩
      rw [hm]
      go_wp2_with fail
      refine (span_any S _ _ _ (m / 1440) false _ HV.out (hI1.below hb1) (by omega) (by omega)).mono ?_
      rintro e w2 ⟨rfl, hb2⟩
      replace hb2 := bthen hb1 hb2
      obtain ⟨hc2, hf2⟩ := bcell hb2
      go_wp2_with fail
      refine (span_any S _ _ _ (m / 1440) true _ HV.out (hI1.below hb2) (by omega) (by omega)).mono ?_
      rintro e w3 ⟨rfl, hb3⟩
      replace hb3 := bthen hb2 hb3
      obtain ⟨hc3, hf3⟩ := bcell hb3
      go_wp2_with fail
      refine bodyPost_ret (v := .tuple #[.int .i64 (m / 1440), .agg #[.bool true, .int .i64 ((m - spanA S (m / 1440) true) * 720 / las S (m / 1440) true / 60), .int .i64 ((m - spanA S (m / 1440) true) * 720 / las S (m / 1440) true % 60)], .int .i64 0]) (by simp [results, Tryd.results48, go_sem, hc3]) rfl ⟨ret_hr (by rw [HG.out, gv_t, Q1.out]) (by rw [HG.out, Q2.out]; rfl) (by rw [HG.out, gv_t, HP.out]) (by rw [HG.out, gv_t, HP.out]) HE.out.symm, ?_⟩
      exact (by repeat (first | exact Below.refl _ _ | assumption | refine bthen ?_ (by assumption) | refine Below.alloc ?_ (by first | exact Nat.le_refl _ | (simp; done) | (simp; omega) | omega) _ | refine Below.setCell ?_ (by first | exact Nat.le_refl _ | (simp; done) | (simp; omega) | omega) _ | refine below_drewN ?_ _ | refine Below.drew ?_))
end Go.Proofs.YtpjnlcdmbkbfcaaDoor
