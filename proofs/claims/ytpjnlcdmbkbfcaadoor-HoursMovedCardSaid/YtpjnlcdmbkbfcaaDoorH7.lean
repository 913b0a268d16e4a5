/- Walks of Length, moments, Exact, First on both sides. -/
import Derived.Test.YtpjnlcdmbkbfcaaDoorH6
namespace Go.Proofs.YtpjnlcdmbkbfcaaDoor
open Go.ChangeShapes Go.WideShapes Go.ChangeAt Go.RowKit Go.BigFrame

theorem ret_rat {a b c a' b' c' : Int} (h1 : a = a') (h2 : b = b') (h3 : c = c') : Ending.returned (.tuple #[.agg #[.int .i64 a, .int .i64 b], .int .i64 c]) = .returned (.tuple #[.agg #[.int .i64 a', .int .i64 b'], .int .i64 c']) := by rw [h1, h2, h3]

theorem Length_any (S : Sea) (vd vr vs : Value) (day : Int) (nt : Bool) (w : World) (hI : SeaIn w vd vr vs S) :
    Calls Tryd.prog 24 #[.agg #[.int .i64 S.L, vd, vr, vs], .int .i64 day, .bool nt] w fun e w' => e = .returned (.tuple #[.agg #[.int .i64 (gd S (inB day 0 11000) (low1 (las S day nt) 12)), .int .i64 (gd S (inB day 0 11000) (low2 (las S day nt) 12))], .int .i64 (askE S (inB day 0 11000))]) ∧ Below w.heap.size w w' := by
  have hI1 := ((hI.alloc (seaO S vd vr vs)).alloc raO).alloc (Obj.cells #[.int .i64 day] 3)
  rcases askE_cases S (inB day 0 11000) with ⟨hv, ha, he⟩ | ⟨c, he, hc, hn⟩
  · have hE := Lib.hid (gd_ok (b := inB day 0 11000) (low1 (las S day nt) 12) hv ha)
    have hE2 := Lib.hid (gd_ok (b := inB day 0 11000) (low2 (las S day nt) 12) hv ha)
    obtain ⟨d1, d2⟩ := inB_t ha
    have lb := las_bd hv day nt
    have LE := las_eq S day nt
    have sa := spanA_bd hv day nt
    have sb := spanB_bd hv day nt
    have HV := Lib.hid hv
    clear hv ha
    go_enter Tryd.func24, Tryd.ntmps24
    go_wp2_with fail
    refine (asked1c S _ _ _ _ _ day _ 0 he hI1 (by simp) (by simp [go_sem])).mono ?_
    rintro e w1 ⟨rfl, hb1⟩
    obtain ⟨hc1, hf1⟩ := bcell hb1
    go_wp2_with fail
    refine (span_any S _ _ _ day nt _ HV.out (hI1.below hb1) (by omega) (by omega)).mono ?_
    rintro e w2 ⟨rfl, hb2⟩
    replace hb2 := bthen hb1 hb2
    obtain ⟨hc2, hf2⟩ := bcell hb2
    go_wp2_with fail
    refine (lowest_any (las S day nt) 12 _ (by omega) (by omega) (by omega) (by omega)).mono ?_
    rintro e w3 ⟨rfl, hb3⟩
    replace hb3 := bthen hb2 hb3
    obtain ⟨hc3, hf3⟩ := bcell hb3
    go_wp2_with fail
    refine bodyPost_ret (v := .tuple #[.agg #[.int .i64 (low1 (las S day nt) 12), .int .i64 (low2 (las S day nt) 12)], .int .i64 0]) (by simp [results, Tryd.results24, go_sem, hc3]) rfl ⟨ret_rat hE.out.symm hE2.out.symm he.symm, ?_⟩
    exact (by repeat (first | exact Below.refl _ _ | assumption | refine bthen ?_ (by assumption) | refine Below.alloc ?_ (by first | exact Nat.le_refl _ | (simp; done) | (simp; omega) | omega) _ | refine Below.setCell ?_ (by first | exact Nat.le_refl _ | (simp; done) | (simp; omega) | omega) _ | refine below_drewN ?_ _ | refine Below.drew ?_))
  · have hE := Lib.hid (gd_bad (low1 (las S day nt) 12) hn)
    have hE2 := Lib.hid (gd_bad (low2 (las S day nt) 12) hn)
    clear hn
    go_enter Tryd.func24, Tryd.ntmps24
    go_wp2_with fail
    refine (asked1c S _ _ _ _ _ day _ c he hI1 (by simp) (by simp [go_sem])).mono ?_
    rintro e w1 ⟨rfl, hb1⟩
    obtain ⟨hc1, hf1⟩ := bcell hb1
    go_wp2_with fail
    refine bodyPost_ret (v := .tuple #[.agg #[.int .i64 0, .int .i64 0], .int .i64 c]) (by simp [results, Tryd.results24, go_sem, hc1]) rfl ⟨ret_rat hE.out.symm hE2.out.symm he.symm, ?_⟩
    exact (by repeat (first | exact Below.refl _ _ | assumption | refine bthen ?_ (by assumption) | refine Below.alloc ?_ (by first | exact Nat.le_refl _ | (simp; done) | (simp; omega) | omega) _ | refine Below.setCell ?_ (by first | exact Nat.le_refl _ | (simp; done) | (simp; omega) | omega) _ | refine below_drewN ?_ _ | refine Below.drew ?_))
theorem rLength_any (S : Sea) (vd vr vs : Value) (day : Int) (nt : Bool) (w : World) (hI : SeaIn w vd vr vs S) :
    Calls Tryd.prog 25 #[.agg #[.int .i64 S.L, vd, vr, vs], .int .i64 day, .bool nt] w fun e w' => e = .returned (.tuple #[.agg #[.int .i64 (gd S (inB day 0 11000) (low1 (las S day nt) 12)), .int .i64 (gd S (inB day 0 11000) (low2 (las S day nt) 12))], .int .i64 (askE S (inB day 0 11000))]) ∧ Below w.heap.size w w' := by
  have hI1 := (hI.alloc (seaO S vd vr vs)).alloc raO
  rcases askE_cases S (inB day 0 11000) with ⟨hv, ha, he⟩ | ⟨c, he, hc, hn⟩
  · have hE := Lib.hid (gd_ok (b := inB day 0 11000) (low1 (las S day nt) 12) hv ha)
    have hE2 := Lib.hid (gd_ok (b := inB day 0 11000) (low2 (las S day nt) 12) hv ha)
    obtain ⟨d1, d2⟩ := inB_t ha
    have lb := las_bd hv day nt
    have LE := las_eq S day nt
    have sa := spanA_bd hv day nt
    have sb := spanB_bd hv day nt
    have HV := Lib.hid hv
    clear hv ha
    go_enter Tryd.func25, Tryd.ntmps25
    go_wp2_with fail
    refine (rready0c S _ _ _ day _ 0 he hI1).mono ?_
    rintro e w1 ⟨rfl, hb1⟩
    obtain ⟨hc1, hf1⟩ := bcell hb1
    go_wp2_with fail
    refine (rlasts_any S _ _ _ day nt _ HV.out (hI1.below hb1) (by omega) (by omega)).mono ?_
    rintro e w2 ⟨rfl, hb2⟩
    replace hb2 := bthen hb1 hb2
    obtain ⟨hc2, hf2⟩ := bcell hb2
    go_wp2_with fail
    refine (rlowest_any (las S day nt) 12 _ (by omega) (by omega) (by omega) (by omega)).mono ?_
    rintro e w3 ⟨rfl, hb3⟩
    replace hb3 := bthen hb2 hb3
    obtain ⟨hc3, hf3⟩ := bcell hb3
    go_wp2_with fail
    refine bodyPost_ret (v := .tuple #[.agg #[.int .i64 (low1 (las S day nt) 12), .int .i64 (low2 (las S day nt) 12)], .int .i64 0]) (by simp [results, Tryd.results25, go_sem, hc3]) rfl ⟨ret_rat hE.out.symm hE2.out.symm he.symm, ?_⟩
    exact (by repeat (first | exact Below.refl _ _ | assumption | refine bthen ?_ (by assumption) | refine Below.alloc ?_ (by first | exact Nat.le_refl _ | (simp; done) | (simp; omega) | omega) _ | refine Below.setCell ?_ (by first | exact Nat.le_refl _ | (simp; done) | (simp; omega) | omega) _ | refine below_drewN ?_ _ | refine Below.drew ?_))
  · have hE := Lib.hid (gd_bad (low1 (las S day nt) 12) hn)
    have hE2 := Lib.hid (gd_bad (low2 (las S day nt) 12) hn)
    clear hn
    go_enter Tryd.func25, Tryd.ntmps25
    go_wp2_with fail
    refine (rready0c S _ _ _ day _ c he hI1).mono ?_
    rintro e w1 ⟨rfl, hb1⟩
    obtain ⟨hc1, hf1⟩ := bcell hb1
    go_wp2_with fail
    refine bodyPost_ret (v := .tuple #[.agg #[.int .i64 0, .int .i64 0], .int .i64 c]) (by simp [results, Tryd.results25, go_sem, hc1]) rfl ⟨ret_rat hE.out.symm hE2.out.symm he.symm, ?_⟩
    exact (by repeat (first | exact Below.refl _ _ | assumption | refine bthen ?_ (by assumption) | refine Below.alloc ?_ (by first | exact Nat.le_refl _ | (simp; done) | (simp; omega) | omega) _ | refine Below.setCell ?_ (by first | exact Nat.le_refl _ | (simp; done) | (simp; omega) | omega) _ | refine below_drewN ?_ _ | refine Below.drew ?_))

set_option maxHeartbeats 400000 in
theorem moment_any (S : Sea) (vd vr vs : Value) (day : Int) (nt : Bool) (h p : Int) (w : World) (hv : vld S = true) (hI : SeaIn w vd vr vs S) (d1 : 0 ≤ day) (d2 : day ≤ 90000) (hk : okH h p = true) :
    Calls Tryd.prog 85 #[.agg #[.int .i64 S.L, vd, vr, vs], .int .i64 day, .agg #[.bool nt, .int .i64 h, .int .i64 p]] w fun e w' => e = .returned (.int .i64 (mom S day nt h p)) ∧ Below w.heap.size w w' := by
  obtain ⟨⟨h1, h2⟩, p1, p2⟩ := okH_bd hk
  have lb := las_bd hv day nt
  have sa := spanA_bd hv day nt
  have sb := spanB_bd hv day nt
  have mb := lm_bd hv day nt (k := 60 * h + p) (by omega) (by omega)
  have HV := Lib.hid hv
  have HM := Lib.hid (show spanA S day nt * 720 + las S day nt * (60 * h + p) = mom S day nt h p from rfl)
  clear hv hk
  have hI1 := (hI.alloc (seaO S vd vr vs)).alloc (hrO nt h p)
  have LE := las_eq S day nt
  go_enter Tryd.func85, Tryd.ntmps85
  go_wp2_with fail
  refine (span_any S _ _ _ day nt _ HV.out hI1 (by omega) (by omega)).mono ?_
  rintro e w1 ⟨rfl, hb1⟩
  obtain ⟨hc1, hf1⟩ := bcell hb1
  go_wp2_with fail
  go_ret
  exact ⟨ret_int HM.out, (by repeat (first | exact Below.refl _ _ | assumption | refine bthen ?_ (by assumption) | refine Below.alloc ?_ (by first | exact Nat.le_refl _ | (simp; done) | (simp; omega) | omega) _ | refine Below.setCell ?_ (by first | exact Nat.le_refl _ | (simp; done) | (simp; omega) | omega) _ | refine below_drewN ?_ _ | refine Below.drew ?_))⟩
theorem spanA_if (S : Sea) (day : Int) (nt : Bool) : spanA S day nt = if nt then day * 1440 + lnS S day else day * 1440 + lnR S day := rfl
set_option maxHeartbeats 400000 in
theorem rMoment_any (S : Sea) (vd vr vs : Value) (day : Int) (nt : Bool) (h p : Int) (w : World) (hv : vld S = true) (hI : SeaIn w vd vr vs S) (d1 : 0 ≤ day) (d2 : day ≤ 90000) (hk : okH h p = true) :
    Calls Tryd.prog 86 #[.agg #[.int .i64 S.L, vd, vr, vs], .int .i64 day, .agg #[.bool nt, .int .i64 h, .int .i64 p]] w fun e w' => e = .returned (.int .i64 (mom S day nt h p)) ∧ Below w.heap.size w w' := by
  have b1 := lnR_bd hv day
  have b2 := lnS_bd hv day
  obtain ⟨⟨h1, h2⟩, p1, p2⟩ := okH_bd hk
  have lb := las_bd hv day nt
  have sa := spanA_bd hv day nt
  have sb := spanB_bd hv day nt
  have mb := lm_bd hv day nt (k := 60 * h + p) (by omega) (by omega)
  have HV := Lib.hid hv
  have HM := Lib.hid (show spanA S day nt * 720 + las S day nt * (60 * h + p) = mom S day nt h p from rfl)
  clear hv hk
  have hI1 := (hI.alloc (seaO S vd vr vs)).alloc (hrO nt h p)
  cases nt
  · have SA : day * 1440 + lnR S day = spanA S day false := by simp [spanA]
    go_enter Tryd.func86, Tryd.ntmps86
    go_wp2_with fail
    refine (rrise_any S _ _ _ day _ HV.out hI1 (by omega) (by omega)).mono ?_
    rintro e w1 ⟨rfl, hb1⟩
    obtain ⟨hc1, hf1⟩ := bcell hb1
    go_wp2_with fail
    have mc := fun (i : More w1) => (bcell (bthen hb1 i.h)).1
    have cl : ∀ i : More w1, _ := fun i => more_call (rlasts_any S vd vr vs day false _ HV.out ((hI1.below hb1).below i.h) (by omega) (by omega))
    have CL := Lib.hid cl; clear cl
    refine wp_region_more (by kernel_rfl) (by kernel_rfl) ?_
    iterate 8 (try (first | go_big_quiet_step (with_reducible exact CL.out _) | quiet_step (with_reducible exact CL.out _)))
    iterate 8 (try (first | go_big_quiet_step (with_reducible exact CL.out _) | quiet_step (with_reducible exact CL.out _)))
    iterate 8 (try (first | go_big_quiet_step (with_reducible exact CL.out _) | quiet_step (with_reducible exact CL.out _)))
    iterate 8 (try (first | go_big_quiet_step (with_reducible exact CL.out _) | quiet_step (with_reducible exact CL.out _)))
    iterate 8 (try (first | go_big_quiet_step (with_reducible exact CL.out _) | quiet_step (with_reducible exact CL.out _)))
    refine wpQuiet_nil ?_
    rintro ⟨wm, hbm⟩
    dsimp only
    go_wp2_with fail
    go_ret
    exact ⟨ret_int HM.out, (by repeat (first | exact Below.refl _ _ | assumption | refine bthen ?_ (by assumption) | refine Below.alloc ?_ (by first | exact Nat.le_refl _ | (simp; done) | (simp; omega) | omega) _ | refine Below.setCell ?_ (by first | exact Nat.le_refl _ | (simp; done) | (simp; omega) | omega) _ | refine below_drewN ?_ _ | refine Below.drew ?_))⟩
  · have SA : day * 1440 + lnS S day = spanA S day true := by simp [spanA]
    go_enter Tryd.func86, Tryd.ntmps86
    go_wp2_with fail
    refine (rrise_any S _ _ _ day _ HV.out hI1 (by omega) (by omega)).mono ?_
    rintro e w1 ⟨rfl, hb1⟩
    obtain ⟨hc1, hf1⟩ := bcell hb1
    go_wp2_with fail
    refine (rset_any S _ _ _ day _ HV.out (hI1.below hb1) (by omega) (by omega)).mono ?_
    rintro e w2 ⟨rfl, hb2⟩
    replace hb2 := bthen hb1 hb2
    obtain ⟨hc2, hf2⟩ := bcell hb2
    go_wp2_with fail
    have mc := fun (i : More w2) => (bcell (bthen hb2 i.h)).1
    have cl : ∀ i : More w2, _ := fun i => more_call (rlasts_any S vd vr vs day true _ HV.out ((hI1.below hb2).below i.h) (by omega) (by omega))
    have CL := Lib.hid cl; clear cl
    refine wp_region_more (by kernel_rfl) (by kernel_rfl) ?_
    iterate 8 (try (first | go_big_quiet_step (with_reducible exact CL.out _) | quiet_step (with_reducible exact CL.out _)))
    iterate 8 (try (first | go_big_quiet_step (with_reducible exact CL.out _) | quiet_step (with_reducible exact CL.out _)))
    iterate 8 (try (first | go_big_quiet_step (with_reducible exact CL.out _) | quiet_step (with_reducible exact CL.out _)))
    iterate 8 (try (first | go_big_quiet_step (with_reducible exact CL.out _) | quiet_step (with_reducible exact CL.out _)))
    iterate 8 (try (first | go_big_quiet_step (with_reducible exact CL.out _) | quiet_step (with_reducible exact CL.out _)))
    refine wpQuiet_nil ?_
    rintro ⟨wm, hbm⟩
    dsimp only
    go_wp2_with fail
    go_ret
    exact ⟨ret_int HM.out, (by repeat (first | exact Below.refl _ _ | assumption | refine bthen ?_ (by assumption) | refine Below.alloc ?_ (by first | exact Nat.le_refl _ | (simp; done) | (simp; omega) | omega) _ | refine Below.setCell ?_ (by first | exact Nat.le_refl _ | (simp; done) | (simp; omega) | omega) _ | refine below_drewN ?_ _ | refine Below.drew ?_))⟩
end Go.Proofs.YtpjnlcdmbkbfcaaDoor
