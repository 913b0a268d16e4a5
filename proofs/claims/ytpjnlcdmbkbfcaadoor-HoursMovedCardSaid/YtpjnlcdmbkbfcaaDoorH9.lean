/- Walks of Passed and Later on both sides. -/
import Derived.Test.YtpjnlcdmbkbfcaaDoorH8
namespace Go.Proofs.YtpjnlcdmbkbfcaaDoor
open Go.ChangeShapes Go.WideShapes Go.ChangeAt Go.RowKit Go.BigFrame
def gv (g : Bool) (x : Int) : Int := if g then x else 0
theorem gv_t (x : Int) : gv true x = x := rfl
theorem gv_f (x : Int) : gv false x = 0 := rfl
/-- The error of a question about two hours. -/
def pasE (S : Sea) (b1 b2 : Bool) (n : Int) : Int := if (askE S b1 != 0) = true then askE S b1 else if (askE S b2 != 0) = true then askE S b2 else if n < 0 then 4 else 0
def pasG (S : Sea) (b1 b2 : Bool) (n : Int) : Bool := vld S && b1 && (vld S && b2) && decide (0 ≤ n)

set_option maxHeartbeats 1000000 in
theorem Passed_any (S : Sea) (vd vr vs : Value) (day : Int) (nt : Bool) (h p : Int) (day2 : Int) (nt2 : Bool) (h2 p2 : Int) (w : World) (hI : SeaIn w vd vr vs S) :
    Calls Tryd.prog 30 #[.agg #[.int .i64 S.L, vd, vr, vs], .int .i64 day, .agg #[.bool nt, .int .i64 h, .int .i64 p], .int .i64 day2, .agg #[.bool nt2, .int .i64 h2, .int .i64 p2]] w fun e w' =>
      e = .returned (.tuple #[.agg #[.int .i64 (gv (pasG S (inB day 0 11000 && okH h p) (inB day2 0 11000 && okH h2 p2) (mom S day2 nt2 h2 p2 - mom S day nt h p)) ((mom S day2 nt2 h2 p2 - mom S day nt h p) / 720)), .int .i64 (gv (pasG S (inB day 0 11000 && okH h p) (inB day2 0 11000 && okH h2 p2) (mom S day2 nt2 h2 p2 - mom S day nt h p)) ((mom S day2 nt2 h2 p2 - mom S day nt h p + 719) / 720))], .int .i64 (pasE S (inB day 0 11000 && okH h p) (inB day2 0 11000 && okH h2 p2) (mom S day2 nt2 h2 p2 - mom S day nt h p))]) ∧ Below w.heap.size w w' := by
  have hI1 := (((hI.alloc (seaO S vd vr vs)).alloc (hrO nt h p)).alloc (hrO nt2 h2 p2)).alloc (Obj.cells #[.int .i64 0, .int .i64 0] 41)
  rcases askE_cases S (inB day 0 11000 && okH h p) with ⟨hv, ha, he⟩ | ⟨c, he, hc, hn⟩
  · rcases askE_cases S (inB day2 0 11000 && okH h2 p2) with ⟨_, ha2, he2⟩ | ⟨c, he2, hc, hn⟩
    · obtain ⟨hd, hk⟩ := and_t ha
      obtain ⟨d1, d2⟩ := inB_t hd
      obtain ⟨⟨h1, h1'⟩, p1, p1'⟩ := okH_bd hk
      obtain ⟨hd2, hk2⟩ := and_t ha2
      obtain ⟨e1, e2⟩ := inB_t hd2
      obtain ⟨⟨i1, i1'⟩, q1, q1'⟩ := okH_bd hk2
      have mb := mom_bd hv d1 (by omega) nt h1 h1' p1 p1'
      have mb2 := mom_bd hv e1 (by omega) nt2 i1 i1' q1 q1'
      have HV := Lib.hid hv
      have HK := Lib.hid hk
      have HK2 := Lib.hid hk2
      have hG := Lib.hid (show pasG S (inB day 0 11000 && okH h p) (inB day2 0 11000 && okH h2 p2) (mom S day2 nt2 h2 p2 - mom S day nt h p) = decide (0 ≤ mom S day2 nt2 h2 p2 - mom S day nt h p) by rw [pasG, hv, ha, ha2]; rfl)
      have hE := Lib.hid (show pasE S (inB day 0 11000 && okH h p) (inB day2 0 11000 && okH h2 p2) (mom S day2 nt2 h2 p2 - mom S day nt h p) = if mom S day2 nt2 h2 p2 - mom S day nt h p < 0 then 4 else 0 by rw [pasE, he, he2]; rfl)
      clear hv ha ha2 hd hd2 hk hk2
      by_cases hlt : mom S day2 nt2 h2 p2 - mom S day nt h p < 0
      · have hE1 := hE.out
        rw [if_pos hlt] at hE1
        have hG1 := hG.out
        rw [decide_eq_false (by omega)] at hG1
        have HE := Lib.hid hE1
        have HG := Lib.hid hG1
        clear hE hG hE1 hG1
        go_enter Tryd.func30, Tryd.ntmps30
        go_wp2_with fail
        refine (asksc S _ _ _ day nt h p _ 0 he hI1).mono ?_
        rintro e w1 ⟨rfl, hb1⟩
        obtain ⟨hc1, hf1⟩ := bcell hb1
        go_wp2_with fail
        refine (asksc S _ _ _ day2 nt2 h2 p2 _ 0 he2 (hI1.below hb1)).mono ?_
        rintro e w2 ⟨rfl, hb2⟩
        replace hb2 := bthen hb1 hb2
        obtain ⟨hc2, hf2⟩ := bcell hb2
        go_wp2_with fail
        have mc := fun (i : More w2) => (bcell (bthen hb2 i.h)).1
        have cl : ∀ i : More w2, _ := fun i => more_call (moment_any S vd vr vs day nt h p _ HV.out ((hI1.below hb2).below i.h) (by omega) (by omega) HK.out)
        have cm : ∀ i : More w2, _ := fun i => more_call (moment_any S vd vr vs day2 nt2 h2 p2 _ HV.out ((hI1.below hb2).below i.h) (by omega) (by omega) HK2.out)
        have CL := Lib.hid cl; clear cl
        have CM := Lib.hid cm; clear cm
        refine wp_region_more (by kernel_rfl) (by kernel_rfl) ?_
        iterate 8 (try (first | go_big_quiet_step ((first | with_reducible exact CM.out _ | with_reducible exact CL.out _)) | quiet_step ((first | with_reducible exact CM.out _ | with_reducible exact CL.out _))))
        iterate 8 (try (first | go_big_quiet_step ((first | with_reducible exact CM.out _ | with_reducible exact CL.out _)) | quiet_step ((first | with_reducible exact CM.out _ | with_reducible exact CL.out _))))
        iterate 8 (try (first | go_big_quiet_step ((first | with_reducible exact CM.out _ | with_reducible exact CL.out _)) | quiet_step ((first | with_reducible exact CM.out _ | with_reducible exact CL.out _))))
        iterate 8 (try (first | go_big_quiet_step ((first | with_reducible exact CM.out _ | with_reducible exact CL.out _)) | quiet_step ((first | with_reducible exact CM.out _ | with_reducible exact CL.out _))))
        iterate 8 (try (first | go_big_quiet_step ((first | with_reducible exact CM.out _ | with_reducible exact CL.out _)) | quiet_step ((first | with_reducible exact CM.out _ | with_reducible exact CL.out _))))
        refine wpQuiet_nil ?_
        rintro ⟨wm, hbm⟩
        dsimp only
        have hb3 := bthen hb2 hbm
        obtain ⟨hc3, hf3⟩ := bcell hb3
        go_wp2_with fail
        refine bodyPost_ret (v := .tuple #[.agg #[.int .i64 0, .int .i64 0], .int .i64 4]) (by simp [results, Tryd.results30, go_sem, hc3]) rfl ⟨ret_rat (by rw [HG.out]; rfl) (by rw [HG.out]; rfl) HE.out.symm, ?_⟩
        exact (by repeat (first | exact Below.refl _ _ | assumption | refine bthen ?_ (by assumption) | refine Below.alloc ?_ (by first | exact Nat.le_refl _ | (simp; done) | (simp; omega) | omega) _ | refine Below.setCell ?_ (by first | exact Nat.le_refl _ | (simp; done) | (simp; omega) | omega) _ | refine below_drewN ?_ _ | refine Below.drew ?_))
      · have hE1 := hE.out
        rw [if_neg hlt] at hE1
        have hG1 := hG.out
        rw [decide_eq_true (by omega)] at hG1
        have HE := Lib.hid hE1
        have HG := Lib.hid hG1
        clear hE hG hE1 hG1
        go_enter Tryd.func30, Tryd.ntmps30
        go_wp2_with fail
        refine (asksc S _ _ _ day nt h p _ 0 he hI1).mono ?_
        rintro e w1 ⟨rfl, hb1⟩
        obtain ⟨hc1, hf1⟩ := bcell hb1
        go_wp2_with fail
        refine (asksc S _ _ _ day2 nt2 h2 p2 _ 0 he2 (hI1.below hb1)).mono ?_
        rintro e w2 ⟨rfl, hb2⟩
        replace hb2 := bthen hb1 hb2
        obtain ⟨hc2, hf2⟩ := bcell hb2
        go_wp2_with fail
        have mc := fun (i : More w2) => (bcell (bthen hb2 i.h)).1
        have cl : ∀ i : More w2, _ := fun i => more_call (moment_any S vd vr vs day nt h p _ HV.out ((hI1.below hb2).below i.h) (by omega) (by omega) HK.out)
        have cm : ∀ i : More w2, _ := fun i => more_call (moment_any S vd vr vs day2 nt2 h2 p2 _ HV.out ((hI1.below hb2).below i.h) (by omega) (by omega) HK2.out)
        have CL := Lib.hid cl; clear cl
        have CM := Lib.hid cm; clear cm
        refine wp_region_more (by kernel_rfl) (by kernel_rfl) ?_
        iterate 8 (try (first | go_big_quiet_step ((first | with_reducible exact CM.out _ | with_reducible exact CL.out _)) | quiet_step ((first | with_reducible exact CM.out _ | with_reducible exact CL.out _))))
        iterate 8 (try (first | go_big_quiet_step ((first | with_reducible exact CM.out _ | with_reducible exact CL.out _)) | quiet_step ((first | with_reducible exact CM.out _ | with_reducible exact CL.out _))))
        iterate 8 (try (first | go_big_quiet_step ((first | with_reducible exact CM.out _ | with_reducible exact CL.out _)) | quiet_step ((first | with_reducible exact CM.out _ | with_reducible exact CL.out _))))
        iterate 8 (try (first | go_big_quiet_step ((first | with_reducible exact CM.out _ | with_reducible exact CL.out _)) | quiet_step ((first | with_reducible exact CM.out _ | with_reducible exact CL.out _))))
        iterate 8 (try (first | go_big_quiet_step ((first | with_reducible exact CM.out _ | with_reducible exact CL.out _)) | quiet_step ((first | with_reducible exact CM.out _ | with_reducible exact CL.out _))))
        refine wpQuiet_nil ?_
        rintro ⟨wm, hbm⟩
        dsimp only
        have hb3 := bthen hb2 hbm
        obtain ⟨hc3, hf3⟩ := bcell hb3
        go_wp2_with fail

        refine bodyPost_ret (v := .tuple #[.agg #[.int .i64 ((mom S day2 nt2 h2 p2 - mom S day nt h p) / 720), .int .i64 ((mom S day2 nt2 h2 p2 - mom S day nt h p + 720 - 1) / 720)], .int .i64 0]) (by simp [results, Tryd.results30, go_sem, hc3]) rfl ⟨ret_rat (by rw [HG.out]; rfl) (by rw [HG.out, gv_t]; try (congr 1; omega)) HE.out.symm, ?_⟩
        exact (by repeat (first | exact Below.refl _ _ | assumption | refine bthen ?_ (by assumption) | refine Below.alloc ?_ (by first | exact Nat.le_refl _ | (simp; done) | (simp; omega) | omega) _ | refine Below.setCell ?_ (by first | exact Nat.le_refl _ | (simp; done) | (simp; omega) | omega) _ | refine below_drewN ?_ _ | refine Below.drew ?_))
    · have hE := Lib.hid (show pasE S (inB day 0 11000 && okH h p) (inB day2 0 11000 && okH h2 p2) (mom S day2 nt2 h2 p2 - mom S day nt h p) = c by rw [pasE, he, he2, if_neg (by decide), if_pos hc])
      have hG := Lib.hid (show pasG S (inB day 0 11000 && okH h p) (inB day2 0 11000 && okH h2 p2) (mom S day2 nt2 h2 p2 - mom S day nt h p) = false by rw [pasG, hn]; simp)
      clear hn ha hv
      go_enter Tryd.func30, Tryd.ntmps30
      go_wp2_with fail
      refine (asksc S _ _ _ day nt h p _ 0 he hI1).mono ?_
      rintro e w1 ⟨rfl, hb1⟩
      obtain ⟨hc1, hf1⟩ := bcell hb1
      go_wp2_with fail
      refine (asksc S _ _ _ day2 nt2 h2 p2 _ c he2 (hI1.below hb1)).mono ?_
      rintro e w2 ⟨rfl, hb2⟩
      replace hb2 := bthen hb1 hb2
      obtain ⟨hc2, hf2⟩ := bcell hb2
      go_wp2_with fail
      refine bodyPost_ret (v := .tuple #[.agg #[.int .i64 0, .int .i64 0], .int .i64 c]) (by simp [results, Tryd.results30, go_sem, hc2]) rfl ⟨ret_rat (by rw [hG.out]; rfl) (by rw [hG.out]; rfl) hE.out.symm, ?_⟩
      exact (by repeat (first | exact Below.refl _ _ | assumption | refine bthen ?_ (by assumption) | refine Below.alloc ?_ (by first | exact Nat.le_refl _ | (simp; done) | (simp; omega) | omega) _ | refine Below.setCell ?_ (by first | exact Nat.le_refl _ | (simp; done) | (simp; omega) | omega) _ | refine below_drewN ?_ _ | refine Below.drew ?_))
  · have hE := Lib.hid (show pasE S (inB day 0 11000 && okH h p) (inB day2 0 11000 && okH h2 p2) (mom S day2 nt2 h2 p2 - mom S day nt h p) = c by rw [pasE, he, if_pos hc])
    have hG := Lib.hid (show pasG S (inB day 0 11000 && okH h p) (inB day2 0 11000 && okH h2 p2) (mom S day2 nt2 h2 p2 - mom S day nt h p) = false by rw [pasG, hn]; simp)
    clear hn
    go_enter Tryd.func30, Tryd.ntmps30
    go_wp2_with fail
    refine (asksc S _ _ _ day nt h p _ c he hI1).mono ?_
    rintro e w1 ⟨rfl, hb1⟩
    obtain ⟨hc1, hf1⟩ := bcell hb1
    go_wp2_with fail
    refine bodyPost_ret (v := .tuple #[.agg #[.int .i64 0, .int .i64 0], .int .i64 c]) (by simp [results, Tryd.results30, go_sem, hc1]) rfl ⟨ret_rat (by rw [hG.out]; rfl) (by rw [hG.out]; rfl) hE.out.symm, ?_⟩
    exact (by repeat (first | exact Below.refl _ _ | assumption | refine bthen ?_ (by assumption) | refine Below.alloc ?_ (by first | exact Nat.le_refl _ | (simp; done) | (simp; omega) | omega) _ | refine Below.setCell ?_ (by first | exact Nat.le_refl _ | (simp; done) | (simp; omega) | omega) _ | refine below_drewN ?_ _ | refine Below.drew ?_))
set_option maxHeartbeats 1000000 in
theorem rPassed_any (S : Sea) (vd vr vs : Value) (day : Int) (nt : Bool) (h p : Int) (day2 : Int) (nt2 : Bool) (h2 p2 : Int) (w : World) (hI : SeaIn w vd vr vs S) :
    Calls Tryd.prog 31 #[.agg #[.int .i64 S.L, vd, vr, vs], .int .i64 day, .agg #[.bool nt, .int .i64 h, .int .i64 p], .int .i64 day2, .agg #[.bool nt2, .int .i64 h2, .int .i64 p2]] w fun e w' =>
      e = .returned (.tuple #[.agg #[.int .i64 (gv (pasG S (inB day 0 11000 && okH h p) (inB day2 0 11000 && okH h2 p2) (mom S day2 nt2 h2 p2 - mom S day nt h p)) ((mom S day2 nt2 h2 p2 - mom S day nt h p) / 720)), .int .i64 (gv (pasG S (inB day 0 11000 && okH h p) (inB day2 0 11000 && okH h2 p2) (mom S day2 nt2 h2 p2 - mom S day nt h p)) ((mom S day2 nt2 h2 p2 - mom S day nt h p + 719) / 720))], .int .i64 (pasE S (inB day 0 11000 && okH h p) (inB day2 0 11000 && okH h2 p2) (mom S day2 nt2 h2 p2 - mom S day nt h p))]) ∧ Below w.heap.size w w' := by
  have hI1 := (((hI.alloc (seaO S vd vr vs)).alloc (hrO nt h p)).alloc (hrO nt2 h2 p2)).alloc (Obj.cells #[.int .i64 0, .int .i64 0] 41)
  rcases askE_cases S (inB day 0 11000 && okH h p) with ⟨hv, ha, he⟩ | ⟨c, he, hc, hn⟩
  · rcases askE_cases S (inB day2 0 11000 && okH h2 p2) with ⟨_, ha2, he2⟩ | ⟨c, he2, hc, hn⟩
    · obtain ⟨hd, hk⟩ := and_t ha
      obtain ⟨d1, d2⟩ := inB_t hd
      obtain ⟨⟨h1, h1'⟩, p1, p1'⟩ := okH_bd hk
      obtain ⟨hd2, hk2⟩ := and_t ha2
      obtain ⟨e1, e2⟩ := inB_t hd2
      obtain ⟨⟨i1, i1'⟩, q1, q1'⟩ := okH_bd hk2
      have mb := mom_bd hv d1 (by omega) nt h1 h1' p1 p1'
      have mb2 := mom_bd hv e1 (by omega) nt2 i1 i1' q1 q1'
      have HV := Lib.hid hv
      have HK := Lib.hid hk
      have HK2 := Lib.hid hk2
      have hG := Lib.hid (show pasG S (inB day 0 11000 && okH h p) (inB day2 0 11000 && okH h2 p2) (mom S day2 nt2 h2 p2 - mom S day nt h p) = decide (0 ≤ mom S day2 nt2 h2 p2 - mom S day nt h p) by rw [pasG, hv, ha, ha2]; rfl)
      have hE := Lib.hid (show pasE S (inB day 0 11000 && okH h p) (inB day2 0 11000 && okH h2 p2) (mom S day2 nt2 h2 p2 - mom S day nt h p) = if mom S day2 nt2 h2 p2 - mom S day nt h p < 0 then 4 else 0 by rw [pasE, he, he2]; rfl)
      clear hv ha ha2 hd hd2 hk hk2
      by_cases hlt : mom S day2 nt2 h2 p2 - mom S day nt h p < 0
      · have hE1 := hE.out
        rw [if_pos hlt] at hE1
        have hG1 := hG.out
        rw [decide_eq_false (by omega)] at hG1
        have HE := Lib.hid hE1
        have HG := Lib.hid hG1
        clear hE hG hE1 hG1
        go_enter Tryd.func31, Tryd.ntmps31
        go_wp2_with fail
        refine (rreadyc S _ _ _ day nt h p _ 0 he hI1).mono ?_
        rintro e w1 ⟨rfl, hb1⟩
        obtain ⟨hc1, hf1⟩ := bcell hb1
        go_wp2_with fail
        refine (rreadyc S _ _ _ day2 nt2 h2 p2 _ 0 he2 (hI1.below hb1)).mono ?_
        rintro e w2 ⟨rfl, hb2⟩
        replace hb2 := bthen hb1 hb2
        obtain ⟨hc2, hf2⟩ := bcell hb2
        go_wp2_with fail
        have mc := fun (i : More w2) => (bcell (bthen hb2 i.h)).1
        have cl : ∀ i : More w2, _ := fun i => more_call (rMoment_any S vd vr vs day nt h p _ HV.out ((hI1.below hb2).below i.h) (by omega) (by omega) HK.out)
        have cm : ∀ i : More w2, _ := fun i => more_call (rMoment_any S vd vr vs day2 nt2 h2 p2 _ HV.out ((hI1.below hb2).below i.h) (by omega) (by omega) HK2.out)
        have CL := Lib.hid cl; clear cl
        have CM := Lib.hid cm; clear cm
        refine wp_region_more (by kernel_rfl) (by kernel_rfl) ?_
        iterate 8 (try (first | go_big_quiet_step ((first | with_reducible exact CM.out _ | with_reducible exact CL.out _)) | quiet_step ((first | with_reducible exact CM.out _ | with_reducible exact CL.out _))))
        iterate 8 (try (first | go_big_quiet_step ((first | with_reducible exact CM.out _ | with_reducible exact CL.out _)) | quiet_step ((first | with_reducible exact CM.out _ | with_reducible exact CL.out _))))
        iterate 8 (try (first | go_big_quiet_step ((first | with_reducible exact CM.out _ | with_reducible exact CL.out _)) | quiet_step ((first | with_reducible exact CM.out _ | with_reducible exact CL.out _))))
        iterate 8 (try (first | go_big_quiet_step ((first | with_reducible exact CM.out _ | with_reducible exact CL.out _)) | quiet_step ((first | with_reducible exact CM.out _ | with_reducible exact CL.out _))))
        iterate 8 (try (first | go_big_quiet_step ((first | with_reducible exact CM.out _ | with_reducible exact CL.out _)) | quiet_step ((first | with_reducible exact CM.out _ | with_reducible exact CL.out _))))
        refine wpQuiet_nil ?_
        rintro ⟨wm, hbm⟩
        dsimp only
        have hb3 := bthen hb2 hbm
        obtain ⟨hc3, hf3⟩ := bcell hb3
        go_wp2_with fail
        refine bodyPost_ret (v := .tuple #[.agg #[.int .i64 0, .int .i64 0], .int .i64 4]) (by simp [results, Tryd.results31, go_sem, hc3]) rfl ⟨ret_rat (by rw [HG.out]; rfl) (by rw [HG.out]; rfl) HE.out.symm, ?_⟩
        exact (by repeat (first | exact Below.refl _ _ | assumption | refine bthen ?_ (by assumption) | refine Below.alloc ?_ (by first | exact Nat.le_refl _ | (simp; done) | (simp; omega) | omega) _ | refine Below.setCell ?_ (by first | exact Nat.le_refl _ | (simp; done) | (simp; omega) | omega) _ | refine below_drewN ?_ _ | refine Below.drew ?_))
      · have hE1 := hE.out
        rw [if_neg hlt] at hE1
        have hG1 := hG.out
        rw [decide_eq_true (by omega)] at hG1
        have HE := Lib.hid hE1
        have HG := Lib.hid hG1
        clear hE hG hE1 hG1
        go_enter Tryd.func31, Tryd.ntmps31
        go_wp2_with fail
        refine (rreadyc S _ _ _ day nt h p _ 0 he hI1).mono ?_
        rintro e w1 ⟨rfl, hb1⟩
        obtain ⟨hc1, hf1⟩ := bcell hb1
        go_wp2_with fail
        refine (rreadyc S _ _ _ day2 nt2 h2 p2 _ 0 he2 (hI1.below hb1)).mono ?_
        rintro e w2 ⟨rfl, hb2⟩
        replace hb2 := bthen hb1 hb2
        obtain ⟨hc2, hf2⟩ := bcell hb2
        go_wp2_with fail
        have mc := fun (i : More w2) => (bcell (bthen hb2 i.h)).1
        have cl : ∀ i : More w2, _ := fun i => more_call (rMoment_any S vd vr vs day nt h p _ HV.out ((hI1.below hb2).below i.h) (by omega) (by omega) HK.out)
        have cm : ∀ i : More w2, _ := fun i => more_call (rMoment_any S vd vr vs day2 nt2 h2 p2 _ HV.out ((hI1.below hb2).below i.h) (by omega) (by omega) HK2.out)
        have CL := Lib.hid cl; clear cl
        have CM := Lib.hid cm; clear cm
        refine wp_region_more (by kernel_rfl) (by kernel_rfl) ?_
        iterate 8 (try (first | go_big_quiet_step ((first | with_reducible exact CM.out _ | with_reducible exact CL.out _)) | quiet_step ((first | with_reducible exact CM.out _ | with_reducible exact CL.out _))))
        iterate 8 (try (first | go_big_quiet_step ((first | with_reducible exact CM.out _ | with_reducible exact CL.out _)) | quiet_step ((first | with_reducible exact CM.out _ | with_reducible exact CL.out _))))
        iterate 8 (try (first | go_big_quiet_step ((first | with_reducible exact CM.out _ | with_reducible exact CL.out _)) | quiet_step ((first | with_reducible exact CM.out _ | with_reducible exact CL.out _))))
        iterate 8 (try (first | go_big_quiet_step ((first | with_reducible exact CM.out _ | with_reducible exact CL.out _)) | quiet_step ((first | with_reducible exact CM.out _ | with_reducible exact CL.out _))))
        iterate 8 (try (first | go_big_quiet_step ((first | with_reducible exact CM.out _ | with_reducible exact CL.out _)) | quiet_step ((first | with_reducible exact CM.out _ | with_reducible exact CL.out _))))
        refine wpQuiet_nil ?_
        rintro ⟨wm, hbm⟩
        dsimp only
        have hb3 := bthen hb2 hbm
        obtain ⟨hc3, hf3⟩ := bcell hb3
        go_wp2_with fail
        refine (rup_any (mom S day2 nt2 h2 p2 - mom S day nt h p) _ (by omega) (by omega)).mono ?_
        rintro e w4 ⟨rfl, rfl⟩
        go_wp2_with fail
        refine bodyPost_ret (v := .tuple #[.agg #[.int .i64 ((mom S day2 nt2 h2 p2 - mom S day nt h p) / 720), .int .i64 ((mom S day2 nt2 h2 p2 - mom S day nt h p + 719) / 720)], .int .i64 0]) (by simp [results, Tryd.results31, go_sem, hc3]) rfl ⟨ret_rat (by rw [HG.out]; rfl) (by rw [HG.out, gv_t]; try (congr 1; omega)) HE.out.symm, ?_⟩
        exact (by repeat (first | exact Below.refl _ _ | assumption | refine bthen ?_ (by assumption) | refine Below.alloc ?_ (by first | exact Nat.le_refl _ | (simp; done) | (simp; omega) | omega) _ | refine Below.setCell ?_ (by first | exact Nat.le_refl _ | (simp; done) | (simp; omega) | omega) _ | refine below_drewN ?_ _ | refine Below.drew ?_))
    · have hE := Lib.hid (show pasE S (inB day 0 11000 && okH h p) (inB day2 0 11000 && okH h2 p2) (mom S day2 nt2 h2 p2 - mom S day nt h p) = c by rw [pasE, he, he2, if_neg (by decide), if_pos hc])
      have hG := Lib.hid (show pasG S (inB day 0 11000 && okH h p) (inB day2 0 11000 && okH h2 p2) (mom S day2 nt2 h2 p2 - mom S day nt h p) = false by rw [pasG, hn]; simp)
      clear hn ha hv
      go_enter Tryd.func31, Tryd.ntmps31
      go_wp2_with fail
      refine (rreadyc S _ _ _ day nt h p _ 0 he hI1).mono ?_
      rintro e w1 ⟨rfl, hb1⟩
      obtain ⟨hc1, hf1⟩ := bcell hb1
      go_wp2_with fail
      refine (rreadyc S _ _ _ day2 nt2 h2 p2 _ c he2 (hI1.below hb1)).mono ?_
      rintro e w2 ⟨rfl, hb2⟩
      replace hb2 := bthen hb1 hb2
      obtain ⟨hc2, hf2⟩ := bcell hb2
      go_wp2_with fail
      refine bodyPost_ret (v := .tuple #[.agg #[.int .i64 0, .int .i64 0], .int .i64 c]) (by simp [results, Tryd.results31, go_sem, hc2]) rfl ⟨ret_rat (by rw [hG.out]; rfl) (by rw [hG.out]; rfl) hE.out.symm, ?_⟩
      exact (by repeat (first | exact Below.refl _ _ | assumption | refine bthen ?_ (by assumption) | refine Below.alloc ?_ (by first | exact Nat.le_refl _ | (simp; done) | (simp; omega) | omega) _ | refine Below.setCell ?_ (by first | exact Nat.le_refl _ | (simp; done) | (simp; omega) | omega) _ | refine below_drewN ?_ _ | refine Below.drew ?_))
  · have hE := Lib.hid (show pasE S (inB day 0 11000 && okH h p) (inB day2 0 11000 && okH h2 p2) (mom S day2 nt2 h2 p2 - mom S day nt h p) = c by rw [pasE, he, if_pos hc])
    have hG := Lib.hid (show pasG S (inB day 0 11000 && okH h p) (inB day2 0 11000 && okH h2 p2) (mom S day2 nt2 h2 p2 - mom S day nt h p) = false by rw [pasG, hn]; simp)
    clear hn
    go_enter Tryd.func31, Tryd.ntmps31
    go_wp2_with fail
    refine (rreadyc S _ _ _ day nt h p _ c he hI1).mono ?_
    rintro e w1 ⟨rfl, hb1⟩
    obtain ⟨hc1, hf1⟩ := bcell hb1
    go_wp2_with fail
    refine bodyPost_ret (v := .tuple #[.agg #[.int .i64 0, .int .i64 0], .int .i64 c]) (by simp [results, Tryd.results31, go_sem, hc1]) rfl ⟨ret_rat (by rw [hG.out]; rfl) (by rw [hG.out]; rfl) hE.out.symm, ?_⟩
    exact (by repeat (first | exact Below.refl _ _ | assumption | refine bthen ?_ (by assumption) | refine Below.alloc ?_ (by first | exact Nat.le_refl _ | (simp; done) | (simp; omega) | omega) _ | refine Below.setCell ?_ (by first | exact Nat.le_refl _ | (simp; done) | (simp; omega) | omega) _ | refine below_drewN ?_ _ | refine Below.drew ?_))

theorem bool_ft (b : Bool) : b = false ∨ b = true := by cases b <;> simp
/-- Later: the error; whether there is an answer. -/
def ltE (S : Sea) (b1 b2 b3 : Bool) : Int := if (askE S b1 != 0) = true then askE S b1 else if b2 then (if b3 then 0 else 4) else 1
def ltG (S : Sea) (b1 b2 b3 : Bool) : Bool := vld S && b1 && b2 && b3
/-- The number of the hour some hours later. -/
def ltN (day : Int) (nt : Bool) (h p n : Int) : Int := ordr day nt h p + 60 * n
theorem ret_hr {a h p c a' h' p' c' : Int} {n n' : Bool} (h1 : a = a') (h2 : n = n') (h3 : h = h') (h4 : p = p') (h5 : c = c') : Ending.returned (.tuple #[.int .i64 a, .agg #[.bool n, .int .i64 h, .int .i64 p], .int .i64 c]) = .returned (.tuple #[.int .i64 a', .agg #[.bool n', .int .i64 h', .int .i64 p'], .int .i64 c']) := by rw [h1, h2, h3, h4, h5]
theorem ltN_parts (day : Int) (nt : Bool) {h p : Int} (n : Int) (hk : okH h p = true) : ltN day nt h p n / 1440 = (24 * day + h + n + (if nt then 12 else 0)) / 24 ∧ gN (ltN day nt h p n) = decide (12 ≤ (24 * day + h + n + (if nt then 12 else 0)) % 24) ∧ ltN day nt h p n / 60 % 12 = (24 * day + h + n + (if nt then 12 else 0)) % 24 % 12 ∧ ltN day nt h p n % 60 = p := by
  obtain ⟨⟨h1, h2⟩, p1, p2⟩ := okH_bd hk
  have e : ltN day nt h p n = 60 * (24 * day + h + n + (if nt then 12 else 0)) + p := by
    unfold ltN ordr
    cases nt
    · simp only [Bool.false_eq_true, if_false]; omega
    · simp only [if_true]; omega
  rw [e]
  generalize 24 * day + h + n + (if nt then 12 else 0) = x
  refine ⟨by omega, ?_, by omega, by omega⟩
  unfold gN
  congr 1
  simp only [eq_iff_iff]
  omega
abbrev LtPost (S : Sea) (day : Int) (nt : Bool) (h p n : Int) (w : World) (e : Ending) (w' : World) : Prop :=
  e = .returned (.tuple #[.int .i64 (gv (ltG S (inB day 0 11000 && okH h p) (inB n (-300000) 300000) (inB (ltN day nt h p n / 1440) 0 11000)) (ltN day nt h p n / 1440)),
    .agg #[.bool (ltG S (inB day 0 11000 && okH h p) (inB n (-300000) 300000) (inB (ltN day nt h p n / 1440) 0 11000) && gN (ltN day nt h p n)), .int .i64 (gv (ltG S (inB day 0 11000 && okH h p) (inB n (-300000) 300000) (inB (ltN day nt h p n / 1440) 0 11000)) (ltN day nt h p n / 60 % 12)), .int .i64 (gv (ltG S (inB day 0 11000 && okH h p) (inB n (-300000) 300000) (inB (ltN day nt h p n / 1440) 0 11000)) (ltN day nt h p n % 60))],
    .int .i64 (ltE S (inB day 0 11000 && okH h p) (inB n (-300000) 300000) (inB (ltN day nt h p n / 1440) 0 11000))]) ∧ Below w.heap.size w w'
set_option maxHeartbeats 1000000 in
theorem Later_any (S : Sea) (vd vr vs : Value) (day : Int) (nt : Bool) (h p n : Int) (w : World) (hI : SeaIn w vd vr vs S) :
    Calls Tryd.prog 28 #[.agg #[.int .i64 S.L, vd, vr, vs], .int .i64 day, .agg #[.bool nt, .int .i64 h, .int .i64 p], .int .i64 n] w fun e w' => LtPost S day nt h p n w e w' := by
  have hI1 := (((hI.alloc (seaO S vd vr vs)).alloc (hrO nt h p))).alloc (hrO false 0 0)
  rcases askE_cases S (inB day 0 11000 && okH h p) with ⟨hv, ha, he⟩ | ⟨c, he, hc, hn⟩
  · rcases bool_ft (inB n (-300000) 300000) with hb2 | hb2
    · have HE := Lib.hid (show ltE S (inB day 0 11000 && okH h p) (inB n (-300000) 300000) (inB (ltN day nt h p n / 1440) 0 11000) = 1 by simp [ltE, he, hb2])
      have HG := Lib.hid (show ltG S (inB day 0 11000 && okH h p) (inB n (-300000) 300000) (inB (ltN day nt h p n / 1440) 0 11000) = false by simp [ltG, hb2])
      clear hv ha
      go_enter Tryd.func28, Tryd.ntmps28
      go_wp2_with fail
      refine (asksc S _ _ _ day nt h p _ 0 he hI1).mono ?_
      rintro e w1 ⟨rfl, hb1⟩
      obtain ⟨hc1, hf1⟩ := bcell hb1
      go_wp2_with fail
      refine (within_any n (-300000) 300000 _).mono ?_
      rintro e w2 ⟨rfl, rfl⟩
      rw [hb2]
      go_wp2_with fail
      refine bodyPost_ret (v := .tuple #[.int .i64 0, .agg #[.bool false, .int .i64 0, .int .i64 0], .int .i64 1]) (by simp [results, Tryd.results28, go_sem, hc1]) rfl ⟨ret_hr (by rw [HG.out]; rfl) (by rw [HG.out]; rfl) (by rw [HG.out]; rfl) (by rw [HG.out]; rfl) HE.out.symm, ?_⟩
      exact (by repeat (first | exact Below.refl _ _ | assumption | refine bthen ?_ (by assumption) | refine Below.alloc ?_ (by first | exact Nat.le_refl _ | (simp; done) | (simp; omega) | omega) _ | refine Below.setCell ?_ (by first | exact Nat.le_refl _ | (simp; done) | (simp; omega) | omega) _ | refine below_drewN ?_ _ | refine Below.drew ?_))
    · obtain ⟨hd, hk⟩ := and_t ha
      obtain ⟨d1, d2⟩ := inB_t hd
      obtain ⟨⟨h1, h1'⟩, p1, p1'⟩ := okH_bd hk
      obtain ⟨n1, n2⟩ := inB_t hb2
      have hp := ltN_parts day nt n hk
      have HK := Lib.hid hk
      rcases bool_ft (inB (ltN day nt h p n / 1440) 0 11000) with hb3 | hb3
      · have HE := Lib.hid (show ltE S (inB day 0 11000 && okH h p) (inB n (-300000) 300000) (inB (ltN day nt h p n / 1440) 0 11000) = 4 by simp [ltE, he, hb2, hb3])
        have HG := Lib.hid (show ltG S (inB day 0 11000 && okH h p) (inB n (-300000) 300000) (inB (ltN day nt h p n / 1440) 0 11000) = false by simp [ltG, hb3])
        clear hv ha hd hk
        cases nt
        all_goals
          simp only [Bool.false_eq_true, if_false, if_true, Int.add_zero] at hp
          obtain ⟨e1, e2, e3, e4⟩ := hp
          rw [e1] at hb3
          have E1 := Lib.hid e1
          have E2 := Lib.hid e2
          have E3 := Lib.hid e3
          have E4 := Lib.hid e4
          clear e1 e2 e3 e4
          go_enter Tryd.func28, Tryd.ntmps28
          go_wp2_with fail
          refine (asksc S _ _ _ day _ h p _ 0 he hI1).mono ?_
          rintro e w1 ⟨rfl, hb1⟩
          obtain ⟨hc1, hf1⟩ := bcell hb1
          go_wp2_with fail
          refine (within_any n (-300000) 300000 _).mono ?_
          rintro e w2 ⟨rfl, rfl⟩
          rw [hb2]
          go_wp2_with fail
          refine (down_any _ 24 _ (by omega) (by omega) (by omega)).mono ?_
          rintro e w2 ⟨rfl, rfl⟩
          go_wp2_with fail
          refine (isDay_any _ _).mono ?_
          rintro e w2 ⟨rfl, rfl⟩
          rw [hb3]
          go_wp2_with fail
        all_goals
          refine bodyPost_ret (v := .tuple #[.int .i64 0, .agg #[.bool false, .int .i64 0, .int .i64 0], .int .i64 4]) (by simp [results, Tryd.results28, go_sem, hc1]) rfl ⟨ret_hr (by rw [HG.out]; rfl) (by rw [HG.out]; rfl) (by rw [HG.out]; rfl) (by rw [HG.out]; rfl) HE.out.symm, ?_⟩
          exact (by repeat (first | exact Below.refl _ _ | assumption | refine bthen ?_ (by assumption) | refine Below.alloc ?_ (by first | exact Nat.le_refl _ | (simp; done) | (simp; omega) | omega) _ | refine Below.setCell ?_ (by first | exact Nat.le_refl _ | (simp; done) | (simp; omega) | omega) _ | refine below_drewN ?_ _ | refine Below.drew ?_))
      · have HE := Lib.hid (show ltE S (inB day 0 11000 && okH h p) (inB n (-300000) 300000) (inB (ltN day nt h p n / 1440) 0 11000) = 0 by simp [ltE, he, hb2, hb3])
        have HG := Lib.hid (show ltG S (inB day 0 11000 && okH h p) (inB n (-300000) 300000) (inB (ltN day nt h p n / 1440) 0 11000) = true by simp [ltG, hb3, hb2, hv, ha])
        clear hv ha hd hk
        cases nt
        all_goals
          simp only [Bool.false_eq_true, if_false, if_true, Int.add_zero] at hp
          obtain ⟨e1, e2, e3, e4⟩ := hp
          rw [e1] at hb3
          have E1 := Lib.hid e1
          have E2 := Lib.hid e2
          have E3 := Lib.hid e3
          have E4 := Lib.hid e4
          clear e1 e2 e3 e4
          go_enter Tryd.func28, Tryd.ntmps28
          go_wp2_with fail
          refine (asksc S _ _ _ day _ h p _ 0 he hI1).mono ?_
          rintro e w1 ⟨rfl, hb1⟩
          obtain ⟨hc1, hf1⟩ := bcell hb1
          go_wp2_with fail
          refine (within_any n (-300000) 300000 _).mono ?_
          rintro e w2 ⟨rfl, rfl⟩
          rw [hb2]
          go_wp2_with fail
          refine (down_any _ 24 _ (by omega) (by omega) (by omega)).mono ?_
          rintro e w2 ⟨rfl, rfl⟩
          go_wp2_with fail
          refine (isDay_any _ _).mono ?_
          rintro e w2 ⟨rfl, rfl⟩
          rw [hb3]
          go_wp2_with fail
        · have em : 24 * day + h + n - 24 * ((24 * day + h + n) / 24) = (24 * day + h + n) % 24 := by omega
          generalize 24 * day + h + n = N at *
          go_region
          go_wp2
          refine bodyPost_ret (v := .tuple #[.int .i64 (N / 24), .agg #[.bool (decide (12 ≤ N % 24)), .int .i64 (N % 24 % 12), .int .i64 p], .int .i64 0]) (by simp [results, Tryd.results28, go_sem, hc1]) rfl ⟨ret_hr (by rw [HG.out, E1.out]; rfl) (by rw [HG.out, E2.out]; rfl) (by rw [HG.out, E3.out]; rfl) (by rw [HG.out, E4.out]; rfl) HE.out.symm, ?_⟩
          exact (by repeat (first | exact Below.refl _ _ | assumption | refine bthen ?_ (by assumption) | refine Below.alloc ?_ (by first | exact Nat.le_refl _ | (simp; done) | (simp; omega) | omega) _ | refine Below.setCell ?_ (by first | exact Nat.le_refl _ | (simp; done) | (simp; omega) | omega) _ | refine below_drewN ?_ _ | refine Below.drew ?_))
        · have em : 24 * day + h + n + 12 - 24 * ((24 * day + h + n + 12) / 24) = (24 * day + h + n + 12) % 24 := by omega
          generalize 24 * day + h + n + 12 = N at *
          go_region
          go_wp2
          refine bodyPost_ret (v := .tuple #[.int .i64 (N / 24), .agg #[.bool (decide (12 ≤ N % 24)), .int .i64 (N % 24 % 12), .int .i64 p], .int .i64 0]) (by simp [results, Tryd.results28, go_sem, hc1]) rfl ⟨ret_hr (by rw [HG.out, E1.out]; rfl) (by rw [HG.out, E2.out]; rfl) (by rw [HG.out, E3.out]; rfl) (by rw [HG.out, E4.out]; rfl) HE.out.symm, ?_⟩
          exact (by repeat (first | exact Below.refl _ _ | assumption | refine bthen ?_ (by assumption) | refine Below.alloc ?_ (by first | exact Nat.le_refl _ | (simp; done) | (simp; omega) | omega) _ | refine Below.setCell ?_ (by first | exact Nat.le_refl _ | (simp; done) | (simp; omega) | omega) _ | refine below_drewN ?_ _ | refine Below.drew ?_))
  · have HE := Lib.hid (show ltE S (inB day 0 11000 && okH h p) (inB n (-300000) 300000) (inB (ltN day nt h p n / 1440) 0 11000) = c by rw [ltE, he, if_pos hc])
    have HG := Lib.hid (show ltG S (inB day 0 11000 && okH h p) (inB n (-300000) 300000) (inB (ltN day nt h p n / 1440) 0 11000) = false by rw [ltG, hn]; simp)
    clear hn
    go_enter Tryd.func28, Tryd.ntmps28
    go_wp2_with fail
    refine (asksc S _ _ _ day nt h p _ c he hI1).mono ?_
    rintro e w1 ⟨rfl, hb1⟩
    obtain ⟨hc1, hf1⟩ := bcell hb1
    go_wp2_with fail
    refine bodyPost_ret (v := .tuple #[.int .i64 0, .agg #[.bool false, .int .i64 0, .int .i64 0], .int .i64 c]) (by simp [results, Tryd.results28, go_sem, hc1]) rfl ⟨ret_hr (by rw [HG.out]; rfl) (by rw [HG.out]; rfl) (by rw [HG.out]; rfl) (by rw [HG.out]; rfl) HE.out.symm, ?_⟩
    exact (by repeat (first | exact Below.refl _ _ | assumption | refine bthen ?_ (by assumption) | refine Below.alloc ?_ (by first | exact Nat.le_refl _ | (simp; done) | (simp; omega) | omega) _ | refine Below.setCell ?_ (by first | exact Nat.le_refl _ | (simp; done) | (simp; omega) | omega) _ | refine below_drewN ?_ _ | refine Below.drew ?_))
set_option maxHeartbeats 1000000 in
theorem rLater_any (S : Sea) (vd vr vs : Value) (day : Int) (nt : Bool) (h p n : Int) (w : World) (hI : SeaIn w vd vr vs S) :
    Calls Tryd.prog 29 #[.agg #[.int .i64 S.L, vd, vr, vs], .int .i64 day, .agg #[.bool nt, .int .i64 h, .int .i64 p], .int .i64 n] w fun e w' => LtPost S day nt h p n w e w' := by
  have hI1 := (((hI.alloc (seaO S vd vr vs)).alloc (hrO nt h p))).alloc (hrO false 0 0)
  rcases askE_cases S (inB day 0 11000 && okH h p) with ⟨hv, ha, he⟩ | ⟨c, he, hc, hn⟩
  · rcases bool_ft (inB n (-300000) 300000) with hb2 | hb2
    · have HE := Lib.hid (show ltE S (inB day 0 11000 && okH h p) (inB n (-300000) 300000) (inB (ltN day nt h p n / 1440) 0 11000) = 1 by simp [ltE, he, hb2])
      have HG := Lib.hid (show ltG S (inB day 0 11000 && okH h p) (inB n (-300000) 300000) (inB (ltN day nt h p n / 1440) 0 11000) = false by simp [ltG, hb2])
      clear hv ha
      go_enter Tryd.func29, Tryd.ntmps29
      go_wp2_with fail
      refine (rreadyc S _ _ _ day nt h p _ 0 he hI1).mono ?_
      rintro e w1 ⟨rfl, hb1⟩
      obtain ⟨hc1, hf1⟩ := bcell hb1
      go_wp2_with fail
      refine (rwithin_any n (-300000) 300000 _).mono ?_
      rintro e w2 ⟨rfl, rfl⟩
      rw [hb2]
      go_wp2_with fail
      refine bodyPost_ret (v := .tuple #[.int .i64 0, .agg #[.bool false, .int .i64 0, .int .i64 0], .int .i64 1]) (by simp [results, Tryd.results29, go_sem, hc1]) rfl ⟨ret_hr (by rw [HG.out]; rfl) (by rw [HG.out]; rfl) (by rw [HG.out]; rfl) (by rw [HG.out]; rfl) HE.out.symm, ?_⟩
      exact (by repeat (first | exact Below.refl _ _ | assumption | refine bthen ?_ (by assumption) | refine Below.alloc ?_ (by first | exact Nat.le_refl _ | (simp; done) | (simp; omega) | omega) _ | refine Below.setCell ?_ (by first | exact Nat.le_refl _ | (simp; done) | (simp; omega) | omega) _ | refine below_drewN ?_ _ | refine Below.drew ?_))
    · obtain ⟨hd, hk⟩ := and_t ha
      obtain ⟨d1, d2⟩ := inB_t hd
      obtain ⟨⟨h1, h1'⟩, p1, p1'⟩ := okH_bd hk
      obtain ⟨n1, n2⟩ := inB_t hb2
      have hp := ltN_parts day nt n hk
      have HK := Lib.hid hk
      rcases bool_ft (inB (ltN day nt h p n / 1440) 0 11000) with hb3 | hb3
      · have HE := Lib.hid (show ltE S (inB day 0 11000 && okH h p) (inB n (-300000) 300000) (inB (ltN day nt h p n / 1440) 0 11000) = 4 by simp [ltE, he, hb2, hb3])
        have HG := Lib.hid (show ltG S (inB day 0 11000 && okH h p) (inB n (-300000) 300000) (inB (ltN day nt h p n / 1440) 0 11000) = false by simp [ltG, hb3])
        clear hv ha hd hk
        rcases Int.lt_or_le (ltN day nt h p n) 0 with hneg | hneg
        · have ob : ordr day nt h p + 60 * n = ltN day nt h p n := rfl
          have ol : ordr day nt h p ≤ 20000000 := by unfold ordr; cases nt <;> simp <;> omega
          have ol2 : 0 ≤ ordr day nt h p := by unfold ordr; cases nt <;> simp <;> omega
          clear hp
          go_enter Tryd.func29, Tryd.ntmps29
          go_wp2_with fail
          refine (rreadyc S _ _ _ day nt h p _ 0 he hI1).mono ?_
          rintro e w1 ⟨rfl, hb1⟩
          obtain ⟨hc1, hf1⟩ := bcell hb1
          go_wp2_with fail
          refine (rwithin_any n (-300000) 300000 _).mono ?_
          rintro e w2 ⟨rfl, rfl⟩
          rw [hb2]
          go_wp2_with fail
          refine (rOrder_any day nt h p _ (by omega) (by omega) h1 h1' p1 p1').mono ?_
          rintro e w2 ⟨rfl, hb2⟩
          replace hb2 := bthen hb1 hb2
          obtain ⟨hc2, hf2⟩ := bcell hb2
          go_wp2_with fail
          refine bodyPost_ret (v := .tuple #[.int .i64 0, .agg #[.bool false, .int .i64 0, .int .i64 0], .int .i64 4]) (by simp [results, Tryd.results29, go_sem, hc2]) rfl ⟨ret_hr (by rw [HG.out]; rfl) (by rw [HG.out]; rfl) (by rw [HG.out]; rfl) (by rw [HG.out]; rfl) HE.out.symm, ?_⟩
          exact (by repeat (first | exact Below.refl _ _ | assumption | refine bthen ?_ (by assumption) | refine Below.alloc ?_ (by first | exact Nat.le_refl _ | (simp; done) | (simp; omega) | omega) _ | refine Below.setCell ?_ (by first | exact Nat.le_refl _ | (simp; done) | (simp; omega) | omega) _ | refine below_drewN ?_ _ | refine Below.drew ?_))
        · have ob : ordr day nt h p + 60 * n = ltN day nt h p n := rfl
          have ol : ordr day nt h p ≤ 20000000 := by unfold ordr; cases nt <;> simp <;> omega
          have ol2 : 0 ≤ ordr day nt h p := by unfold ordr; cases nt <;> simp <;> omega
          clear hp
          go_enter Tryd.func29, Tryd.ntmps29
          go_wp2_with fail
          refine (rreadyc S _ _ _ day nt h p _ 0 he hI1).mono ?_
          rintro e w1 ⟨rfl, hb1⟩
          obtain ⟨hc1, hf1⟩ := bcell hb1
          go_wp2_with fail
          refine (rwithin_any n (-300000) 300000 _).mono ?_
          rintro e w2 ⟨rfl, rfl⟩
          rw [hb2]
          go_wp2_with fail
          refine (rOrder_any day nt h p _ (by omega) (by omega) h1 h1' p1 p1').mono ?_
          rintro e w2 ⟨rfl, hb2⟩
          replace hb2 := bthen hb1 hb2
          obtain ⟨hc2, hf2⟩ := bcell hb2
          go_wp2_with fail
          refine (rDay_any _ _).mono ?_
          rintro e w3 ⟨rfl, rfl⟩
          rw [hb3]
          go_wp2_with fail
          refine bodyPost_ret (v := .tuple #[.int .i64 0, .agg #[.bool false, .int .i64 0, .int .i64 0], .int .i64 4]) (by simp [results, Tryd.results29, go_sem, hc2]) rfl ⟨ret_hr (by rw [HG.out]; rfl) (by rw [HG.out]; rfl) (by rw [HG.out]; rfl) (by rw [HG.out]; rfl) HE.out.symm, ?_⟩
          exact (by repeat (first | exact Below.refl _ _ | assumption | refine bthen ?_ (by assumption) | refine Below.alloc ?_ (by first | exact Nat.le_refl _ | (simp; done) | (simp; omega) | omega) _ | refine Below.setCell ?_ (by first | exact Nat.le_refl _ | (simp; done) | (simp; omega) | omega) _ | refine below_drewN ?_ _ | refine Below.drew ?_))
      · have HE := Lib.hid (show ltE S (inB day 0 11000 && okH h p) (inB n (-300000) 300000) (inB (ltN day nt h p n / 1440) 0 11000) = 0 by simp [ltE, he, hb2, hb3])
        have HG := Lib.hid (show ltG S (inB day 0 11000 && okH h p) (inB n (-300000) 300000) (inB (ltN day nt h p n / 1440) 0 11000) = true by simp [ltG, hb3, hb2, hv, ha])
        clear hv ha hd hk
        have hneg : 0 ≤ ltN day nt h p n := by have := inB_t hb3; omega
        have ob : ordr day nt h p + 60 * n = ltN day nt h p n := rfl
        have ol : ordr day nt h p ≤ 20000000 := by unfold ordr; cases nt <;> simp <;> omega
        have ol2 : 0 ≤ ordr day nt h p := by unfold ordr; cases nt <;> simp <;> omega
        clear hp
        go_enter Tryd.func29, Tryd.ntmps29
        go_wp2_with fail
        refine (rreadyc S _ _ _ day nt h p _ 0 he hI1).mono ?_
        rintro e w1 ⟨rfl, hb1⟩
        obtain ⟨hc1, hf1⟩ := bcell hb1
        go_wp2_with fail
        refine (rwithin_any n (-300000) 300000 _).mono ?_
        rintro e w2 ⟨rfl, rfl⟩
        rw [hb2]
        go_wp2_with fail
        refine (rOrder_any day nt h p _ (by omega) (by omega) h1 h1' p1 p1').mono ?_
        rintro e w2 ⟨rfl, hb2⟩
        replace hb2 := bthen hb1 hb2
        obtain ⟨hc2, hf2⟩ := bcell hb2
        go_wp2_with fail
        refine (rDay_any _ _).mono ?_
        rintro e w3 ⟨rfl, rfl⟩
        rw [hb3]
        go_wp2_with fail
        refine (rhour_any (ltN day nt h p n % 1440) _ (by omega) (by omega)).mono ?_
        rintro e w3 ⟨rfl, hb3'⟩
        replace hb3' := bthen hb2 hb3'
        obtain ⟨hc3, hf3⟩ := bcell hb3'
        go_wp2_with fail
        refine bodyPost_ret (v := .tuple #[.int .i64 (ltN day nt h p n / 1440), .agg #[.bool (decide (720 ≤ ltN day nt h p n % 1440)), .int .i64 (ltN day nt h p n % 1440 / 60 % 12), .int .i64 (ltN day nt h p n % 1440 % 60)], .int .i64 0]) (by simp [results, Tryd.results29, go_sem, hc3]) rfl ⟨ret_hr (by rw [HG.out]; rfl) (by rw [HG.out]; rfl) (by rw [HG.out, gv_t]; omega) (by rw [HG.out, gv_t]; omega) HE.out.symm, ?_⟩
        exact (by repeat (first | exact Below.refl _ _ | assumption | refine bthen ?_ (by assumption) | refine Below.alloc ?_ (by first | exact Nat.le_refl _ | (simp; done) | (simp; omega) | omega) _ | refine Below.setCell ?_ (by first | exact Nat.le_refl _ | (simp; done) | (simp; omega) | omega) _ | refine below_drewN ?_ _ | refine Below.drew ?_))
  · have HE := Lib.hid (show ltE S (inB day 0 11000 && okH h p) (inB n (-300000) 300000) (inB (ltN day nt h p n / 1440) 0 11000) = c by rw [ltE, he, if_pos hc])
    have HG := Lib.hid (show ltG S (inB day 0 11000 && okH h p) (inB n (-300000) 300000) (inB (ltN day nt h p n / 1440) 0 11000) = false by rw [ltG, hn]; simp)
    clear hn
    go_enter Tryd.func29, Tryd.ntmps29
    go_wp2_with fail
    refine (rreadyc S _ _ _ day nt h p _ c he hI1).mono ?_
    rintro e w1 ⟨rfl, hb1⟩
    obtain ⟨hc1, hf1⟩ := bcell hb1
    go_wp2_with fail
    refine bodyPost_ret (v := .tuple #[.int .i64 0, .agg #[.bool false, .int .i64 0, .int .i64 0], .int .i64 c]) (by simp [results, Tryd.results29, go_sem, hc1]) rfl ⟨ret_hr (by rw [HG.out]; rfl) (by rw [HG.out]; rfl) (by rw [HG.out]; rfl) (by rw [HG.out]; rfl) HE.out.symm, ?_⟩
    exact (by repeat (first | exact Below.refl _ _ | assumption | refine bthen ?_ (by assumption) | refine Below.alloc ?_ (by first | exact Nat.le_refl _ | (simp; done) | (simp; omega) | omega) _ | refine Below.setCell ?_ (by first | exact Nat.le_refl _ | (simp; done) | (simp; omega) | omega) _ | refine below_drewN ?_ _ | refine Below.drew ?_))
end Go.Proofs.YtpjnlcdmbkbfcaaDoor
