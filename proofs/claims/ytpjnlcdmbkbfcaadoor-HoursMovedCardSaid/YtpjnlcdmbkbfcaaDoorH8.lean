/- Walks of Exact, First, Passed on both sides. -/
import Derived.Test.YtpjnlcdmbkbfcaaDoorH7
namespace Go.Proofs.YtpjnlcdmbkbfcaaDoor
open Go.ChangeShapes Go.WideShapes Go.ChangeAt Go.RowKit Go.BigFrame

theorem and_t {a b : Bool} (h : (a && b) = true) : a = true ∧ b = true := by simpa using h
theorem Exact_any (S : Sea) (vd vr vs : Value) (day : Int) (nt : Bool) (h p : Int) (w : World) (hI : SeaIn w vd vr vs S) :
    Calls Tryd.prog 53 #[.agg #[.int .i64 S.L, vd, vr, vs], .int .i64 day, .agg #[.bool nt, .int .i64 h, .int .i64 p]] w fun e w' => e = .returned (.tuple #[.agg #[.int .i64 (gd S (inB day 0 11000 && okH h p) (low1 (mom S day nt h p) 720)), .int .i64 (gd S (inB day 0 11000 && okH h p) (low2 (mom S day nt h p) 720))], .int .i64 (askE S (inB day 0 11000 && okH h p))]) ∧ Below w.heap.size w w' := by
  have hI1 := ((hI.alloc (seaO S vd vr vs)).alloc (hrO nt h p)).alloc raO
  rcases askE_cases S (inB day 0 11000 && okH h p) with ⟨hv, ha, he⟩ | ⟨c, he, hc, hn⟩
  · have hE := Lib.hid (gd_ok (b := inB day 0 11000 && okH h p) (low1 (mom S day nt h p) 720) hv ha)
    have hE2 := Lib.hid (gd_ok (b := inB day 0 11000 && okH h p) (low2 (mom S day nt h p) 720) hv ha)
    obtain ⟨hd, hk⟩ := and_t ha
    obtain ⟨d1, d2⟩ := inB_t hd
    obtain ⟨⟨h1, h2⟩, p1, p2⟩ := okH_bd hk
    have mb := mom_bd hv d1 (by omega) nt h1 h2 p1 p2
    have HV := Lib.hid hv
    have HK := Lib.hid hk
    clear hv ha hd hk
    go_enter Tryd.func53, Tryd.ntmps53
    go_wp2_with fail
    refine (asksc S _ _ _ day nt h p _ 0 he hI1).mono ?_
    rintro e w1 ⟨rfl, hb1⟩
    obtain ⟨hc1, hf1⟩ := bcell hb1
    go_wp2_with fail
    refine (moment_any S _ _ _ day nt h p _ HV.out (hI1.below hb1) (by omega) (by omega) HK.out).mono ?_
    rintro e w2 ⟨rfl, hb2⟩
    replace hb2 := bthen hb1 hb2
    obtain ⟨hc2, hf2⟩ := bcell hb2
    go_wp2_with fail
    refine (lowest_any (mom S day nt h p) 720 _ (by omega) (by omega) (by omega) (by omega)).mono ?_
    rintro e w3 ⟨rfl, hb3⟩
    replace hb3 := bthen hb2 hb3
    obtain ⟨hc3, hf3⟩ := bcell hb3
    go_wp2_with fail
    refine bodyPost_ret (v := .tuple #[.agg #[.int .i64 (low1 (mom S day nt h p) 720), .int .i64 (low2 (mom S day nt h p) 720)], .int .i64 0]) (by simp [results, Tryd.results53, go_sem, hc3]) rfl ⟨ret_rat hE.out.symm hE2.out.symm he.symm, ?_⟩
    exact (by repeat (first | exact Below.refl _ _ | assumption | refine bthen ?_ (by assumption) | refine Below.alloc ?_ (by first | exact Nat.le_refl _ | (simp; done) | (simp; omega) | omega) _ | refine Below.setCell ?_ (by first | exact Nat.le_refl _ | (simp; done) | (simp; omega) | omega) _ | refine below_drewN ?_ _ | refine Below.drew ?_))
  · have hE := Lib.hid (gd_bad (low1 (mom S day nt h p) 720) hn)
    have hE2 := Lib.hid (gd_bad (low2 (mom S day nt h p) 720) hn)
    clear hn
    go_enter Tryd.func53, Tryd.ntmps53
    go_wp2_with fail
    refine (asksc S _ _ _ day nt h p _ c he hI1).mono ?_
    rintro e w1 ⟨rfl, hb1⟩
    obtain ⟨hc1, hf1⟩ := bcell hb1
    go_wp2_with fail
    refine bodyPost_ret (v := .tuple #[.agg #[.int .i64 0, .int .i64 0], .int .i64 c]) (by simp [results, Tryd.results53, go_sem, hc1]) rfl ⟨ret_rat hE.out.symm hE2.out.symm he.symm, ?_⟩
    exact (by repeat (first | exact Below.refl _ _ | assumption | refine bthen ?_ (by assumption) | refine Below.alloc ?_ (by first | exact Nat.le_refl _ | (simp; done) | (simp; omega) | omega) _ | refine Below.setCell ?_ (by first | exact Nat.le_refl _ | (simp; done) | (simp; omega) | omega) _ | refine below_drewN ?_ _ | refine Below.drew ?_))
theorem rExact_any (S : Sea) (vd vr vs : Value) (day : Int) (nt : Bool) (h p : Int) (w : World) (hI : SeaIn w vd vr vs S) :
    Calls Tryd.prog 54 #[.agg #[.int .i64 S.L, vd, vr, vs], .int .i64 day, .agg #[.bool nt, .int .i64 h, .int .i64 p]] w fun e w' => e = .returned (.tuple #[.agg #[.int .i64 (gd S (inB day 0 11000 && okH h p) (low1 (mom S day nt h p) 720)), .int .i64 (gd S (inB day 0 11000 && okH h p) (low2 (mom S day nt h p) 720))], .int .i64 (askE S (inB day 0 11000 && okH h p))]) ∧ Below w.heap.size w w' := by
  have hI1 := ((hI.alloc (seaO S vd vr vs)).alloc (hrO nt h p)).alloc raO
  rcases askE_cases S (inB day 0 11000 && okH h p) with ⟨hv, ha, he⟩ | ⟨c, he, hc, hn⟩
  · have hE := Lib.hid (gd_ok (b := inB day 0 11000 && okH h p) (low1 (mom S day nt h p) 720) hv ha)
    have hE2 := Lib.hid (gd_ok (b := inB day 0 11000 && okH h p) (low2 (mom S day nt h p) 720) hv ha)
    obtain ⟨hd, hk⟩ := and_t ha
    obtain ⟨d1, d2⟩ := inB_t hd
    obtain ⟨⟨h1, h2⟩, p1, p2⟩ := okH_bd hk
    have mb := mom_bd hv d1 (by omega) nt h1 h2 p1 p2
    have HV := Lib.hid hv
    have HK := Lib.hid hk
    clear hv ha hd hk
    go_enter Tryd.func54, Tryd.ntmps54
    go_wp2_with fail
    refine (rreadyc S _ _ _ day nt h p _ 0 he hI1).mono ?_
    rintro e w1 ⟨rfl, hb1⟩
    obtain ⟨hc1, hf1⟩ := bcell hb1
    go_wp2_with fail
    refine (rMoment_any S _ _ _ day nt h p _ HV.out (hI1.below hb1) (by omega) (by omega) HK.out).mono ?_
    rintro e w2 ⟨rfl, hb2⟩
    replace hb2 := bthen hb1 hb2
    obtain ⟨hc2, hf2⟩ := bcell hb2
    go_wp2_with fail
    refine (rlowest_any (mom S day nt h p) 720 _ (by omega) (by omega) (by omega) (by omega)).mono ?_
    rintro e w3 ⟨rfl, hb3⟩
    replace hb3 := bthen hb2 hb3
    obtain ⟨hc3, hf3⟩ := bcell hb3
    go_wp2_with fail
    refine bodyPost_ret (v := .tuple #[.agg #[.int .i64 (low1 (mom S day nt h p) 720), .int .i64 (low2 (mom S day nt h p) 720)], .int .i64 0]) (by simp [results, Tryd.results54, go_sem, hc3]) rfl ⟨ret_rat hE.out.symm hE2.out.symm he.symm, ?_⟩
    exact (by repeat (first | exact Below.refl _ _ | assumption | refine bthen ?_ (by assumption) | refine Below.alloc ?_ (by first | exact Nat.le_refl _ | (simp; done) | (simp; omega) | omega) _ | refine Below.setCell ?_ (by first | exact Nat.le_refl _ | (simp; done) | (simp; omega) | omega) _ | refine below_drewN ?_ _ | refine Below.drew ?_))
  · have hE := Lib.hid (gd_bad (low1 (mom S day nt h p) 720) hn)
    have hE2 := Lib.hid (gd_bad (low2 (mom S day nt h p) 720) hn)
    clear hn
    go_enter Tryd.func54, Tryd.ntmps54
    go_wp2_with fail
    refine (rreadyc S _ _ _ day nt h p _ c he hI1).mono ?_
    rintro e w1 ⟨rfl, hb1⟩
    obtain ⟨hc1, hf1⟩ := bcell hb1
    go_wp2_with fail
    refine bodyPost_ret (v := .tuple #[.agg #[.int .i64 0, .int .i64 0], .int .i64 c]) (by simp [results, Tryd.results54, go_sem, hc1]) rfl ⟨ret_rat hE.out.symm hE2.out.symm he.symm, ?_⟩
    exact (by repeat (first | exact Below.refl _ _ | assumption | refine bthen ?_ (by assumption) | refine Below.alloc ?_ (by first | exact Nat.le_refl _ | (simp; done) | (simp; omega) | omega) _ | refine Below.setCell ?_ (by first | exact Nat.le_refl _ | (simp; done) | (simp; omega) | omega) _ | refine below_drewN ?_ _ | refine Below.drew ?_))

theorem first_any (S : Sea) (vd vr vs : Value) (day : Int) (nt : Bool) (h p : Int) (w : World) (hv : vld S = true) (hI : SeaIn w vd vr vs S) (d1 : 0 ≤ day) (d2 : day ≤ 90000) (hk : okH h p = true) :
    Calls Tryd.prog 101 #[.agg #[.int .i64 S.L, vd, vr, vs], .int .i64 day, .agg #[.bool nt, .int .i64 h, .int .i64 p]] w fun e w' => e = .returned (.int .i64 (fst S day nt h p)) ∧ Below w.heap.size w w' := by
  obtain ⟨⟨h1, h2⟩, p1, p2⟩ := okH_bd hk
  have mb := mom_bd hv d1 (by omega) nt h1 h2 p1 p2
  have hI1 := (hI.alloc (seaO S vd vr vs)).alloc (hrO nt h p)
  have HV := Lib.hid hv
  have HK := Lib.hid hk
  clear hv hk
  go_enter Tryd.func101, Tryd.ntmps101
  go_wp2_with fail
  refine (moment_any S _ _ _ day nt h p _ HV.out hI1 (by omega) (by omega) HK.out).mono ?_
  rintro e w1 ⟨rfl, hb1⟩
  obtain ⟨hc1, hf1⟩ := bcell hb1
  go_wp2_with fail
  go_ret
  exact ⟨ret_int (by unfold fst; congr 1; omega), (by repeat (first | exact Below.refl _ _ | assumption | refine bthen ?_ (by assumption) | refine Below.alloc ?_ (by first | exact Nat.le_refl _ | (simp; done) | (simp; omega) | omega) _ | refine Below.setCell ?_ (by first | exact Nat.le_refl _ | (simp; done) | (simp; omega) | omega) _ | refine below_drewN ?_ _ | refine Below.drew ?_))⟩

theorem First_any (S : Sea) (vd vr vs : Value) (day : Int) (nt : Bool) (h p : Int) (w : World) (hI : SeaIn w vd vr vs S) :
    Calls Tryd.prog 47 #[.agg #[.int .i64 S.L, vd, vr, vs], .int .i64 day, .agg #[.bool nt, .int .i64 h, .int .i64 p]] w fun e w' => e = .returned (.tuple #[.int .i64 (gd S (inB day 0 11000 && okH h p) (fst S day nt h p)), .int .i64 (askE S (inB day 0 11000 && okH h p))]) ∧ Below w.heap.size w w' := by
  have hI1 := (hI.alloc (seaO S vd vr vs)).alloc (hrO nt h p)
  rcases askE_cases S (inB day 0 11000 && okH h p) with ⟨hv, ha, he⟩ | ⟨c, he, hc, hn⟩
  · have hE := Lib.hid (gd_ok (b := inB day 0 11000 && okH h p) (fst S day nt h p) hv ha)
    obtain ⟨hd, hk⟩ := and_t ha
    obtain ⟨d1, d2⟩ := inB_t hd
    obtain ⟨⟨h1, h2⟩, p1, p2⟩ := okH_bd hk
    have mb := mom_bd hv d1 (by omega) nt h1 h2 p1 p2
    have HV := Lib.hid hv
    have HK := Lib.hid hk
    clear hv ha hd hk
    go_enter Tryd.func47, Tryd.ntmps47
    go_wp2_with fail
    refine (asksc S _ _ _ day nt h p _ 0 he hI1).mono ?_
    rintro e w1 ⟨rfl, hb1⟩
    obtain ⟨hc1, hf1⟩ := bcell hb1
    go_wp2_with fail
    refine (first_any S _ _ _ day nt h p _ HV.out (hI1.below hb1) (by omega) (by omega) HK.out).mono ?_
    rintro e w2 ⟨rfl, hb2⟩
    replace hb2 := bthen hb1 hb2
    obtain ⟨hc2, hf2⟩ := bcell hb2
    go_wp2_with fail

    go_ret2
    exact ⟨ret_two hE.out.symm he.symm, (by repeat (first | exact Below.refl _ _ | assumption | refine bthen ?_ (by assumption) | refine Below.alloc ?_ (by first | exact Nat.le_refl _ | (simp; done) | (simp; omega) | omega) _ | refine Below.setCell ?_ (by first | exact Nat.le_refl _ | (simp; done) | (simp; omega) | omega) _ | refine below_drewN ?_ _ | refine Below.drew ?_))⟩
  · have hE := Lib.hid (gd_bad (fst S day nt h p) hn)
    clear hn
    go_enter Tryd.func47, Tryd.ntmps47
    go_wp2_with fail
    refine (asksc S _ _ _ day nt h p _ c he hI1).mono ?_
    rintro e w1 ⟨rfl, hb1⟩
    obtain ⟨hc1, hf1⟩ := bcell hb1
    go_wp2_with fail
    go_ret2
    exact ⟨ret_two hE.out.symm he.symm, (by repeat (first | exact Below.refl _ _ | assumption | refine bthen ?_ (by assumption) | refine Below.alloc ?_ (by first | exact Nat.le_refl _ | (simp; done) | (simp; omega) | omega) _ | refine Below.setCell ?_ (by first | exact Nat.le_refl _ | (simp; done) | (simp; omega) | omega) _ | refine below_drewN ?_ _ | refine Below.drew ?_))⟩
theorem rFirst_any (S : Sea) (vd vr vs : Value) (day : Int) (nt : Bool) (h p : Int) (w : World) (hI : SeaIn w vd vr vs S) :
    Calls Tryd.prog 55 #[.agg #[.int .i64 S.L, vd, vr, vs], .int .i64 day, .agg #[.bool nt, .int .i64 h, .int .i64 p]] w fun e w' => e = .returned (.tuple #[.int .i64 (gd S (inB day 0 11000 && okH h p) (fst S day nt h p)), .int .i64 (askE S (inB day 0 11000 && okH h p))]) ∧ Below w.heap.size w w' := by
  have hI1 := (hI.alloc (seaO S vd vr vs)).alloc (hrO nt h p)
  rcases askE_cases S (inB day 0 11000 && okH h p) with ⟨hv, ha, he⟩ | ⟨c, he, hc, hn⟩
  · have hE := Lib.hid (gd_ok (b := inB day 0 11000 && okH h p) (fst S day nt h p) hv ha)
    obtain ⟨hd, hk⟩ := and_t ha
    obtain ⟨d1, d2⟩ := inB_t hd
    obtain ⟨⟨h1, h2⟩, p1, p2⟩ := okH_bd hk
    have mb := mom_bd hv d1 (by omega) nt h1 h2 p1 p2
    have HV := Lib.hid hv
    have HK := Lib.hid hk
    clear hv ha hd hk
    go_enter Tryd.func55, Tryd.ntmps55
    go_wp2_with fail
    refine (rreadyc S _ _ _ day nt h p _ 0 he hI1).mono ?_
    rintro e w1 ⟨rfl, hb1⟩
    obtain ⟨hc1, hf1⟩ := bcell hb1
    go_wp2_with fail
    refine (rMoment_any S _ _ _ day nt h p _ HV.out (hI1.below hb1) (by omega) (by omega) HK.out).mono ?_
    rintro e w2 ⟨rfl, hb2⟩
    replace hb2 := bthen hb1 hb2
    obtain ⟨hc2, hf2⟩ := bcell hb2
    go_wp2_with fail
    refine (sameB (rup_any (mom S day nt h p) _ (by omega) (by omega))).mono ?_
    rintro e w3 ⟨rfl, hb3⟩
    replace hb3 := bthen hb2 hb3
    obtain ⟨hc3, hf3⟩ := bcell hb3
    go_wp2_with fail
    go_ret2
    exact ⟨ret_two hE.out.symm he.symm, (by repeat (first | exact Below.refl _ _ | assumption | refine bthen ?_ (by assumption) | refine Below.alloc ?_ (by first | exact Nat.le_refl _ | (simp; done) | (simp; omega) | omega) _ | refine Below.setCell ?_ (by first | exact Nat.le_refl _ | (simp; done) | (simp; omega) | omega) _ | refine below_drewN ?_ _ | refine Below.drew ?_))⟩
  · have hE := Lib.hid (gd_bad (fst S day nt h p) hn)
    clear hn
    go_enter Tryd.func55, Tryd.ntmps55
    go_wp2_with fail
    refine (rreadyc S _ _ _ day nt h p _ c he hI1).mono ?_
    rintro e w1 ⟨rfl, hb1⟩
    obtain ⟨hc1, hf1⟩ := bcell hb1
    go_wp2_with fail
    go_ret2
    exact ⟨ret_two hE.out.symm he.symm, (by repeat (first | exact Below.refl _ _ | assumption | refine bthen ?_ (by assumption) | refine Below.alloc ?_ (by first | exact Nat.le_refl _ | (simp; done) | (simp; omega) | omega) _ | refine Below.setCell ?_ (by first | exact Nat.le_refl _ | (simp; done) | (simp; omega) | omega) _ | refine below_drewN ?_ _ | refine Below.drew ?_))⟩
end Go.Proofs.YtpjnlcdmbkbfcaaDoor
