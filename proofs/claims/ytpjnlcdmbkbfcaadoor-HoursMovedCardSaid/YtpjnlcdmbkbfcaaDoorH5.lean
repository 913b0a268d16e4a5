/- Walks of spans, of what the reference asks, of lengths and moments. -/
import Derived.Test.YtpjnlcdmbkbfcaaDoorH4
namespace Go.Proofs.YtpjnlcdmbkbfcaaDoor
open Go.ChangeShapes Go.WideShapes Go.ChangeAt Go.RowKit Go.BigFrame
set_option maxHeartbeats 400000 in
theorem span_f (S : Sea) (vd vr vs : Value) (day : Int) (w : World) (hv : vld S = true) (hI : SeaIn w vd vr vs S) (d1 : 0 ≤ day) (d2 : day ≤ 100000) :
    Calls Tryd.prog 73 #[.agg #[.int .i64 S.L, vd, vr, vs], .int .i64 day, .bool false] w fun e w' => e = .returned (.tuple #[.int .i64 (spanA S day false), .int .i64 (spanB S day false)]) ∧ Below w.heap.size w w' := by
  have hI1 := hI.alloc (Obj.cells #[.int .i64 S.L, vd, vr, vs] 24)
  have HV := Lib.hid hv; clear hv
  have mc := @more_cell (w.alloc (Obj.cells #[.int .i64 S.L, vd, vr, vs] 24))
  have cr : ∀ i : More (w.alloc (Obj.cells #[.int .i64 S.L, vd, vr, vs] 24)), _ := fun i => more_call (at_r S vd vr vs day _ HV.out (hI1.below i.h) (by omega) (by omega))
  have cs : ∀ i : More (w.alloc (Obj.cells #[.int .i64 S.L, vd, vr, vs] 24)), _ := fun i => more_call (at_s S vd vr vs day _ HV.out (hI1.below i.h) (by omega) (by omega))
  have CR := Lib.hid cr; clear cr
  have CS := Lib.hid cs; clear cs
  have b1 := lnR_bd HV.out day
  have b2 := lnS_bd HV.out day
  go_enter Tryd.func73, Tryd.ntmps73
  go_wp2_with fail
  refine wp_region_more (by kernel_rfl) (by kernel_rfl) ?_
  iterate 8 (try (first | go_big_quiet_step ((first | with_reducible exact CR.out _ | with_reducible exact CS.out _)) | quiet_step ((first | with_reducible exact CR.out _ | with_reducible exact CS.out _))))
  iterate 8 (try (first | go_big_quiet_step ((first | with_reducible exact CR.out _ | with_reducible exact CS.out _)) | quiet_step ((first | with_reducible exact CR.out _ | with_reducible exact CS.out _))))
  iterate 8 (try (first | go_big_quiet_step ((first | with_reducible exact CR.out _ | with_reducible exact CS.out _)) | quiet_step ((first | with_reducible exact CR.out _ | with_reducible exact CS.out _))))
  iterate 8 (try (first | go_big_quiet_step ((first | with_reducible exact CR.out _ | with_reducible exact CS.out _)) | quiet_step ((first | with_reducible exact CR.out _ | with_reducible exact CS.out _))))
  iterate 8 (try (first | go_big_quiet_step ((first | with_reducible exact CR.out _ | with_reducible exact CS.out _)) | quiet_step ((first | with_reducible exact CR.out _ | with_reducible exact CS.out _))))
  refine wpQuiet_nil ?_
  rintro ⟨wm, hbm⟩
  dsimp only
  go_wp2_with fail
  go_ret2
  exact ⟨ret_two (by simp [spanA]) (by simp [spanB]), bafter hbm⟩
set_option maxHeartbeats 400000 in
theorem span_t (S : Sea) (vd vr vs : Value) (day : Int) (w : World) (hv : vld S = true) (hI : SeaIn w vd vr vs S) (d1 : 0 ≤ day) (d2 : day ≤ 100000) :
    Calls Tryd.prog 73 #[.agg #[.int .i64 S.L, vd, vr, vs], .int .i64 day, .bool true] w fun e w' => e = .returned (.tuple #[.int .i64 (spanA S day true), .int .i64 (spanB S day true)]) ∧ Below w.heap.size w w' := by
  have hI1 := hI.alloc (Obj.cells #[.int .i64 S.L, vd, vr, vs] 24)
  have HV := Lib.hid hv; clear hv
  have mc := @more_cell (w.alloc (Obj.cells #[.int .i64 S.L, vd, vr, vs] 24))
  have cr : ∀ i : More (w.alloc (Obj.cells #[.int .i64 S.L, vd, vr, vs] 24)), _ := fun i => more_call (at_r S vd vr vs day _ HV.out (hI1.below i.h) (by omega) (by omega))
  have cs : ∀ i : More (w.alloc (Obj.cells #[.int .i64 S.L, vd, vr, vs] 24)), _ := fun i => more_call (at_s S vd vr vs day _ HV.out (hI1.below i.h) (by omega) (by omega))
  have CR := Lib.hid cr; clear cr
  have CS := Lib.hid cs; clear cs
  have b1 := lnR_bd HV.out day
  have b2 := lnS_bd HV.out day
  have b3 := lnR_bd HV.out (day + 1)
  go_enter Tryd.func73, Tryd.ntmps73
  go_wp2_with fail
  refine wp_region_more (by kernel_rfl) (by kernel_rfl) ?_
  iterate 8 (try (first | go_big_quiet_step ((first | with_reducible exact CR.out _ | with_reducible exact CS.out _)) | quiet_step ((first | with_reducible exact CR.out _ | with_reducible exact CS.out _))))
  iterate 8 (try (first | go_big_quiet_step ((first | with_reducible exact CR.out _ | with_reducible exact CS.out _)) | quiet_step ((first | with_reducible exact CR.out _ | with_reducible exact CS.out _))))
  iterate 8 (try (first | go_big_quiet_step ((first | with_reducible exact CR.out _ | with_reducible exact CS.out _)) | quiet_step ((first | with_reducible exact CR.out _ | with_reducible exact CS.out _))))
  iterate 8 (try (first | go_big_quiet_step ((first | with_reducible exact CR.out _ | with_reducible exact CS.out _)) | quiet_step ((first | with_reducible exact CR.out _ | with_reducible exact CS.out _))))
  iterate 8 (try (first | go_big_quiet_step ((first | with_reducible exact CR.out _ | with_reducible exact CS.out _)) | quiet_step ((first | with_reducible exact CR.out _ | with_reducible exact CS.out _))))
  refine wpQuiet_nil ?_
  rintro ⟨wm, hbm⟩
  dsimp only
  obtain ⟨hc, hf⟩ := bcell hbm
  go_wp2_with fail
  refine (at_r S _ _ _ (day + 1) _ HV.out (hI1.below hbm) (by omega) (by omega)).mono ?_
  rintro e w2 ⟨rfl, hb2⟩
  go_wp2_with fail
  go_ret2
  exact ⟨ret_two (by simp [spanA]) (by simp [spanB]), bthen (bafter hbm) hb2⟩
theorem span_any (S : Sea) (vd vr vs : Value) (day : Int) (nt : Bool) (w : World) (hv : vld S = true) (hI : SeaIn w vd vr vs S) (d1 : 0 ≤ day) (d2 : day ≤ 100000) :
    Calls Tryd.prog 73 #[.agg #[.int .i64 S.L, vd, vr, vs], .int .i64 day, .bool nt] w fun e w' => e = .returned (.tuple #[.int .i64 (spanA S day nt), .int .i64 (spanB S day nt)]) ∧ Below w.heap.size w w' := by
  cases nt
  · exact span_f S vd vr vs day w hv hI d1 d2
  · exact span_t S vd vr vs day w hv hI d1 d2

theorem rrise_any (S : Sea) (vd vr vs : Value) (day : Int) (w : World) (hv : vld S = true) (hI : SeaIn w vd vr vs S) (d1 : 0 ≤ day) (d2 : day ≤ 100000) :
    Calls Tryd.prog 71 #[.agg #[.int .i64 S.L, vd, vr, vs], .int .i64 day] w fun e w' => e = .returned (.int .i64 (lnR S day)) ∧ Below w.heap.size w w' := by
  have hI1 := hI.alloc (Obj.cells #[.int .i64 S.L, vd, vr, vs] 24)
  have v := (vld_iff S).1 hv
  have hL := v.L1
  have hL' := v.L2
  clear v
  have HV := Lib.hid hv; clear hv
  have mc := @more_cell (w.alloc (Obj.cells #[.int .i64 S.L, vd, vr, vs] 24))
  have m1 := Int.emod_nonneg day (b := S.L) (by omega)
  have m2 := Int.emod_lt_of_pos day (b := S.L) (by omega)
  have cr : ∀ i : More (w.alloc (Obj.cells #[.int .i64 S.L, vd, vr, vs] 24)), _ := fun i => more_call (rline_r S vd vr vs (day % S.L) _ HV.out (hI1.below i.h) (by omega) (by omega))
  have CR := Lib.hid cr; clear cr
  go_enter Tryd.func71, Tryd.ntmps71
  go_wp2_with fail
  refine wp_region_more (by kernel_rfl) (by kernel_rfl) ?_
  iterate 8 (try (first | go_big_quiet_step (with_reducible exact CR.out _) | quiet_step (with_reducible exact CR.out _)))
  iterate 8 (try (first | go_big_quiet_step (with_reducible exact CR.out _) | quiet_step (with_reducible exact CR.out _)))
  iterate 8 (try (first | go_big_quiet_step (with_reducible exact CR.out _) | quiet_step (with_reducible exact CR.out _)))
  iterate 8 (try (first | go_big_quiet_step (with_reducible exact CR.out _) | quiet_step (with_reducible exact CR.out _)))
  iterate 8 (try (first | go_big_quiet_step (with_reducible exact CR.out _) | quiet_step (with_reducible exact CR.out _)))
  refine wpQuiet_nil ?_
  rintro ⟨wm, hbm⟩
  dsimp only
  go_wp2_with fail
  go_ret
  exact ⟨rfl, bafter hbm⟩
theorem rset_any (S : Sea) (vd vr vs : Value) (day : Int) (w : World) (hv : vld S = true) (hI : SeaIn w vd vr vs S) (d1 : 0 ≤ day) (d2 : day ≤ 100000) :
    Calls Tryd.prog 72 #[.agg #[.int .i64 S.L, vd, vr, vs], .int .i64 day] w fun e w' => e = .returned (.int .i64 (lnS S day)) ∧ Below w.heap.size w w' := by
  have hI1 := hI.alloc (Obj.cells #[.int .i64 S.L, vd, vr, vs] 24)
  have v := (vld_iff S).1 hv
  have hL := v.L1
  have hL' := v.L2
  clear v
  have HV := Lib.hid hv; clear hv
  have mc := @more_cell (w.alloc (Obj.cells #[.int .i64 S.L, vd, vr, vs] 24))
  have m1 := Int.emod_nonneg day (b := S.L) (by omega)
  have m2 := Int.emod_lt_of_pos day (b := S.L) (by omega)
  have cr : ∀ i : More (w.alloc (Obj.cells #[.int .i64 S.L, vd, vr, vs] 24)), _ := fun i => more_call (rline_s S vd vr vs (day % S.L) _ HV.out (hI1.below i.h) (by omega) (by omega))
  have CR := Lib.hid cr; clear cr
  go_enter Tryd.func72, Tryd.ntmps72
  go_wp2_with fail
  refine wp_region_more (by kernel_rfl) (by kernel_rfl) ?_
  iterate 8 (try (first | go_big_quiet_step (with_reducible exact CR.out _) | quiet_step (with_reducible exact CR.out _)))
  iterate 8 (try (first | go_big_quiet_step (with_reducible exact CR.out _) | quiet_step (with_reducible exact CR.out _)))
  iterate 8 (try (first | go_big_quiet_step (with_reducible exact CR.out _) | quiet_step (with_reducible exact CR.out _)))
  iterate 8 (try (first | go_big_quiet_step (with_reducible exact CR.out _) | quiet_step (with_reducible exact CR.out _)))
  iterate 8 (try (first | go_big_quiet_step (with_reducible exact CR.out _) | quiet_step (with_reducible exact CR.out _)))
  refine wpQuiet_nil ?_
  rintro ⟨wm, hbm⟩
  dsimp only
  go_wp2_with fail
  go_ret
  exact ⟨rfl, bafter hbm⟩

set_option maxHeartbeats 400000 in
theorem rlasts_any (S : Sea) (vd vr vs : Value) (day : Int) (nt : Bool) (w : World) (hv : vld S = true) (hI : SeaIn w vd vr vs S) (d1 : 0 ≤ day) (d2 : day ≤ 90000) :
    Calls Tryd.prog 76 #[.agg #[.int .i64 S.L, vd, vr, vs], .int .i64 day, .bool nt] w fun e w' => e = .returned (.int .i64 (las S day nt)) ∧ Below w.heap.size w w' := by
  cases nt
  · have hI1 := hI.alloc (Obj.cells #[.int .i64 S.L, vd, vr, vs] 24)
    have HV := Lib.hid hv; clear hv
    have mc := @more_cell (w.alloc (Obj.cells #[.int .i64 S.L, vd, vr, vs] 24))
    have cr : ∀ i : More (w.alloc (Obj.cells #[.int .i64 S.L, vd, vr, vs] 24)), _ := fun i => more_call (rrise_any S vd vr vs day _ HV.out (hI1.below i.h) (by omega) (by omega))
    have cs : ∀ i : More (w.alloc (Obj.cells #[.int .i64 S.L, vd, vr, vs] 24)), _ := fun i => more_call (rset_any S vd vr vs day _ HV.out (hI1.below i.h) (by omega) (by omega))
    have CR := Lib.hid cr; clear cr
    have CS := Lib.hid cs; clear cs
    have b1 := lnR_bd HV.out day
    have b2 := lnS_bd HV.out day
    go_enter Tryd.func76, Tryd.ntmps76
    go_wp2_with fail
    refine wp_region_more (by kernel_rfl) (by kernel_rfl) ?_
    iterate 8 (try (first | go_big_quiet_step ((first | with_reducible exact CR.out _ | with_reducible exact CS.out _)) | quiet_step ((first | with_reducible exact CR.out _ | with_reducible exact CS.out _))))
    iterate 8 (try (first | go_big_quiet_step ((first | with_reducible exact CR.out _ | with_reducible exact CS.out _)) | quiet_step ((first | with_reducible exact CR.out _ | with_reducible exact CS.out _))))
    iterate 8 (try (first | go_big_quiet_step ((first | with_reducible exact CR.out _ | with_reducible exact CS.out _)) | quiet_step ((first | with_reducible exact CR.out _ | with_reducible exact CS.out _))))
    iterate 8 (try (first | go_big_quiet_step ((first | with_reducible exact CR.out _ | with_reducible exact CS.out _)) | quiet_step ((first | with_reducible exact CR.out _ | with_reducible exact CS.out _))))
    iterate 8 (try (first | go_big_quiet_step ((first | with_reducible exact CR.out _ | with_reducible exact CS.out _)) | quiet_step ((first | with_reducible exact CR.out _ | with_reducible exact CS.out _))))
    refine wpQuiet_nil ?_
    rintro ⟨wm, hbm⟩
    dsimp only
    go_wp2_with fail
    go_ret
    exact ⟨ret_int (by simp [las]), bafter hbm⟩
  · have hI1 := hI.alloc (Obj.cells #[.int .i64 S.L, vd, vr, vs] 24)
    have HV := Lib.hid hv; clear hv
    have mc := @more_cell (w.alloc (Obj.cells #[.int .i64 S.L, vd, vr, vs] 24))
    have cr : ∀ i : More (w.alloc (Obj.cells #[.int .i64 S.L, vd, vr, vs] 24)), _ := fun i => more_call (rrise_any S vd vr vs (day + 1) _ HV.out (hI1.below i.h) (by omega) (by omega))
    have cs : ∀ i : More (w.alloc (Obj.cells #[.int .i64 S.L, vd, vr, vs] 24)), _ := fun i => more_call (rset_any S vd vr vs day _ HV.out (hI1.below i.h) (by omega) (by omega))
    have CR := Lib.hid cr; clear cr
    have CS := Lib.hid cs; clear cs
    have b1 := lnR_bd HV.out day
    have b2 := lnS_bd HV.out day
    have b3 := lnR_bd HV.out (day + 1)
    go_enter Tryd.func76, Tryd.ntmps76
    go_wp2_with fail
    refine wp_region_more (by kernel_rfl) (by kernel_rfl) ?_
    iterate 8 (try (first | go_big_quiet_step ((first | with_reducible exact CR.out _ | with_reducible exact CS.out _)) | quiet_step ((first | with_reducible exact CR.out _ | with_reducible exact CS.out _))))
    iterate 8 (try (first | go_big_quiet_step ((first | with_reducible exact CR.out _ | with_reducible exact CS.out _)) | quiet_step ((first | with_reducible exact CR.out _ | with_reducible exact CS.out _))))
    iterate 8 (try (first | go_big_quiet_step ((first | with_reducible exact CR.out _ | with_reducible exact CS.out _)) | quiet_step ((first | with_reducible exact CR.out _ | with_reducible exact CS.out _))))
    iterate 8 (try (first | go_big_quiet_step ((first | with_reducible exact CR.out _ | with_reducible exact CS.out _)) | quiet_step ((first | with_reducible exact CR.out _ | with_reducible exact CS.out _))))
    iterate 8 (try (first | go_big_quiet_step ((first | with_reducible exact CR.out _ | with_reducible exact CS.out _)) | quiet_step ((first | with_reducible exact CR.out _ | with_reducible exact CS.out _))))
    refine wpQuiet_nil ?_
    rintro ⟨wm, hbm⟩
    dsimp only
    go_wp2_with fail
    go_ret
    exact ⟨ret_int (by simp [las]), bafter hbm⟩
end Go.Proofs.YtpjnlcdmbkbfcaaDoor
