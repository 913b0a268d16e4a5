/- Bounds, Wear and Start answer as the reference does (WearBounds): proved for every input, without conditions. -/
import Derived.Test.YtnfndiafabhhdaaGreatVL12
namespace Go.Proofs.YtnfndiafabhhdaaGreat
open Go.ChangeShapes Go.WideShapes Go.ChangeAt Go.RowKit
set_option maxRecDepth 200000 in
theorem bounds_contract (H : Type) (enc : TypeId × Value → H) (W : World) (base : Nat) (args : Array Value) (ds gs : List (DataW H)) (before : List MemPlace)
    (hval : ∀ (j : Nat) t v, Tryz.f12.params[j]? = some t → args[j]? = some v → Value.okWide Tryz.prog W .any base t v)
    (hW : DataW.Whole enc Tryz.prog Tryz.f12.params.toList Rows.wearBoundsSpec.vars false W args.toList ds gs before) :
    Calls Tryz.prog 12 args W fun e W' => ∃ v, e = .returned v ∧ Rows.wearBoundsSpec.post enc Tryz.prog Tryz.f12 false true false false W args v W' := by
  have hW' := hW
  obtain ⟨p, q, hA0, hV, rfl, hfz, hnd⟩ := hW
  have hA : DataW.TrodAll enc Tryz.prog W 0 (fun _ => true) true Tryz.f12.params.toList args.toList ds p := hA0
  rw [Tryz.params12] at hA hval
  obtain ⟨v0, s0, d0, e0, p0, q0, hargs, rfl, rfl, h0, r0⟩ := trodAll_cons hA
  obtain ⟨rfl, rfl, rfl⟩ := trodAll_nil r0
  obtain rfl : args = #[v0] := by cases args; simp_all
  obtain ⟨rfl, rfl⟩ := trodVars_none hV
  obtain ⟨F0, vv0, vs0, rfl, hF0⟩ := fl_open (hval 0 30 v0 rfl rfl) h0
  refine (law_bounds F0 vv0 vs0 W hF0).mono fun e W' ⟨he, hb⟩ => ?_
  subst he
  refine ⟨_, rfl, law_post laidOut (fun t ht => ?_) rfl rfl Tryz.underlying4 rfl hW' hb⟩
  rw [Tryz.params12] at ht
  simp at ht
  rcases ht with rfl
  all_goals exact ⟨by kernel_rfl, of_decide_eq_true (by kernel_rfl)⟩
set_option maxRecDepth 100000 in
theorem bounds_lifted (os : Os) (started : os.Started) (H : Type) (enc : TypeId × Value → H) :
    ReturnsInHanded {} Tryz.checked os 12 .any (Rows.wearBoundsSpec.pre6 enc Tryz.prog Tryz.f12 Rows.wearBoundsRow.domain false) (Rows.wearBoundsSpec.post enc Tryz.prog Tryz.f12 false true false false) := by
  refine returnsInHanded_of_change (C := Tryz.checked) own started (by kernel_rfl) Tryz.func12
    (ChangeSpec.witness6 (enc := enc) (C := Tryz.checked) false ⟨#[], #[.agg #[.slice none 0 0, .int .i64 0, .int .i64 0, .int .i64 0, .int .i64 0, .slice none 0 0]], []⟩ 8 (by kernel_rfl) (by kernel_rfl) (by kernel_rfl) (by kernel_rfl)) ?_
  intro W base args ds gs before hval hW _ _
  exact bounds_contract H enc W base args ds gs before hval hW
theorem bounds_j_wf : (Rows.wearBoundsRow.wf (OpenSpec.ofChange Rows.wearBoundsSpec)) = true := by kernel_rfl
theorem bounds_j_maps0 : (mapsRowed Tryz.prog) = true := by kernel_rfl
theorem bounds_j_params : (Tryz.f12.params.all (Tryz.prog.readableRec ·)) = true := by kernel_rfl
theorem bounds_j_tie : (namedTie Tryz.prog Rows.wearBoundsRow.named Rows.wearBoundsSpec.vars) = true := by kernel_rfl
theorem bounds_j_s1 : (Rows.wearBoundsRow.stops == []) = true := by kernel_rfl
theorem bounds_j_s2 : (Tryz.prog.stops == []) = true := by kernel_rfl
theorem bounds_j_s3 : (Rows.wearBoundsRow.knobs == []) = true := by kernel_rfl
theorem bounds_j_s4 : (Tryz.prog.stopKnobs == []) = true := by kernel_rfl
theorem bounds_j_inplace : (Rows.wearBoundsRow.inPlace == Tryz.prog.inPlace 12) = true := by kernel_rfl
theorem bounds_j_unf : (Rows.wearBoundsRow.unfollowed == Tryz.prog.unfollowed 12) = true := by kernel_rfl
theorem bounds_j_rec : (Rows.wearBoundsRow.recurses == Tryz.prog.recurses 12) = true := by kernel_rfl
theorem bounds_j_named : (Rows.wearBoundsRow.named == Tryz.prog.varsNamed 12) = true := by kernel_rfl
theorem bounds_j_maps : (Rows.wearBoundsRow.maps == (Tryz.f12.params.toList ++ Rows.wearBoundsSpec.plain.varTypes Tryz.prog).any (Tryz.prog.mapsRec ·)) = true := by kernel_rfl
theorem bounds_j_ifaces : (Rows.wearBoundsRow.ifaces == (Tryz.f12.params.toList ++ Rows.wearBoundsSpec.plain.varTypes Tryz.prog).any (Tryz.prog.ifacesRec ·)) = true := by kernel_rfl
theorem bounds_j_mapsout : (Rows.wearBoundsRow.mapsOut == Tryz.prog.mapsAmong Tryz.f12.resultTypes.toList) = true := by kernel_rfl
theorem bounds_j_loops : (Rows.wearBoundsRow.loops == (Tryz.f12.params.toList ++ Rows.wearBoundsSpec.plain.varTypes Tryz.prog).any (Tryz.prog.loopsFrom ·)) = true := by kernel_rfl
theorem bounds_j_wide : (Rows.wearBoundsRow.wideKeys == (Tryz.f12.params.toList ++ Rows.wearBoundsSpec.plain.varTypes Tryz.prog ++ Tryz.f12.resultTypes.toList).any (Tryz.prog.wideKeysFrom ·)) = true := by kernel_rfl
theorem bounds_j_vars : (Rows.wearBoundsSpec.vars.all (Tryz.prog.varReadable ·)) = true := by kernel_rfl
theorem bounds_j_res : (Tryz.f12.resultTypes.all (fun t => Tryz.prog.readableRec t && decide (t < Tryz.prog.types.size))) = true := by kernel_rfl
theorem bounds_j_ifout : (Rows.wearBoundsRow.ifacesOut == Tryz.f12.resultTypes.toList.any (Tryz.prog.ifacesRec ·)) = true := by kernel_rfl
theorem bounds_j_loopsout : (Rows.wearBoundsRow.loopsOut == Tryz.f12.resultTypes.toList.any (Tryz.prog.loopsFrom ·)) = true := by kernel_rfl
theorem bounds_j_keys : (Rows.wearBoundsRow.plainKeys == Tryz.prog.plainKeys) = true := by kernel_rfl
theorem bounds_j_short : (Rows.wearBoundsRow.shortTexts.isNone) = true := by kernel_rfl
theorem bounds_j_heard : (Tryz.prog.stopsHeard) = true := by kernel_rfl
theorem bounds_j_enter : (Tryz.prog.mayEnter) = true := by kernel_rfl
theorem bounds_j_lifted : (Rows.wearBoundsRow.lifted == Tryz.prog.liftsFinal) = true := by kernel_rfl
theorem bounds_j_make : (Tryz.prog.make == some Rows.wearBoundsRow.make) = true := by kernel_rfl
theorem bounds_j_pinned : (Rows.wearBoundsRow.pinned == Rows.wearBoundsRow.pinnedBy) = true := by kernel_rfl
theorem bounds_j_veiled : (Rows.wearBoundsRow.veiled == (Tryz.f12.params.toList ++ Rows.wearBoundsSpec.plain.varTypes Tryz.prog ++ Tryz.f12.resultTypes.toList).any (Tryz.prog.veiledRec ·)) = true := by kernel_rfl
theorem bounds_j_veilfit : (Rows.wearBoundsRow.veiledFits Tryz.prog Tryz.f12.params.toList (Tryz.f12.params.toList ++ Rows.wearBoundsSpec.plain.varTypes Tryz.prog ++ Tryz.f12.resultTypes.toList)) = true := by kernel_rfl
theorem bounds_facts : joinedFacts Tryz.prog 12 Tryz.f12 Rows.wearBoundsSpec Rows.wearBoundsRow = true := by
  unfold joinedFacts
  exact and_true_of (and_true_of (and_true_of (and_true_of (and_true_of (and_true_of (and_true_of (and_true_of (and_true_of (and_true_of (and_true_of (and_true_of (and_true_of (and_true_of (and_true_of (and_true_of (and_true_of (and_true_of (and_true_of (and_true_of (and_true_of (and_true_of (and_true_of (and_true_of (and_true_of (and_true_of (and_true_of (and_true_of (and_true_of (and_true_of (and_true_of (bounds_j_wf) laidOut) bounds_j_maps0) bounds_j_params) bounds_j_tie) bounds_j_s1) bounds_j_s2) bounds_j_s3) bounds_j_s4) bounds_j_inplace) bounds_j_unf) bounds_j_rec) bounds_j_named) bounds_j_maps) bounds_j_ifaces) bounds_j_mapsout) bounds_j_loops) bounds_j_wide) bounds_j_vars) bounds_j_res) bounds_j_ifout) bounds_j_loopsout) bounds_j_keys) bounds_j_short) bounds_j_heard) bounds_j_enter) bounds_j_lifted) bounds_j_make) (by kernel_rfl)) bounds_j_pinned) bounds_j_veiled) bounds_j_veilfit
theorem bounds_wrap : (Tryz.f12).isWrapper Tryz.prog Rows.wearBoundsRow.wrapper Rows.wearBoundsRow.mainSum := by
  unfold Func.isWrapper; first | (rw [if_pos (by decide +kernel)]; kernel_rfl) | (rw [if_neg (by decide +kernel)]; exact ⟨rfl, rfl⟩)
theorem bounds_inst : (Tryz.f12).isInstance Tryz.prog Rows.wearBoundsRow.origin Rows.wearBoundsRow.targs := of_decide_eq_true (by kernel_rfl)
theorem bounds_name : Tryz.prog.funcNamed Rows.wearBoundsRow.func = some 12 := by kernel_rfl
theorem bounds_said : Rows.WearBoundsSaid :=
  OpenClaim.holds_of_wide 12 Tryz.f12 rfl rfl rfl rfl rfl rfl rfl ⟨rfl, rfl, rfl, rfl, rfl⟩ rfl rfl rfl rfl rfl bounds_name Tryz.func12 bounds_facts bounds_inst bounds_wrap
    (fun os started H enc _ => bounds_lifted os started H enc)
end Go.Proofs.YtnfndiafabhhdaaGreat
