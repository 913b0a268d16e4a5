/- Check and Possible answer as the reference does (WearChecks): proved for every input, without conditions. -/
import Derived.Test.YtnfndiafabhhdaaGreatVL6
namespace Go.Proofs.YtnfndiafabhhdaaGreat
open Go.ChangeShapes Go.WideShapes Go.ChangeAt Go.RowKit
set_option maxRecDepth 200000 in
theorem checks_contract (H : Type) (enc : TypeId × Value → H) (W : World) (base : Nat) (args : Array Value) (ds gs : List (DataW H)) (before : List MemPlace)
    (hval : ∀ (j : Nat) t v, Tryz.f6.params[j]? = some t → args[j]? = some v → Value.okWide Tryz.prog W .any base t v)
    (hW : DataW.Whole enc Tryz.prog Tryz.f6.params.toList Rows.wearChecksSpec.vars false W args.toList ds gs before) :
    Calls Tryz.prog 6 args W fun e W' => ∃ v, e = .returned v ∧ Rows.wearChecksSpec.post enc Tryz.prog Tryz.f6 false true false false W args v W' := by
  have hW' := hW
  obtain ⟨p, q, hA0, hV, rfl, hfz, hnd⟩ := hW
  have hA : DataW.TrodAll enc Tryz.prog W 0 (fun _ => true) true Tryz.f6.params.toList args.toList ds p := hA0
  rw [Tryz.params6] at hA hval
  obtain ⟨v0, s0, d0, e0, p0, q0, hargs, rfl, rfl, h0, r0⟩ := trodAll_cons hA
  obtain ⟨rfl, rfl, rfl⟩ := trodAll_nil r0
  obtain rfl : args = #[v0] := by cases args; simp_all
  obtain ⟨rfl, rfl⟩ := trodVars_none hV
  obtain ⟨F0, vv0, vs0, rfl, hF0⟩ := fl_open (hval 0 30 v0 rfl rfl) h0
  refine (law_checks F0 vv0 vs0 W hF0).mono fun e W' ⟨he, hb⟩ => ?_
  subst he
  refine ⟨_, rfl, law_post laidOut (fun t ht => ?_) rfl rfl Tryz.underlying4 rfl hW' hb⟩
  rw [Tryz.params6] at ht
  simp at ht
  rcases ht with rfl
  all_goals exact ⟨by kernel_rfl, of_decide_eq_true (by kernel_rfl)⟩
set_option maxRecDepth 100000 in
theorem checks_lifted (os : Os) (started : os.Started) (H : Type) (enc : TypeId × Value → H) :
    ReturnsInHanded {} Tryz.checked os 6 .any (Rows.wearChecksSpec.pre6 enc Tryz.prog Tryz.f6 Rows.wearChecksRow.domain false) (Rows.wearChecksSpec.post enc Tryz.prog Tryz.f6 false true false false) := by
  refine returnsInHanded_of_change (C := Tryz.checked) own started (by kernel_rfl) Tryz.func6
    (ChangeSpec.witness6 (enc := enc) (C := Tryz.checked) false ⟨#[], #[.agg #[.slice none 0 0, .int .i64 0, .int .i64 0, .int .i64 0, .int .i64 0, .slice none 0 0]], []⟩ 8 (by kernel_rfl) (by kernel_rfl) (by kernel_rfl) (by kernel_rfl)) ?_
  intro W base args ds gs before hval hW _ _
  exact checks_contract H enc W base args ds gs before hval hW
theorem checks_j_wf : (Rows.wearChecksRow.wf (OpenSpec.ofChange Rows.wearChecksSpec)) = true := by kernel_rfl
theorem checks_j_maps0 : (mapsRowed Tryz.prog) = true := by kernel_rfl
theorem checks_j_params : (Tryz.f6.params.all (Tryz.prog.readableRec ·)) = true := by kernel_rfl
theorem checks_j_tie : (namedTie Tryz.prog Rows.wearChecksRow.named Rows.wearChecksSpec.vars) = true := by kernel_rfl
theorem checks_j_s1 : (Rows.wearChecksRow.stops == []) = true := by kernel_rfl
theorem checks_j_s2 : (Tryz.prog.stops == []) = true := by kernel_rfl
theorem checks_j_s3 : (Rows.wearChecksRow.knobs == []) = true := by kernel_rfl
theorem checks_j_s4 : (Tryz.prog.stopKnobs == []) = true := by kernel_rfl
theorem checks_j_inplace : (Rows.wearChecksRow.inPlace == Tryz.prog.inPlace 6) = true := by kernel_rfl
theorem checks_j_unf : (Rows.wearChecksRow.unfollowed == Tryz.prog.unfollowed 6) = true := by kernel_rfl
theorem checks_j_rec : (Rows.wearChecksRow.recurses == Tryz.prog.recurses 6) = true := by kernel_rfl
theorem checks_j_named : (Rows.wearChecksRow.named == Tryz.prog.varsNamed 6) = true := by kernel_rfl
theorem checks_j_maps : (Rows.wearChecksRow.maps == (Tryz.f6.params.toList ++ Rows.wearChecksSpec.plain.varTypes Tryz.prog).any (Tryz.prog.mapsRec ·)) = true := by kernel_rfl
theorem checks_j_ifaces : (Rows.wearChecksRow.ifaces == (Tryz.f6.params.toList ++ Rows.wearChecksSpec.plain.varTypes Tryz.prog).any (Tryz.prog.ifacesRec ·)) = true := by kernel_rfl
theorem checks_j_mapsout : (Rows.wearChecksRow.mapsOut == Tryz.prog.mapsAmong Tryz.f6.resultTypes.toList) = true := by kernel_rfl
theorem checks_j_loops : (Rows.wearChecksRow.loops == (Tryz.f6.params.toList ++ Rows.wearChecksSpec.plain.varTypes Tryz.prog).any (Tryz.prog.loopsFrom ·)) = true := by kernel_rfl
theorem checks_j_wide : (Rows.wearChecksRow.wideKeys == (Tryz.f6.params.toList ++ Rows.wearChecksSpec.plain.varTypes Tryz.prog ++ Tryz.f6.resultTypes.toList).any (Tryz.prog.wideKeysFrom ·)) = true := by kernel_rfl
theorem checks_j_vars : (Rows.wearChecksSpec.vars.all (Tryz.prog.varReadable ·)) = true := by kernel_rfl
theorem checks_j_res : (Tryz.f6.resultTypes.all (fun t => Tryz.prog.readableRec t && decide (t < Tryz.prog.types.size))) = true := by kernel_rfl
theorem checks_j_ifout : (Rows.wearChecksRow.ifacesOut == Tryz.f6.resultTypes.toList.any (Tryz.prog.ifacesRec ·)) = true := by kernel_rfl
theorem checks_j_loopsout : (Rows.wearChecksRow.loopsOut == Tryz.f6.resultTypes.toList.any (Tryz.prog.loopsFrom ·)) = true := by kernel_rfl
theorem checks_j_keys : (Rows.wearChecksRow.plainKeys == Tryz.prog.plainKeys) = true := by kernel_rfl
theorem checks_j_short : (Rows.wearChecksRow.shortTexts.isNone) = true := by kernel_rfl
theorem checks_j_heard : (Tryz.prog.stopsHeard) = true := by kernel_rfl
theorem checks_j_enter : (Tryz.prog.mayEnter) = true := by kernel_rfl
theorem checks_j_lifted : (Rows.wearChecksRow.lifted == Tryz.prog.liftsFinal) = true := by kernel_rfl
theorem checks_j_make : (Tryz.prog.make == some Rows.wearChecksRow.make) = true := by kernel_rfl
theorem checks_j_pinned : (Rows.wearChecksRow.pinned == Rows.wearChecksRow.pinnedBy) = true := by kernel_rfl
theorem checks_j_veiled : (Rows.wearChecksRow.veiled == (Tryz.f6.params.toList ++ Rows.wearChecksSpec.plain.varTypes Tryz.prog ++ Tryz.f6.resultTypes.toList).any (Tryz.prog.veiledRec ·)) = true := by kernel_rfl
theorem checks_j_veilfit : (Rows.wearChecksRow.veiledFits Tryz.prog Tryz.f6.params.toList (Tryz.f6.params.toList ++ Rows.wearChecksSpec.plain.varTypes Tryz.prog ++ Tryz.f6.resultTypes.toList)) = true := by kernel_rfl
theorem checks_facts : joinedFacts Tryz.prog 6 Tryz.f6 Rows.wearChecksSpec Rows.wearChecksRow = true := by
  unfold joinedFacts
  exact and_true_of (and_true_of (and_true_of (and_true_of (and_true_of (and_true_of (and_true_of (and_true_of (and_true_of (and_true_of (and_true_of (and_true_of (and_true_of (and_true_of (and_true_of (and_true_of (and_true_of (and_true_of (and_true_of (and_true_of (and_true_of (and_true_of (and_true_of (and_true_of (and_true_of (and_true_of (and_true_of (and_true_of (and_true_of (and_true_of (and_true_of (checks_j_wf) laidOut) checks_j_maps0) checks_j_params) checks_j_tie) checks_j_s1) checks_j_s2) checks_j_s3) checks_j_s4) checks_j_inplace) checks_j_unf) checks_j_rec) checks_j_named) checks_j_maps) checks_j_ifaces) checks_j_mapsout) checks_j_loops) checks_j_wide) checks_j_vars) checks_j_res) checks_j_ifout) checks_j_loopsout) checks_j_keys) checks_j_short) checks_j_heard) checks_j_enter) checks_j_lifted) checks_j_make) (by kernel_rfl)) checks_j_pinned) checks_j_veiled) checks_j_veilfit
theorem checks_wrap : (Tryz.f6).isWrapper Tryz.prog Rows.wearChecksRow.wrapper Rows.wearChecksRow.mainSum := by
  unfold Func.isWrapper; first | (rw [if_pos (by decide +kernel)]; kernel_rfl) | (rw [if_neg (by decide +kernel)]; exact ⟨rfl, rfl⟩)
theorem checks_inst : (Tryz.f6).isInstance Tryz.prog Rows.wearChecksRow.origin Rows.wearChecksRow.targs := of_decide_eq_true (by kernel_rfl)
theorem checks_name : Tryz.prog.funcNamed Rows.wearChecksRow.func = some 6 := by kernel_rfl
theorem checks_said : Rows.WearChecksSaid :=
  OpenClaim.holds_of_wide 6 Tryz.f6 rfl rfl rfl rfl rfl rfl rfl ⟨rfl, rfl, rfl, rfl, rfl⟩ rfl rfl rfl rfl rfl checks_name Tryz.func6 checks_facts checks_inst checks_wrap
    (fun os started H enc _ => checks_lifted os started H enc)
end Go.Proofs.YtnfndiafabhhdaaGreat
