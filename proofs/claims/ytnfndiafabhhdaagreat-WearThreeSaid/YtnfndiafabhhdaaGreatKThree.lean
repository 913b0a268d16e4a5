/- What Clash returns, and only what contradicts itself, holds alone (WearThree): proved for every input, without conditions. -/
import Derived.Test.YtnfndiafabhhdaaGreatJ3
namespace Go.Proofs.YtnfndiafabhhdaaGreat
open Go.ChangeShapes Go.WideShapes Go.ChangeAt Go.RowKit
set_option maxRecDepth 200000 in
theorem three_contract (H : Type) (enc : TypeId × Value → H) (W : World) (base : Nat) (args : Array Value) (ds gs : List (DataW H)) (before : List MemPlace)
    (hval : ∀ (j : Nat) t v, Tryz.f10.params[j]? = some t → args[j]? = some v → Value.okWide Tryz.prog W .any base t v)
    (hW : DataW.Whole enc Tryz.prog Tryz.f10.params.toList Rows.wearThreeSpec.vars false W args.toList ds gs before) :
    Calls Tryz.prog 10 args W fun e W' => ∃ v, e = .returned v ∧ Rows.wearThreeSpec.post enc Tryz.prog Tryz.f10 false true false false W args v W' := by
  have hW' := hW
  obtain ⟨p, q, hA0, hV, rfl, hfz, hnd⟩ := hW
  have hA : DataW.TrodAll enc Tryz.prog W 0 (fun _ => true) true Tryz.f10.params.toList args.toList ds p := hA0
  rw [Tryz.params10] at hA hval
  obtain ⟨v0, s0, d0, e0, p0, q0, hargs, rfl, rfl, h0, r0⟩ := trodAll_cons hA
  obtain ⟨v1, s1, d1, e1, p1, q1, rfl, rfl, rfl, h1, r1⟩ := trodAll_cons r0
  obtain ⟨rfl, rfl, rfl⟩ := trodAll_nil r1
  obtain rfl : args = #[v0, v1] := by cases args; simp_all
  obtain ⟨rfl, rfl⟩ := trodVars_none hV
  obtain ⟨F0, vv0, vs0, rfl, hF0⟩ := fl_open (hval 0 30 v0 rfl rfl) h0
  obtain ⟨l1, o1, m1, c1, rfl, hL1⟩ := list_open (hval 1 51 v1 rfl rfl) h1
  refine (law_three F0 vv0 vs0 l1 o1 m1 c1 W hF0 hL1).mono fun e W' ⟨he, hb⟩ => ?_
  subst he
  refine ⟨_, rfl, law_post laidOut (fun t ht => ?_) rfl rfl Tryz.underlying4 rfl hW' hb⟩
  rw [Tryz.params10] at ht
  simp at ht
  rcases ht with rfl | rfl
  all_goals exact ⟨by kernel_rfl, of_decide_eq_true (by kernel_rfl)⟩
set_option maxRecDepth 100000 in
theorem three_lifted (os : Os) (started : os.Started) (H : Type) (enc : TypeId × Value → H) :
    ReturnsInHanded {} Tryz.checked os 10 .any (Rows.wearThreeSpec.pre6 enc Tryz.prog Tryz.f10 Rows.wearThreeRow.domain false) (Rows.wearThreeSpec.post enc Tryz.prog Tryz.f10 false true false false) := by
  refine returnsInHanded_of_change (C := Tryz.checked) own started (by kernel_rfl) Tryz.func10
    (ChangeSpec.witness6 (enc := enc) (C := Tryz.checked) false ⟨#[], #[.agg #[.slice none 0 0, .int .i64 0, .int .i64 0, .int .i64 0, .int .i64 0, .slice none 0 0], .slice none 0 0], []⟩ 8 (by kernel_rfl) (by kernel_rfl) (by kernel_rfl) (by kernel_rfl)) ?_
  intro W base args ds gs before hval hW _ _
  exact three_contract H enc W base args ds gs before hval hW
theorem three_j_wf : (Rows.wearThreeRow.wf (OpenSpec.ofChange Rows.wearThreeSpec)) = true := by kernel_rfl
theorem three_j_maps0 : (mapsRowed Tryz.prog) = true := by kernel_rfl
theorem three_j_params : (Tryz.f10.params.all (Tryz.prog.readableRec ·)) = true := by kernel_rfl
theorem three_j_tie : (namedTie Tryz.prog Rows.wearThreeRow.named Rows.wearThreeSpec.vars) = true := by kernel_rfl
theorem three_j_s1 : (Rows.wearThreeRow.stops == []) = true := by kernel_rfl
theorem three_j_s2 : (Tryz.prog.stops == []) = true := by kernel_rfl
theorem three_j_s3 : (Rows.wearThreeRow.knobs == []) = true := by kernel_rfl
theorem three_j_s4 : (Tryz.prog.stopKnobs == []) = true := by kernel_rfl
theorem three_j_inplace : (Rows.wearThreeRow.inPlace == Tryz.prog.inPlace 10) = true := by kernel_rfl
theorem three_j_unf : (Rows.wearThreeRow.unfollowed == Tryz.prog.unfollowed 10) = true := by kernel_rfl
theorem three_j_rec : (Rows.wearThreeRow.recurses == Tryz.prog.recurses 10) = true := by kernel_rfl
theorem three_j_named : (Rows.wearThreeRow.named == Tryz.prog.varsNamed 10) = true := by kernel_rfl
theorem three_j_maps : (Rows.wearThreeRow.maps == (Tryz.f10.params.toList ++ Rows.wearThreeSpec.plain.varTypes Tryz.prog).any (Tryz.prog.mapsRec ·)) = true := by kernel_rfl
theorem three_j_ifaces : (Rows.wearThreeRow.ifaces == (Tryz.f10.params.toList ++ Rows.wearThreeSpec.plain.varTypes Tryz.prog).any (Tryz.prog.ifacesRec ·)) = true := by kernel_rfl
theorem three_j_mapsout : (Rows.wearThreeRow.mapsOut == Tryz.prog.mapsAmong Tryz.f10.resultTypes.toList) = true := by kernel_rfl
theorem three_j_loops : (Rows.wearThreeRow.loops == (Tryz.f10.params.toList ++ Rows.wearThreeSpec.plain.varTypes Tryz.prog).any (Tryz.prog.loopsFrom ·)) = true := by kernel_rfl
theorem three_j_wide : (Rows.wearThreeRow.wideKeys == (Tryz.f10.params.toList ++ Rows.wearThreeSpec.plain.varTypes Tryz.prog ++ Tryz.f10.resultTypes.toList).any (Tryz.prog.wideKeysFrom ·)) = true := by kernel_rfl
theorem three_j_vars : (Rows.wearThreeSpec.vars.all (Tryz.prog.varReadable ·)) = true := by kernel_rfl
theorem three_j_res : (Tryz.f10.resultTypes.all (fun t => Tryz.prog.readableRec t && decide (t < Tryz.prog.types.size))) = true := by kernel_rfl
theorem three_j_ifout : (Rows.wearThreeRow.ifacesOut == Tryz.f10.resultTypes.toList.any (Tryz.prog.ifacesRec ·)) = true := by kernel_rfl
theorem three_j_loopsout : (Rows.wearThreeRow.loopsOut == Tryz.f10.resultTypes.toList.any (Tryz.prog.loopsFrom ·)) = true := by kernel_rfl
theorem three_j_keys : (Rows.wearThreeRow.plainKeys == Tryz.prog.plainKeys) = true := by kernel_rfl
theorem three_j_short : (Rows.wearThreeRow.shortTexts.isNone) = true := by kernel_rfl
theorem three_j_heard : (Tryz.prog.stopsHeard) = true := by kernel_rfl
theorem three_j_enter : (Tryz.prog.mayEnter) = true := by kernel_rfl
theorem three_j_lifted : (Rows.wearThreeRow.lifted == Tryz.prog.liftsFinal) = true := by kernel_rfl
theorem three_j_make : (Tryz.prog.make == some Rows.wearThreeRow.make) = true := by kernel_rfl
theorem three_j_pinned : (Rows.wearThreeRow.pinned == Rows.wearThreeRow.pinnedBy) = true := by kernel_rfl
theorem three_j_veiled : (Rows.wearThreeRow.veiled == (Tryz.f10.params.toList ++ Rows.wearThreeSpec.plain.varTypes Tryz.prog ++ Tryz.f10.resultTypes.toList).any (Tryz.prog.veiledRec ·)) = true := by kernel_rfl
theorem three_j_veilfit : (Rows.wearThreeRow.veiledFits Tryz.prog Tryz.f10.params.toList (Tryz.f10.params.toList ++ Rows.wearThreeSpec.plain.varTypes Tryz.prog ++ Tryz.f10.resultTypes.toList)) = true := by kernel_rfl
theorem three_facts : joinedFacts Tryz.prog 10 Tryz.f10 Rows.wearThreeSpec Rows.wearThreeRow = true := by
  unfold joinedFacts
  exact and_true_of (and_true_of (and_true_of (and_true_of (and_true_of (and_true_of (and_true_of (and_true_of (and_true_of (and_true_of (and_true_of (and_true_of (and_true_of (and_true_of (and_true_of (and_true_of (and_true_of (and_true_of (and_true_of (and_true_of (and_true_of (and_true_of (and_true_of (and_true_of (and_true_of (and_true_of (and_true_of (and_true_of (and_true_of (and_true_of (and_true_of (three_j_wf) laidOut) three_j_maps0) three_j_params) three_j_tie) three_j_s1) three_j_s2) three_j_s3) three_j_s4) three_j_inplace) three_j_unf) three_j_rec) three_j_named) three_j_maps) three_j_ifaces) three_j_mapsout) three_j_loops) three_j_wide) three_j_vars) three_j_res) three_j_ifout) three_j_loopsout) three_j_keys) three_j_short) three_j_heard) three_j_enter) three_j_lifted) three_j_make) (by kernel_rfl)) three_j_pinned) three_j_veiled) three_j_veilfit
theorem three_wrap : (Tryz.f10).isWrapper Tryz.prog Rows.wearThreeRow.wrapper Rows.wearThreeRow.mainSum := by
  unfold Func.isWrapper; first | (rw [if_pos (by decide +kernel)]; kernel_rfl) | (rw [if_neg (by decide +kernel)]; exact ⟨rfl, rfl⟩)
theorem three_inst : (Tryz.f10).isInstance Tryz.prog Rows.wearThreeRow.origin Rows.wearThreeRow.targs := of_decide_eq_true (by kernel_rfl)
theorem three_name : Tryz.prog.funcNamed Rows.wearThreeRow.func = some 10 := by kernel_rfl
theorem three_said : Rows.WearThreeSaid :=
  OpenClaim.holds_of_wide 10 Tryz.f10 rfl rfl rfl rfl rfl rfl rfl ⟨rfl, rfl, rfl, rfl, rfl⟩ rfl rfl rfl rfl rfl three_name Tryz.func10 three_facts three_inst three_wrap
    (fun os started H enc _ => three_lifted os started H enc)
end Go.Proofs.YtnfndiafabhhdaaGreat
