/- CheckClash, Without and Rests answer as the reference does, which accepts what Clash returns (WearClashes): proved for every input, without conditions. -/
import Derived.Test.YtnfndiafabhhdaaGreatJ1
namespace Go.Proofs.YtnfndiafabhhdaaGreat
open Go.ChangeShapes Go.WideShapes Go.ChangeAt Go.RowKit
set_option maxRecDepth 200000 in
theorem clashes_contract (H : Type) (enc : TypeId × Value → H) (W : World) (base : Nat) (args : Array Value) (ds gs : List (DataW H)) (before : List MemPlace)
    (hval : ∀ (j : Nat) t v, Tryz.f13.params[j]? = some t → args[j]? = some v → Value.okWide Tryz.prog W .any base t v)
    (hW : DataW.Whole enc Tryz.prog Tryz.f13.params.toList Rows.wearClashesSpec.vars false W args.toList ds gs before) :
    Calls Tryz.prog 13 args W fun e W' => ∃ v, e = .returned v ∧ Rows.wearClashesSpec.post enc Tryz.prog Tryz.f13 false true false false W args v W' := by
  have hW' := hW
  obtain ⟨p, q, hA0, hV, rfl, hfz, hnd⟩ := hW
  have hA : DataW.TrodAll enc Tryz.prog W 0 (fun _ => true) true Tryz.f13.params.toList args.toList ds p := hA0
  rw [Tryz.params13] at hA hval
  obtain ⟨v0, s0, d0, e0, p0, q0, hargs, rfl, rfl, h0, r0⟩ := trodAll_cons hA
  obtain ⟨v1, s1, d1, e1, p1, q1, rfl, rfl, rfl, h1, r1⟩ := trodAll_cons r0
  obtain ⟨v2, s2, d2, e2, p2, q2, rfl, rfl, rfl, h2, r2⟩ := trodAll_cons r1
  obtain ⟨rfl, rfl, rfl⟩ := trodAll_nil r2
  obtain rfl : args = #[v0, v1, v2] := by cases args; simp_all
  obtain ⟨rfl, rfl⟩ := trodVars_none hV
  obtain ⟨F0, vv0, vs0, rfl, hF0⟩ := fl_open (hval 0 30 v0 rfl rfl) h0
  obtain ⟨l1, o1, m1, c1, rfl, hL1⟩ := list_open (hval 1 51 v1 rfl rfl) h1
  obtain ⟨n2, rfl, lo2, hi2⟩ := int_open (hval 2 3 v2 rfl rfl) h2
  refine (law_clashes F0 vv0 vs0 l1 o1 m1 c1 n2 W hF0 hL1 lo2 hi2).mono fun e W' ⟨he, hb⟩ => ?_
  subst he
  refine ⟨_, rfl, law_post laidOut (fun t ht => ?_) rfl rfl Tryz.underlying4 rfl hW' hb⟩
  rw [Tryz.params13] at ht
  simp at ht
  rcases ht with rfl | rfl | rfl
  all_goals exact ⟨by kernel_rfl, of_decide_eq_true (by kernel_rfl)⟩
set_option maxRecDepth 100000 in
theorem clashes_lifted (os : Os) (started : os.Started) (H : Type) (enc : TypeId × Value → H) :
    ReturnsInHanded {} Tryz.checked os 13 .any (Rows.wearClashesSpec.pre6 enc Tryz.prog Tryz.f13 Rows.wearClashesRow.domain false) (Rows.wearClashesSpec.post enc Tryz.prog Tryz.f13 false true false false) := by
  refine returnsInHanded_of_change (C := Tryz.checked) own started (by kernel_rfl) Tryz.func13
    (ChangeSpec.witness6 (enc := enc) (C := Tryz.checked) false ⟨#[], #[.agg #[.slice none 0 0, .int .i64 0, .int .i64 0, .int .i64 0, .int .i64 0, .slice none 0 0], .slice none 0 0, .int .i64 0], []⟩ 8 (by kernel_rfl) (by kernel_rfl) (by kernel_rfl) (by kernel_rfl)) ?_
  intro W base args ds gs before hval hW _ _
  exact clashes_contract H enc W base args ds gs before hval hW
theorem clashes_j_wf : (Rows.wearClashesRow.wf (OpenSpec.ofChange Rows.wearClashesSpec)) = true := by kernel_rfl
theorem clashes_j_maps0 : (mapsRowed Tryz.prog) = true := by kernel_rfl
theorem clashes_j_params : (Tryz.f13.params.all (Tryz.prog.readableRec ·)) = true := by kernel_rfl
theorem clashes_j_tie : (namedTie Tryz.prog Rows.wearClashesRow.named Rows.wearClashesSpec.vars) = true := by kernel_rfl
theorem clashes_j_s1 : (Rows.wearClashesRow.stops == []) = true := by kernel_rfl
theorem clashes_j_s2 : (Tryz.prog.stops == []) = true := by kernel_rfl
theorem clashes_j_s3 : (Rows.wearClashesRow.knobs == []) = true := by kernel_rfl
theorem clashes_j_s4 : (Tryz.prog.stopKnobs == []) = true := by kernel_rfl
theorem clashes_j_inplace : (Rows.wearClashesRow.inPlace == Tryz.prog.inPlace 13) = true := by kernel_rfl
theorem clashes_j_unf : (Rows.wearClashesRow.unfollowed == Tryz.prog.unfollowed 13) = true := by kernel_rfl
theorem clashes_j_rec : (Rows.wearClashesRow.recurses == Tryz.prog.recurses 13) = true := by kernel_rfl
theorem clashes_j_named : (Rows.wearClashesRow.named == Tryz.prog.varsNamed 13) = true := by kernel_rfl
theorem clashes_j_maps : (Rows.wearClashesRow.maps == (Tryz.f13.params.toList ++ Rows.wearClashesSpec.plain.varTypes Tryz.prog).any (Tryz.prog.mapsRec ·)) = true := by kernel_rfl
theorem clashes_j_ifaces : (Rows.wearClashesRow.ifaces == (Tryz.f13.params.toList ++ Rows.wearClashesSpec.plain.varTypes Tryz.prog).any (Tryz.prog.ifacesRec ·)) = true := by kernel_rfl
theorem clashes_j_mapsout : (Rows.wearClashesRow.mapsOut == Tryz.prog.mapsAmong Tryz.f13.resultTypes.toList) = true := by kernel_rfl
theorem clashes_j_loops : (Rows.wearClashesRow.loops == (Tryz.f13.params.toList ++ Rows.wearClashesSpec.plain.varTypes Tryz.prog).any (Tryz.prog.loopsFrom ·)) = true := by kernel_rfl
theorem clashes_j_wide : (Rows.wearClashesRow.wideKeys == (Tryz.f13.params.toList ++ Rows.wearClashesSpec.plain.varTypes Tryz.prog ++ Tryz.f13.resultTypes.toList).any (Tryz.prog.wideKeysFrom ·)) = true := by kernel_rfl
theorem clashes_j_vars : (Rows.wearClashesSpec.vars.all (Tryz.prog.varReadable ·)) = true := by kernel_rfl
theorem clashes_j_res : (Tryz.f13.resultTypes.all (fun t => Tryz.prog.readableRec t && decide (t < Tryz.prog.types.size))) = true := by kernel_rfl
theorem clashes_j_ifout : (Rows.wearClashesRow.ifacesOut == Tryz.f13.resultTypes.toList.any (Tryz.prog.ifacesRec ·)) = true := by kernel_rfl
theorem clashes_j_loopsout : (Rows.wearClashesRow.loopsOut == Tryz.f13.resultTypes.toList.any (Tryz.prog.loopsFrom ·)) = true := by kernel_rfl
theorem clashes_j_keys : (Rows.wearClashesRow.plainKeys == Tryz.prog.plainKeys) = true := by kernel_rfl
theorem clashes_j_short : (Rows.wearClashesRow.shortTexts.isNone) = true := by kernel_rfl
theorem clashes_j_heard : (Tryz.prog.stopsHeard) = true := by kernel_rfl
theorem clashes_j_enter : (Tryz.prog.mayEnter) = true := by kernel_rfl
theorem clashes_j_lifted : (Rows.wearClashesRow.lifted == Tryz.prog.liftsFinal) = true := by kernel_rfl
theorem clashes_j_make : (Tryz.prog.make == some Rows.wearClashesRow.make) = true := by kernel_rfl
theorem clashes_j_pinned : (Rows.wearClashesRow.pinned == Rows.wearClashesRow.pinnedBy) = true := by kernel_rfl
theorem clashes_j_veiled : (Rows.wearClashesRow.veiled == (Tryz.f13.params.toList ++ Rows.wearClashesSpec.plain.varTypes Tryz.prog ++ Tryz.f13.resultTypes.toList).any (Tryz.prog.veiledRec ·)) = true := by kernel_rfl
theorem clashes_j_veilfit : (Rows.wearClashesRow.veiledFits Tryz.prog Tryz.f13.params.toList (Tryz.f13.params.toList ++ Rows.wearClashesSpec.plain.varTypes Tryz.prog ++ Tryz.f13.resultTypes.toList)) = true := by kernel_rfl
theorem clashes_facts : joinedFacts Tryz.prog 13 Tryz.f13 Rows.wearClashesSpec Rows.wearClashesRow = true := by
  unfold joinedFacts
  exact and_true_of (and_true_of (and_true_of (and_true_of (and_true_of (and_true_of (and_true_of (and_true_of (and_true_of (and_true_of (and_true_of (and_true_of (and_true_of (and_true_of (and_true_of (and_true_of (and_true_of (and_true_of (and_true_of (and_true_of (and_true_of (and_true_of (and_true_of (and_true_of (and_true_of (and_true_of (and_true_of (and_true_of (and_true_of (and_true_of (and_true_of (clashes_j_wf) laidOut) clashes_j_maps0) clashes_j_params) clashes_j_tie) clashes_j_s1) clashes_j_s2) clashes_j_s3) clashes_j_s4) clashes_j_inplace) clashes_j_unf) clashes_j_rec) clashes_j_named) clashes_j_maps) clashes_j_ifaces) clashes_j_mapsout) clashes_j_loops) clashes_j_wide) clashes_j_vars) clashes_j_res) clashes_j_ifout) clashes_j_loopsout) clashes_j_keys) clashes_j_short) clashes_j_heard) clashes_j_enter) clashes_j_lifted) clashes_j_make) (by kernel_rfl)) clashes_j_pinned) clashes_j_veiled) clashes_j_veilfit
theorem clashes_wrap : (Tryz.f13).isWrapper Tryz.prog Rows.wearClashesRow.wrapper Rows.wearClashesRow.mainSum := by
  unfold Func.isWrapper; first | (rw [if_pos (by decide +kernel)]; kernel_rfl) | (rw [if_neg (by decide +kernel)]; exact ⟨rfl, rfl⟩)
theorem clashes_inst : (Tryz.f13).isInstance Tryz.prog Rows.wearClashesRow.origin Rows.wearClashesRow.targs := of_decide_eq_true (by kernel_rfl)
theorem clashes_name : Tryz.prog.funcNamed Rows.wearClashesRow.func = some 13 := by kernel_rfl
theorem clashes_said : Rows.WearClashesSaid :=
  OpenClaim.holds_of_wide 13 Tryz.f13 rfl rfl rfl rfl rfl rfl rfl ⟨rfl, rfl, rfl, rfl, rfl⟩ rfl rfl rfl rfl rfl clashes_name Tryz.func13 clashes_facts clashes_inst clashes_wrap
    (fun os started H enc _ => clashes_lifted os started H enc)
end Go.Proofs.YtnfndiafabhhdaaGreat
