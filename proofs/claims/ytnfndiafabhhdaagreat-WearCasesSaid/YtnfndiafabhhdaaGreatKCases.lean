/- CheckCase answers as the reference does, which accepts what Case returns (WearCases): proved for every input, without conditions. -/
import Derived.Test.YtnfndiafabhhdaaGreatVL15
namespace Go.Proofs.YtnfndiafabhhdaaGreat
open Go.ChangeShapes Go.WideShapes Go.ChangeAt Go.RowKit
set_option maxRecDepth 200000 in
theorem cases_contract (H : Type) (enc : TypeId × Value → H) (W : World) (base : Nat) (args : Array Value) (ds gs : List (DataW H)) (before : List MemPlace)
    (hval : ∀ (j : Nat) t v, Tryz.f15.params[j]? = some t → args[j]? = some v → Value.okWide Tryz.prog W .any base t v)
    (hW : DataW.Whole enc Tryz.prog Tryz.f15.params.toList Rows.wearCasesSpec.vars false W args.toList ds gs before) :
    Calls Tryz.prog 15 args W fun e W' => ∃ v, e = .returned v ∧ Rows.wearCasesSpec.post enc Tryz.prog Tryz.f15 false true false false W args v W' := by
  have hW' := hW
  obtain ⟨p, q, hA0, hV, rfl, hfz, hnd⟩ := hW
  have hA : DataW.TrodAll enc Tryz.prog W 0 (fun _ => true) true Tryz.f15.params.toList args.toList ds p := hA0
  rw [Tryz.params15] at hA hval
  obtain ⟨v0, s0, d0, e0, p0, q0, hargs, rfl, rfl, h0, r0⟩ := trodAll_cons hA
  obtain ⟨v1, s1, d1, e1, p1, q1, rfl, rfl, rfl, h1, r1⟩ := trodAll_cons r0
  obtain ⟨v2, s2, d2, e2, p2, q2, rfl, rfl, rfl, h2, r2⟩ := trodAll_cons r1
  obtain ⟨rfl, rfl, rfl⟩ := trodAll_nil r2
  obtain rfl : args = #[v0, v1, v2] := by cases args; simp_all
  obtain ⟨rfl, rfl⟩ := trodVars_none hV
  obtain ⟨F0, vv0, vs0, rfl, hF0⟩ := fl_open (hval 0 30 v0 rfl rfl) h0
  obtain ⟨rn1, rd1, rfl, hR1⟩ := ratio_open (hval 1 41 v1 rfl rfl) h1
  obtain ⟨n2, rfl, lo2, hi2⟩ := int_open (hval 2 3 v2 rfl rfl) h2
  refine (law_cases F0 vv0 vs0 rn1 rd1 n2 W hF0 hR1 lo2 hi2).mono fun e W' ⟨he, hb⟩ => ?_
  subst he
  refine ⟨_, rfl, law_post laidOut (fun t ht => ?_) rfl rfl Tryz.underlying4 rfl hW' hb⟩
  rw [Tryz.params15] at ht
  simp at ht
  rcases ht with rfl | rfl | rfl
  all_goals exact ⟨by kernel_rfl, of_decide_eq_true (by kernel_rfl)⟩
set_option maxRecDepth 100000 in
theorem cases_lifted (os : Os) (started : os.Started) (H : Type) (enc : TypeId × Value → H) :
    ReturnsInHanded {} Tryz.checked os 15 .any (Rows.wearCasesSpec.pre6 enc Tryz.prog Tryz.f15 Rows.wearCasesRow.domain false) (Rows.wearCasesSpec.post enc Tryz.prog Tryz.f15 false true false false) := by
  refine returnsInHanded_of_change (C := Tryz.checked) own started (by kernel_rfl) Tryz.func15
    (ChangeSpec.witness6 (enc := enc) (C := Tryz.checked) false ⟨#[], #[.agg #[.slice none 0 0, .int .i64 0, .int .i64 0, .int .i64 0, .int .i64 0, .slice none 0 0], .agg #[.int .i64 0, .int .i64 0], .int .i64 0], []⟩ 8 (by kernel_rfl) (by kernel_rfl) (by kernel_rfl) (by kernel_rfl)) ?_
  intro W base args ds gs before hval hW _ _
  exact cases_contract H enc W base args ds gs before hval hW
theorem cases_j_wf : (Rows.wearCasesRow.wf (OpenSpec.ofChange Rows.wearCasesSpec)) = true := by kernel_rfl
theorem cases_j_maps0 : (mapsRowed Tryz.prog) = true := by kernel_rfl
theorem cases_j_params : (Tryz.f15.params.all (Tryz.prog.readableRec ·)) = true := by kernel_rfl
theorem cases_j_tie : (namedTie Tryz.prog Rows.wearCasesRow.named Rows.wearCasesSpec.vars) = true := by kernel_rfl
theorem cases_j_s1 : (Rows.wearCasesRow.stops == []) = true := by kernel_rfl
theorem cases_j_s2 : (Tryz.prog.stops == []) = true := by kernel_rfl
theorem cases_j_s3 : (Rows.wearCasesRow.knobs == []) = true := by kernel_rfl
theorem cases_j_s4 : (Tryz.prog.stopKnobs == []) = true := by kernel_rfl
theorem cases_j_inplace : (Rows.wearCasesRow.inPlace == Tryz.prog.inPlace 15) = true := by kernel_rfl
theorem cases_j_unf : (Rows.wearCasesRow.unfollowed == Tryz.prog.unfollowed 15) = true := by kernel_rfl
theorem cases_j_rec : (Rows.wearCasesRow.recurses == Tryz.prog.recurses 15) = true := by kernel_rfl
theorem cases_j_named : (Rows.wearCasesRow.named == Tryz.prog.varsNamed 15) = true := by kernel_rfl
theorem cases_j_maps : (Rows.wearCasesRow.maps == (Tryz.f15.params.toList ++ Rows.wearCasesSpec.plain.varTypes Tryz.prog).any (Tryz.prog.mapsRec ·)) = true := by kernel_rfl
theorem cases_j_ifaces : (Rows.wearCasesRow.ifaces == (Tryz.f15.params.toList ++ Rows.wearCasesSpec.plain.varTypes Tryz.prog).any (Tryz.prog.ifacesRec ·)) = true := by kernel_rfl
theorem cases_j_mapsout : (Rows.wearCasesRow.mapsOut == Tryz.prog.mapsAmong Tryz.f15.resultTypes.toList) = true := by kernel_rfl
theorem cases_j_loops : (Rows.wearCasesRow.loops == (Tryz.f15.params.toList ++ Rows.wearCasesSpec.plain.varTypes Tryz.prog).any (Tryz.prog.loopsFrom ·)) = true := by kernel_rfl
theorem cases_j_wide : (Rows.wearCasesRow.wideKeys == (Tryz.f15.params.toList ++ Rows.wearCasesSpec.plain.varTypes Tryz.prog ++ Tryz.f15.resultTypes.toList).any (Tryz.prog.wideKeysFrom ·)) = true := by kernel_rfl
theorem cases_j_vars : (Rows.wearCasesSpec.vars.all (Tryz.prog.varReadable ·)) = true := by kernel_rfl
theorem cases_j_res : (Tryz.f15.resultTypes.all (fun t => Tryz.prog.readableRec t && decide (t < Tryz.prog.types.size))) = true := by kernel_rfl
theorem cases_j_ifout : (Rows.wearCasesRow.ifacesOut == Tryz.f15.resultTypes.toList.any (Tryz.prog.ifacesRec ·)) = true := by kernel_rfl
theorem cases_j_loopsout : (Rows.wearCasesRow.loopsOut == Tryz.f15.resultTypes.toList.any (Tryz.prog.loopsFrom ·)) = true := by kernel_rfl
theorem cases_j_keys : (Rows.wearCasesRow.plainKeys == Tryz.prog.plainKeys) = true := by kernel_rfl
theorem cases_j_short : (Rows.wearCasesRow.shortTexts.isNone) = true := by kernel_rfl
theorem cases_j_heard : (Tryz.prog.stopsHeard) = true := by kernel_rfl
theorem cases_j_enter : (Tryz.prog.mayEnter) = true := by kernel_rfl
theorem cases_j_lifted : (Rows.wearCasesRow.lifted == Tryz.prog.liftsFinal) = true := by kernel_rfl
theorem cases_j_make : (Tryz.prog.make == some Rows.wearCasesRow.make) = true := by kernel_rfl
theorem cases_j_pinned : (Rows.wearCasesRow.pinned == Rows.wearCasesRow.pinnedBy) = true := by kernel_rfl
theorem cases_j_veiled : (Rows.wearCasesRow.veiled == (Tryz.f15.params.toList ++ Rows.wearCasesSpec.plain.varTypes Tryz.prog ++ Tryz.f15.resultTypes.toList).any (Tryz.prog.veiledRec ·)) = true := by kernel_rfl
theorem cases_j_veilfit : (Rows.wearCasesRow.veiledFits Tryz.prog Tryz.f15.params.toList (Tryz.f15.params.toList ++ Rows.wearCasesSpec.plain.varTypes Tryz.prog ++ Tryz.f15.resultTypes.toList)) = true := by kernel_rfl
theorem cases_facts : joinedFacts Tryz.prog 15 Tryz.f15 Rows.wearCasesSpec Rows.wearCasesRow = true := by
  unfold joinedFacts
  exact and_true_of (and_true_of (and_true_of (and_true_of (and_true_of (and_true_of (and_true_of (and_true_of (and_true_of (and_true_of (and_true_of (and_true_of (and_true_of (and_true_of (and_true_of (and_true_of (and_true_of (and_true_of (and_true_of (and_true_of (and_true_of (and_true_of (and_true_of (and_true_of (and_true_of (and_true_of (and_true_of (and_true_of (and_true_of (and_true_of (and_true_of (cases_j_wf) laidOut) cases_j_maps0) cases_j_params) cases_j_tie) cases_j_s1) cases_j_s2) cases_j_s3) cases_j_s4) cases_j_inplace) cases_j_unf) cases_j_rec) cases_j_named) cases_j_maps) cases_j_ifaces) cases_j_mapsout) cases_j_loops) cases_j_wide) cases_j_vars) cases_j_res) cases_j_ifout) cases_j_loopsout) cases_j_keys) cases_j_short) cases_j_heard) cases_j_enter) cases_j_lifted) cases_j_make) (by kernel_rfl)) cases_j_pinned) cases_j_veiled) cases_j_veilfit
theorem cases_wrap : (Tryz.f15).isWrapper Tryz.prog Rows.wearCasesRow.wrapper Rows.wearCasesRow.mainSum := by
  unfold Func.isWrapper; first | (rw [if_pos (by decide +kernel)]; kernel_rfl) | (rw [if_neg (by decide +kernel)]; exact ⟨rfl, rfl⟩)
theorem cases_inst : (Tryz.f15).isInstance Tryz.prog Rows.wearCasesRow.origin Rows.wearCasesRow.targs := of_decide_eq_true (by kernel_rfl)
theorem cases_name : Tryz.prog.funcNamed Rows.wearCasesRow.func = some 15 := by kernel_rfl
theorem cases_said : Rows.WearCasesSaid :=
  OpenClaim.holds_of_wide 15 Tryz.f15 rfl rfl rfl rfl rfl rfl rfl ⟨rfl, rfl, rfl, rfl, rfl⟩ rfl rfl rfl rfl rfl cases_name Tryz.func15 cases_facts cases_inst cases_wrap
    (fun os started H enc _ => cases_lifted os started H enc)
end Go.Proofs.YtnfndiafabhhdaaGreat
