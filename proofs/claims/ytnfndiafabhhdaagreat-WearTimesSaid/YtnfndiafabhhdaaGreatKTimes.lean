/- Reached, Level and Seen answer as the reference does (WearTimes): proved for every input, without conditions. -/
import Derived.Test.YtnfndiafabhhdaaGreatVL3
namespace Go.Proofs.YtnfndiafabhhdaaGreat
open Go.ChangeShapes Go.WideShapes Go.ChangeAt Go.RowKit
set_option maxRecDepth 200000 in
theorem times_contract (H : Type) (enc : TypeId × Value → H) (W : World) (base : Nat) (args : Array Value) (ds gs : List (DataW H)) (before : List MemPlace)
    (hval : ∀ (j : Nat) t v, Tryz.f3.params[j]? = some t → args[j]? = some v → Value.okWide Tryz.prog W .any base t v)
    (hW : DataW.Whole enc Tryz.prog Tryz.f3.params.toList Rows.wearTimesSpec.vars false W args.toList ds gs before) :
    Calls Tryz.prog 3 args W fun e W' => ∃ v, e = .returned v ∧ Rows.wearTimesSpec.post enc Tryz.prog Tryz.f3 false true false false W args v W' := by
  have hW' := hW
  obtain ⟨p, q, hA0, hV, rfl, hfz, hnd⟩ := hW
  have hA : DataW.TrodAll enc Tryz.prog W 0 (fun _ => true) true Tryz.f3.params.toList args.toList ds p := hA0
  rw [Tryz.params3] at hA hval
  obtain ⟨v0, s0, d0, e0, p0, q0, hargs, rfl, rfl, h0, r0⟩ := trodAll_cons hA
  obtain ⟨v1, s1, d1, e1, p1, q1, rfl, rfl, rfl, h1, r1⟩ := trodAll_cons r0
  obtain ⟨v2, s2, d2, e2, p2, q2, rfl, rfl, rfl, h2, r2⟩ := trodAll_cons r1
  obtain ⟨v3, s3, d3, e3, p3, q3, rfl, rfl, rfl, h3, r3⟩ := trodAll_cons r2
  obtain ⟨rfl, rfl, rfl⟩ := trodAll_nil r3
  obtain rfl : args = #[v0, v1, v2, v3] := by cases args; simp_all
  obtain ⟨rfl, rfl⟩ := trodVars_none hV
  obtain ⟨F0, vv0, vs0, rfl, hF0⟩ := fl_open (hval 0 30 v0 rfl rfl) h0
  obtain ⟨n1, rfl, lo1, hi1⟩ := int_open (hval 1 3 v1 rfl rfl) h1
  obtain ⟨n2, rfl, lo2, hi2⟩ := int_open (hval 2 3 v2 rfl rfl) h2
  obtain ⟨n3, rfl, lo3, hi3⟩ := int_open (hval 3 3 v3 rfl rfl) h3
  refine (law_times F0 vv0 vs0 n1 n2 n3 W hF0 lo1 hi1 lo2 hi2 lo3 hi3).mono fun e W' ⟨he, hb⟩ => ?_
  subst he
  refine ⟨_, rfl, law_post laidOut (fun t ht => ?_) rfl rfl Tryz.underlying4 rfl hW' hb⟩
  rw [Tryz.params3] at ht
  simp at ht
  rcases ht with rfl | rfl | rfl | rfl
  all_goals exact ⟨by kernel_rfl, of_decide_eq_true (by kernel_rfl)⟩
set_option maxRecDepth 100000 in
theorem times_lifted (os : Os) (started : os.Started) (H : Type) (enc : TypeId × Value → H) :
    ReturnsInHanded {} Tryz.checked os 3 .any (Rows.wearTimesSpec.pre6 enc Tryz.prog Tryz.f3 Rows.wearTimesRow.domain false) (Rows.wearTimesSpec.post enc Tryz.prog Tryz.f3 false true false false) := by
  refine returnsInHanded_of_change (C := Tryz.checked) own started (by kernel_rfl) Tryz.func3
    (ChangeSpec.witness6 (enc := enc) (C := Tryz.checked) false ⟨#[], #[.agg #[.slice none 0 0, .int .i64 0, .int .i64 0, .int .i64 0, .int .i64 0, .slice none 0 0], .int .i64 0, .int .i64 0, .int .i64 0], []⟩ 8 (by kernel_rfl) (by kernel_rfl) (by kernel_rfl) (by kernel_rfl)) ?_
  intro W base args ds gs before hval hW _ _
  exact times_contract H enc W base args ds gs before hval hW
theorem times_j_wf : (Rows.wearTimesRow.wf (OpenSpec.ofChange Rows.wearTimesSpec)) = true := by kernel_rfl
theorem times_j_maps0 : (mapsRowed Tryz.prog) = true := by kernel_rfl
theorem times_j_params : (Tryz.f3.params.all (Tryz.prog.readableRec ·)) = true := by kernel_rfl
theorem times_j_tie : (namedTie Tryz.prog Rows.wearTimesRow.named Rows.wearTimesSpec.vars) = true := by kernel_rfl
theorem times_j_s1 : (Rows.wearTimesRow.stops == []) = true := by kernel_rfl
theorem times_j_s2 : (Tryz.prog.stops == []) = true := by kernel_rfl
theorem times_j_s3 : (Rows.wearTimesRow.knobs == []) = true := by kernel_rfl
theorem times_j_s4 : (Tryz.prog.stopKnobs == []) = true := by kernel_rfl
theorem times_j_inplace : (Rows.wearTimesRow.inPlace == Tryz.prog.inPlace 3) = true := by kernel_rfl
theorem times_j_unf : (Rows.wearTimesRow.unfollowed == Tryz.prog.unfollowed 3) = true := by kernel_rfl
theorem times_j_rec : (Rows.wearTimesRow.recurses == Tryz.prog.recurses 3) = true := by kernel_rfl
theorem times_j_named : (Rows.wearTimesRow.named == Tryz.prog.varsNamed 3) = true := by kernel_rfl
theorem times_j_maps : (Rows.wearTimesRow.maps == (Tryz.f3.params.toList ++ Rows.wearTimesSpec.plain.varTypes Tryz.prog).any (Tryz.prog.mapsRec ·)) = true := by kernel_rfl
theorem times_j_ifaces : (Rows.wearTimesRow.ifaces == (Tryz.f3.params.toList ++ Rows.wearTimesSpec.plain.varTypes Tryz.prog).any (Tryz.prog.ifacesRec ·)) = true := by kernel_rfl
theorem times_j_mapsout : (Rows.wearTimesRow.mapsOut == Tryz.prog.mapsAmong Tryz.f3.resultTypes.toList) = true := by kernel_rfl
theorem times_j_loops : (Rows.wearTimesRow.loops == (Tryz.f3.params.toList ++ Rows.wearTimesSpec.plain.varTypes Tryz.prog).any (Tryz.prog.loopsFrom ·)) = true := by kernel_rfl
theorem times_j_wide : (Rows.wearTimesRow.wideKeys == (Tryz.f3.params.toList ++ Rows.wearTimesSpec.plain.varTypes Tryz.prog ++ Tryz.f3.resultTypes.toList).any (Tryz.prog.wideKeysFrom ·)) = true := by kernel_rfl
theorem times_j_vars : (Rows.wearTimesSpec.vars.all (Tryz.prog.varReadable ·)) = true := by kernel_rfl
theorem times_j_res : (Tryz.f3.resultTypes.all (fun t => Tryz.prog.readableRec t && decide (t < Tryz.prog.types.size))) = true := by kernel_rfl
theorem times_j_ifout : (Rows.wearTimesRow.ifacesOut == Tryz.f3.resultTypes.toList.any (Tryz.prog.ifacesRec ·)) = true := by kernel_rfl
theorem times_j_loopsout : (Rows.wearTimesRow.loopsOut == Tryz.f3.resultTypes.toList.any (Tryz.prog.loopsFrom ·)) = true := by kernel_rfl
theorem times_j_keys : (Rows.wearTimesRow.plainKeys == Tryz.prog.plainKeys) = true := by kernel_rfl
theorem times_j_short : (Rows.wearTimesRow.shortTexts.isNone) = true := by kernel_rfl
theorem times_j_heard : (Tryz.prog.stopsHeard) = true := by kernel_rfl
theorem times_j_enter : (Tryz.prog.mayEnter) = true := by kernel_rfl
theorem times_j_lifted : (Rows.wearTimesRow.lifted == Tryz.prog.liftsFinal) = true := by kernel_rfl
theorem times_j_make : (Tryz.prog.make == some Rows.wearTimesRow.make) = true := by kernel_rfl
theorem times_j_pinned : (Rows.wearTimesRow.pinned == Rows.wearTimesRow.pinnedBy) = true := by kernel_rfl
theorem times_j_veiled : (Rows.wearTimesRow.veiled == (Tryz.f3.params.toList ++ Rows.wearTimesSpec.plain.varTypes Tryz.prog ++ Tryz.f3.resultTypes.toList).any (Tryz.prog.veiledRec ·)) = true := by kernel_rfl
theorem times_j_veilfit : (Rows.wearTimesRow.veiledFits Tryz.prog Tryz.f3.params.toList (Tryz.f3.params.toList ++ Rows.wearTimesSpec.plain.varTypes Tryz.prog ++ Tryz.f3.resultTypes.toList)) = true := by kernel_rfl
theorem times_facts : joinedFacts Tryz.prog 3 Tryz.f3 Rows.wearTimesSpec Rows.wearTimesRow = true := by
  unfold joinedFacts
  exact and_true_of (and_true_of (and_true_of (and_true_of (and_true_of (and_true_of (and_true_of (and_true_of (and_true_of (and_true_of (and_true_of (and_true_of (and_true_of (and_true_of (and_true_of (and_true_of (and_true_of (and_true_of (and_true_of (and_true_of (and_true_of (and_true_of (and_true_of (and_true_of (and_true_of (and_true_of (and_true_of (and_true_of (and_true_of (and_true_of (and_true_of (times_j_wf) laidOut) times_j_maps0) times_j_params) times_j_tie) times_j_s1) times_j_s2) times_j_s3) times_j_s4) times_j_inplace) times_j_unf) times_j_rec) times_j_named) times_j_maps) times_j_ifaces) times_j_mapsout) times_j_loops) times_j_wide) times_j_vars) times_j_res) times_j_ifout) times_j_loopsout) times_j_keys) times_j_short) times_j_heard) times_j_enter) times_j_lifted) times_j_make) (by kernel_rfl)) times_j_pinned) times_j_veiled) times_j_veilfit
theorem times_wrap : (Tryz.f3).isWrapper Tryz.prog Rows.wearTimesRow.wrapper Rows.wearTimesRow.mainSum := by
  unfold Func.isWrapper; first | (rw [if_pos (by decide +kernel)]; kernel_rfl) | (rw [if_neg (by decide +kernel)]; exact ⟨rfl, rfl⟩)
theorem times_inst : (Tryz.f3).isInstance Tryz.prog Rows.wearTimesRow.origin Rows.wearTimesRow.targs := of_decide_eq_true (by kernel_rfl)
theorem times_name : Tryz.prog.funcNamed Rows.wearTimesRow.func = some 3 := by kernel_rfl
theorem times_said : Rows.WearTimesSaid :=
  OpenClaim.holds_of_wide 3 Tryz.f3 rfl rfl rfl rfl rfl rfl rfl ⟨rfl, rfl, rfl, rfl, rfl⟩ rfl rfl rfl rfl rfl times_name Tryz.func3 times_facts times_inst times_wrap
    (fun os started H enc _ => times_lifted os started H enc)
end Go.Proofs.YtnfndiafabhhdaaGreat
