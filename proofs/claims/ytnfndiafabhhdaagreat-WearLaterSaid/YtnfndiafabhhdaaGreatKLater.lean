/- The later, the lower: the ends of Level do not rise with the minutes, those of Reached not with the level, Surely implies Ever (WearLater): proved for every input, without conditions. -/
import Derived.Test.YtnfndiafabhhdaaGreatVL8
namespace Go.Proofs.YtnfndiafabhhdaaGreat
open Go.ChangeShapes Go.WideShapes Go.ChangeAt Go.RowKit

set_option maxRecDepth 200000 in
theorem later_contract (H : Type) (enc : TypeId × Value → H) (W : World) (base : Nat) (args : Array Value) (ds gs : List (DataW H)) (before : List MemPlace)
    (hval : ∀ (j : Nat) t v, Tryz.f8.params[j]? = some t → args[j]? = some v → Value.okWide Tryz.prog W .any base t v)
    (hW : DataW.Whole enc Tryz.prog Tryz.f8.params.toList Rows.wearLaterSpec.vars false W args.toList ds gs before) :
    Calls Tryz.prog 8 args W fun e W' => ∃ v, e = .returned v ∧ Rows.wearLaterSpec.post enc Tryz.prog Tryz.f8 false true false false W args v W' := by
  have hW' := hW
  obtain ⟨p, q, hA0, hV, rfl, hfz, hnd⟩ := hW
  have hA : DataW.TrodAll enc Tryz.prog W 0 (fun _ => true) true Tryz.f8.params.toList args.toList ds p := hA0
  rw [Tryz.params8] at hA hval
  obtain ⟨v0, s0, d0, e0, p0, q0, hargs, rfl, rfl, h0, r0⟩ := trodAll_cons hA
  obtain ⟨v1, s1, d1, e1, p1, q1, rfl, rfl, rfl, h1, r1⟩ := trodAll_cons r0
  obtain ⟨v2, s2, d2, e2, p2, q2, rfl, rfl, rfl, h2, r2⟩ := trodAll_cons r1
  obtain ⟨v3, s3, d3, e3, p3, q3, rfl, rfl, rfl, h3, r3⟩ := trodAll_cons r2
  obtain ⟨rfl, rfl, rfl⟩ := trodAll_nil r3
  obtain rfl : args = #[v0, v1, v2, v3] := by cases args; simp_all
  obtain ⟨rfl, rfl⟩ := trodVars_none hV
  obtain ⟨F0, vv0, vs0, rfl, hF0⟩ := fl_open (hval 0 30 v0 rfl rfl) h0
  obtain ⟨n1, rfl, lo1, hi1⟩ := int_open (hval 1 3 v1 rfl rfl) h1
  obtain ⟨n2, rfl, lo2, hi2⟩ := int_open (hval 2 3 v2 rfl rfl) h2
  obtain ⟨n3, rfl, lo3, hi3⟩ := int_open (hval 3 3 v3 rfl rfl) h3
  refine (law_later F0 vv0 vs0 n1 n2 n3 W hF0 lo1 hi1 lo2 hi2 lo3 hi3).mono fun e W' ⟨he, hb⟩ => ?_
  subst he
  refine ⟨_, rfl, law_post laidOut (fun t ht => ?_) rfl rfl Tryz.underlying4 rfl hW' hb⟩
  rw [Tryz.params8] at ht
  simp at ht
  rcases ht with rfl | rfl | rfl | rfl
  all_goals exact ⟨by kernel_rfl, of_decide_eq_true (by kernel_rfl)⟩

set_option maxRecDepth 100000 in
theorem later_lifted (os : Os) (started : os.Started) (H : Type) (enc : TypeId × Value → H) :
    ReturnsInHanded {} Tryz.checked os 8 .any (Rows.wearLaterSpec.pre6 enc Tryz.prog Tryz.f8 Rows.wearLaterRow.domain false) (Rows.wearLaterSpec.post enc Tryz.prog Tryz.f8 false true false false) := by
  refine returnsInHanded_of_change (C := Tryz.checked) own started (by kernel_rfl) Tryz.func8
    (ChangeSpec.witness6 (enc := enc) (C := Tryz.checked) false ⟨#[], #[.agg #[.slice none 0 0, .int .i64 0, .int .i64 0, .int .i64 0, .int .i64 0, .slice none 0 0], .int .i64 0, .int .i64 0, .int .i64 0], []⟩ 8 (by kernel_rfl) (by kernel_rfl) (by kernel_rfl) (by kernel_rfl)) ?_
  intro W base args ds gs before hval hW _ _
  exact later_contract H enc W base args ds gs before hval hW

theorem later_j_wf : (Rows.wearLaterRow.wf (OpenSpec.ofChange Rows.wearLaterSpec)) = true := by kernel_rfl
theorem later_j_maps0 : (mapsRowed Tryz.prog) = true := by kernel_rfl
theorem later_j_params : (Tryz.f8.params.all (Tryz.prog.readableRec ·)) = true := by kernel_rfl
theorem later_j_tie : (namedTie Tryz.prog Rows.wearLaterRow.named Rows.wearLaterSpec.vars) = true := by kernel_rfl
theorem later_j_s1 : (Rows.wearLaterRow.stops == []) = true := by kernel_rfl
theorem later_j_s2 : (Tryz.prog.stops == []) = true := by kernel_rfl
theorem later_j_s3 : (Rows.wearLaterRow.knobs == []) = true := by kernel_rfl
theorem later_j_s4 : (Tryz.prog.stopKnobs == []) = true := by kernel_rfl
theorem later_j_inplace : (Rows.wearLaterRow.inPlace == Tryz.prog.inPlace 8) = true := by kernel_rfl
theorem later_j_unf : (Rows.wearLaterRow.unfollowed == Tryz.prog.unfollowed 8) = true := by kernel_rfl
theorem later_j_rec : (Rows.wearLaterRow.recurses == Tryz.prog.recurses 8) = true := by kernel_rfl
theorem later_j_named : (Rows.wearLaterRow.named == Tryz.prog.varsNamed 8) = true := by kernel_rfl
theorem later_j_maps : (Rows.wearLaterRow.maps == (Tryz.f8.params.toList ++ Rows.wearLaterSpec.plain.varTypes Tryz.prog).any (Tryz.prog.mapsRec ·)) = true := by kernel_rfl
theorem later_j_ifaces : (Rows.wearLaterRow.ifaces == (Tryz.f8.params.toList ++ Rows.wearLaterSpec.plain.varTypes Tryz.prog).any (Tryz.prog.ifacesRec ·)) = true := by kernel_rfl
theorem later_j_mapsout : (Rows.wearLaterRow.mapsOut == Tryz.prog.mapsAmong Tryz.f8.resultTypes.toList) = true := by kernel_rfl
theorem later_j_loops : (Rows.wearLaterRow.loops == (Tryz.f8.params.toList ++ Rows.wearLaterSpec.plain.varTypes Tryz.prog).any (Tryz.prog.loopsFrom ·)) = true := by kernel_rfl
theorem later_j_wide : (Rows.wearLaterRow.wideKeys == (Tryz.f8.params.toList ++ Rows.wearLaterSpec.plain.varTypes Tryz.prog ++ Tryz.f8.resultTypes.toList).any (Tryz.prog.wideKeysFrom ·)) = true := by kernel_rfl
theorem later_j_vars : (Rows.wearLaterSpec.vars.all (Tryz.prog.varReadable ·)) = true := by kernel_rfl
theorem later_j_res : (Tryz.f8.resultTypes.all (fun t => Tryz.prog.readableRec t && decide (t < Tryz.prog.types.size))) = true := by kernel_rfl
theorem later_j_ifout : (Rows.wearLaterRow.ifacesOut == Tryz.f8.resultTypes.toList.any (Tryz.prog.ifacesRec ·)) = true := by kernel_rfl
theorem later_j_loopsout : (Rows.wearLaterRow.loopsOut == Tryz.f8.resultTypes.toList.any (Tryz.prog.loopsFrom ·)) = true := by kernel_rfl
theorem later_j_keys : (Rows.wearLaterRow.plainKeys == Tryz.prog.plainKeys) = true := by kernel_rfl
theorem later_j_short : (Rows.wearLaterRow.shortTexts.isNone) = true := by kernel_rfl
theorem later_j_heard : (Tryz.prog.stopsHeard) = true := by kernel_rfl
theorem later_j_enter : (Tryz.prog.mayEnter) = true := by kernel_rfl
theorem later_j_lifted : (Rows.wearLaterRow.lifted == Tryz.prog.liftsFinal) = true := by kernel_rfl
theorem later_j_make : (Tryz.prog.make == some Rows.wearLaterRow.make) = true := by kernel_rfl
theorem later_j_pinned : (Rows.wearLaterRow.pinned == Rows.wearLaterRow.pinnedBy) = true := by kernel_rfl
theorem later_j_veiled : (Rows.wearLaterRow.veiled == (Tryz.f8.params.toList ++ Rows.wearLaterSpec.plain.varTypes Tryz.prog ++ Tryz.f8.resultTypes.toList).any (Tryz.prog.veiledRec ·)) = true := by kernel_rfl
theorem later_j_veilfit : (Rows.wearLaterRow.veiledFits Tryz.prog Tryz.f8.params.toList (Tryz.f8.params.toList ++ Rows.wearLaterSpec.plain.varTypes Tryz.prog ++ Tryz.f8.resultTypes.toList)) = true := by kernel_rfl
theorem later_facts : joinedFacts Tryz.prog 8 Tryz.f8 Rows.wearLaterSpec Rows.wearLaterRow = true := by
  unfold joinedFacts
  exact and_true_of (and_true_of (and_true_of (and_true_of (and_true_of (and_true_of (and_true_of (and_true_of (and_true_of (and_true_of (and_true_of (and_true_of (and_true_of (and_true_of (and_true_of (and_true_of (and_true_of (and_true_of (and_true_of (and_true_of (and_true_of (and_true_of (and_true_of (and_true_of (and_true_of (and_true_of (and_true_of (and_true_of (and_true_of (and_true_of (and_true_of (later_j_wf) laidOut) later_j_maps0) later_j_params) later_j_tie) later_j_s1) later_j_s2) later_j_s3) later_j_s4) later_j_inplace) later_j_unf) later_j_rec) later_j_named) later_j_maps) later_j_ifaces) later_j_mapsout) later_j_loops) later_j_wide) later_j_vars) later_j_res) later_j_ifout) later_j_loopsout) later_j_keys) later_j_short) later_j_heard) later_j_enter) later_j_lifted) later_j_make) (by kernel_rfl)) later_j_pinned) later_j_veiled) later_j_veilfit
theorem later_wrap : (Tryz.f8).isWrapper Tryz.prog Rows.wearLaterRow.wrapper Rows.wearLaterRow.mainSum := by
  unfold Func.isWrapper; first | (rw [if_pos (by decide +kernel)]; kernel_rfl) | (rw [if_neg (by decide +kernel)]; exact ⟨rfl, rfl⟩)
theorem later_inst : (Tryz.f8).isInstance Tryz.prog Rows.wearLaterRow.origin Rows.wearLaterRow.targs := of_decide_eq_true (by kernel_rfl)
theorem later_name : Tryz.prog.funcNamed Rows.wearLaterRow.func = some 8 := by kernel_rfl
theorem later_said : Rows.WearLaterSaid :=
  OpenClaim.holds_of_wide 8 Tryz.f8 rfl rfl rfl rfl rfl rfl rfl ⟨rfl, rfl, rfl, rfl, rfl⟩ rfl rfl rfl rfl rfl later_name Tryz.func8 later_facts later_inst later_wrap
    (fun os started H enc _ => later_lifted os started H enc)
end Go.Proofs.YtnfndiafabhhdaaGreat
