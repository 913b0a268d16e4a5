/- With Wear narrowed to a wear within Bounds a case is possible, with one outside none is (WearNarrow): proved for every input, without conditions. -/
import Derived.Test.YtnfndiafabhhdaaGreatVL7
namespace Go.Proofs.YtnfndiafabhhdaaGreat
open Go.ChangeShapes Go.WideShapes Go.ChangeAt Go.RowKit

set_option maxRecDepth 200000 in
theorem narrow_contract (H : Type) (enc : TypeId × Value → H) (W : World) (base : Nat) (args : Array Value) (ds gs : List (DataW H)) (before : List MemPlace)
    (hval : ∀ (j : Nat) t v, Tryz.f7.params[j]? = some t → args[j]? = some v → Value.okWide Tryz.prog W .any base t v)
    (hW : DataW.Whole enc Tryz.prog Tryz.f7.params.toList Rows.wearNarrowSpec.vars false W args.toList ds gs before) :
    Calls Tryz.prog 7 args W fun e W' => ∃ v, e = .returned v ∧ Rows.wearNarrowSpec.post enc Tryz.prog Tryz.f7 false true false false W args v W' := by
  have hW' := hW
  obtain ⟨p, q, hA0, hV, rfl, hfz, hnd⟩ := hW
  have hA : DataW.TrodAll enc Tryz.prog W 0 (fun _ => true) true Tryz.f7.params.toList args.toList ds p := hA0
  rw [Tryz.params7] at hA hval
  obtain ⟨v0, s0, d0, e0, p0, q0, hargs, rfl, rfl, h0, r0⟩ := trodAll_cons hA
  obtain ⟨v1, s1, d1, e1, p1, q1, rfl, rfl, rfl, h1, r1⟩ := trodAll_cons r0
  obtain ⟨rfl, rfl, rfl⟩ := trodAll_nil r1
  obtain rfl : args = #[v0, v1] := by cases args; simp_all
  obtain ⟨rfl, rfl⟩ := trodVars_none hV
  obtain ⟨F0, vv0, vs0, rfl, hF0⟩ := fl_open (hval 0 30 v0 rfl rfl) h0
  obtain ⟨n1, rfl, lo1, hi1⟩ := int_open (hval 1 3 v1 rfl rfl) h1
  refine (law_narrow F0 vv0 vs0 n1 W hF0 lo1 hi1).mono fun e W' ⟨he, hb⟩ => ?_
  subst he
  refine ⟨_, rfl, law_post laidOut (fun t ht => ?_) rfl rfl Tryz.underlying4 rfl hW' hb⟩
  rw [Tryz.params7] at ht
  simp at ht
  rcases ht with rfl | rfl
  all_goals exact ⟨by kernel_rfl, of_decide_eq_true (by kernel_rfl)⟩

set_option maxRecDepth 100000 in
theorem narrow_lifted (os : Os) (started : os.Started) (H : Type) (enc : TypeId × Value → H) :
    ReturnsInHanded {} Tryz.checked os 7 .any (Rows.wearNarrowSpec.pre6 enc Tryz.prog Tryz.f7 Rows.wearNarrowRow.domain false) (Rows.wearNarrowSpec.post enc Tryz.prog Tryz.f7 false true false false) := by
  refine returnsInHanded_of_change (C := Tryz.checked) own started (by kernel_rfl) Tryz.func7
    (ChangeSpec.witness6 (enc := enc) (C := Tryz.checked) false ⟨#[], #[.agg #[.slice none 0 0, .int .i64 0, .int .i64 0, .int .i64 0, .int .i64 0, .slice none 0 0], .int .i64 0], []⟩ 8 (by kernel_rfl) (by kernel_rfl) (by kernel_rfl) (by kernel_rfl)) ?_
  intro W base args ds gs before hval hW _ _
  exact narrow_contract H enc W base args ds gs before hval hW

theorem narrow_j_wf : (Rows.wearNarrowRow.wf (OpenSpec.ofChange Rows.wearNarrowSpec)) = true := by kernel_rfl
theorem narrow_j_maps0 : (mapsRowed Tryz.prog) = true := by kernel_rfl
theorem narrow_j_params : (Tryz.f7.params.all (Tryz.prog.readableRec ·)) = true := by kernel_rfl
theorem narrow_j_tie : (namedTie Tryz.prog Rows.wearNarrowRow.named Rows.wearNarrowSpec.vars) = true := by kernel_rfl
theorem narrow_j_s1 : (Rows.wearNarrowRow.stops == []) = true := by kernel_rfl
theorem narrow_j_s2 : (Tryz.prog.stops == []) = true := by kernel_rfl
theorem narrow_j_s3 : (Rows.wearNarrowRow.knobs == []) = true := by kernel_rfl
theorem narrow_j_s4 : (Tryz.prog.stopKnobs == []) = true := by kernel_rfl
theorem narrow_j_inplace : (Rows.wearNarrowRow.inPlace == Tryz.prog.inPlace 7) = true := by kernel_rfl
theorem narrow_j_unf : (Rows.wearNarrowRow.unfollowed == Tryz.prog.unfollowed 7) = true := by kernel_rfl
theorem narrow_j_rec : (Rows.wearNarrowRow.recurses == Tryz.prog.recurses 7) = true := by kernel_rfl
theorem narrow_j_named : (Rows.wearNarrowRow.named == Tryz.prog.varsNamed 7) = true := by kernel_rfl
theorem narrow_j_maps : (Rows.wearNarrowRow.maps == (Tryz.f7.params.toList ++ Rows.wearNarrowSpec.plain.varTypes Tryz.prog).any (Tryz.prog.mapsRec ·)) = true := by kernel_rfl
theorem narrow_j_ifaces : (Rows.wearNarrowRow.ifaces == (Tryz.f7.params.toList ++ Rows.wearNarrowSpec.plain.varTypes Tryz.prog).any (Tryz.prog.ifacesRec ·)) = true := by kernel_rfl
theorem narrow_j_mapsout : (Rows.wearNarrowRow.mapsOut == Tryz.prog.mapsAmong Tryz.f7.resultTypes.toList) = true := by kernel_rfl
theorem narrow_j_loops : (Rows.wearNarrowRow.loops == (Tryz.f7.params.toList ++ Rows.wearNarrowSpec.plain.varTypes Tryz.prog).any (Tryz.prog.loopsFrom ·)) = true := by kernel_rfl
theorem narrow_j_wide : (Rows.wearNarrowRow.wideKeys == (Tryz.f7.params.toList ++ Rows.wearNarrowSpec.plain.varTypes Tryz.prog ++ Tryz.f7.resultTypes.toList).any (Tryz.prog.wideKeysFrom ·)) = true := by kernel_rfl
theorem narrow_j_vars : (Rows.wearNarrowSpec.vars.all (Tryz.prog.varReadable ·)) = true := by kernel_rfl
theorem narrow_j_res : (Tryz.f7.resultTypes.all (fun t => Tryz.prog.readableRec t && decide (t < Tryz.prog.types.size))) = true := by kernel_rfl
theorem narrow_j_ifout : (Rows.wearNarrowRow.ifacesOut == Tryz.f7.resultTypes.toList.any (Tryz.prog.ifacesRec ·)) = true := by kernel_rfl
theorem narrow_j_loopsout : (Rows.wearNarrowRow.loopsOut == Tryz.f7.resultTypes.toList.any (Tryz.prog.loopsFrom ·)) = true := by kernel_rfl
theorem narrow_j_keys : (Rows.wearNarrowRow.plainKeys == Tryz.prog.plainKeys) = true := by kernel_rfl
theorem narrow_j_short : (Rows.wearNarrowRow.shortTexts.isNone) = true := by kernel_rfl
theorem narrow_j_heard : (Tryz.prog.stopsHeard) = true := by kernel_rfl
theorem narrow_j_enter : (Tryz.prog.mayEnter) = true := by kernel_rfl
theorem narrow_j_lifted : (Rows.wearNarrowRow.lifted == Tryz.prog.liftsFinal) = true := by kernel_rfl
theorem narrow_j_make : (Tryz.prog.make == some Rows.wearNarrowRow.make) = true := by kernel_rfl
theorem narrow_j_pinned : (Rows.wearNarrowRow.pinned == Rows.wearNarrowRow.pinnedBy) = true := by kernel_rfl
theorem narrow_j_veiled : (Rows.wearNarrowRow.veiled == (Tryz.f7.params.toList ++ Rows.wearNarrowSpec.plain.varTypes Tryz.prog ++ Tryz.f7.resultTypes.toList).any (Tryz.prog.veiledRec ·)) = true := by kernel_rfl
theorem narrow_j_veilfit : (Rows.wearNarrowRow.veiledFits Tryz.prog Tryz.f7.params.toList (Tryz.f7.params.toList ++ Rows.wearNarrowSpec.plain.varTypes Tryz.prog ++ Tryz.f7.resultTypes.toList)) = true := by kernel_rfl
theorem narrow_facts : joinedFacts Tryz.prog 7 Tryz.f7 Rows.wearNarrowSpec Rows.wearNarrowRow = true := by
  unfold joinedFacts
  exact and_true_of (and_true_of (and_true_of (and_true_of (and_true_of (and_true_of (and_true_of (and_true_of (and_true_of (and_true_of (and_true_of (and_true_of (and_true_of (and_true_of (and_true_of (and_true_of (and_true_of (and_true_of (and_true_of (and_true_of (and_true_of (and_true_of (and_true_of (and_true_of (and_true_of (and_true_of (and_true_of (and_true_of (and_true_of (and_true_of (and_true_of (narrow_j_wf) laidOut) narrow_j_maps0) narrow_j_params) narrow_j_tie) narrow_j_s1) narrow_j_s2) narrow_j_s3) narrow_j_s4) narrow_j_inplace) narrow_j_unf) narrow_j_rec) narrow_j_named) narrow_j_maps) narrow_j_ifaces) narrow_j_mapsout) narrow_j_loops) narrow_j_wide) narrow_j_vars) narrow_j_res) narrow_j_ifout) narrow_j_loopsout) narrow_j_keys) narrow_j_short) narrow_j_heard) narrow_j_enter) narrow_j_lifted) narrow_j_make) (by kernel_rfl)) narrow_j_pinned) narrow_j_veiled) narrow_j_veilfit
theorem narrow_wrap : (Tryz.f7).isWrapper Tryz.prog Rows.wearNarrowRow.wrapper Rows.wearNarrowRow.mainSum := by
  unfold Func.isWrapper; first | (rw [if_pos (by decide +kernel)]; kernel_rfl) | (rw [if_neg (by decide +kernel)]; exact ⟨rfl, rfl⟩)
theorem narrow_inst : (Tryz.f7).isInstance Tryz.prog Rows.wearNarrowRow.origin Rows.wearNarrowRow.targs := of_decide_eq_true (by kernel_rfl)
theorem narrow_name : Tryz.prog.funcNamed Rows.wearNarrowRow.func = some 7 := by kernel_rfl
theorem narrow_said : Rows.WearNarrowSaid :=
  OpenClaim.holds_of_wide 7 Tryz.f7 rfl rfl rfl rfl rfl rfl rfl ⟨rfl, rfl, rfl, rfl, rfl⟩ rfl rfl rfl rfl rfl narrow_name Tryz.func7 narrow_facts narrow_inst narrow_wrap
    (fun os started H enc _ => narrow_lifted os started H enc)
end Go.Proofs.YtnfndiafabhhdaaGreat
