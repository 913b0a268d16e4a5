/- The ends of Bounds are cases of their own (WearEnds): proved for every input, without conditions. -/
import Derived.Test.YtnfndiafabhhdaaGreatVL5
namespace Go.Proofs.YtnfndiafabhhdaaGreat
open Go.ChangeShapes Go.WideShapes Go.ChangeAt Go.RowKit

set_option maxRecDepth 200000 in
theorem ends_contract (H : Type) (enc : TypeId × Value → H) (W : World) (base : Nat) (args : Array Value) (ds gs : List (DataW H)) (before : List MemPlace)
    (hval : ∀ (j : Nat) t v, Tryz.f5.params[j]? = some t → args[j]? = some v → Value.okWide Tryz.prog W .any base t v)
    (hW : DataW.Whole enc Tryz.prog Tryz.f5.params.toList Rows.wearEndsSpec.vars false W args.toList ds gs before) :
    Calls Tryz.prog 5 args W fun e W' => ∃ v, e = .returned v ∧ Rows.wearEndsSpec.post enc Tryz.prog Tryz.f5 false true false false W args v W' := by
  have hW' := hW
  obtain ⟨p, q, hA0, hV, rfl, hfz, hnd⟩ := hW
  have hA : DataW.TrodAll enc Tryz.prog W 0 (fun _ => true) true Tryz.f5.params.toList args.toList ds p := hA0
  rw [Tryz.params5] at hA hval
  obtain ⟨v0, s0, d0, e0, p0, q0, hargs, rfl, rfl, h0, r0⟩ := trodAll_cons hA
  obtain ⟨v1, s1, d1, e1, p1, q1, rfl, rfl, rfl, h1, r1⟩ := trodAll_cons r0
  obtain ⟨v2, s2, d2, e2, p2, q2, rfl, rfl, rfl, h2, r2⟩ := trodAll_cons r1
  obtain ⟨rfl, rfl, rfl⟩ := trodAll_nil r2
  obtain rfl : args = #[v0, v1, v2] := by cases args; simp_all
  obtain ⟨rfl, rfl⟩ := trodVars_none hV
  obtain ⟨F0, vv0, vs0, rfl, hF0⟩ := fl_open (hval 0 30 v0 rfl rfl) h0
  obtain ⟨rn1, rd1, rfl, hR1⟩ := ratio_open (hval 1 41 v1 rfl rfl) h1
  obtain ⟨n2, rfl, lo2, hi2⟩ := int_open (hval 2 3 v2 rfl rfl) h2
  refine (law_ends F0 vv0 vs0 rn1 rd1 n2 W hF0 hR1 lo2 hi2).mono fun e W' ⟨he, hb⟩ => ?_
  subst he
  refine ⟨_, rfl, law_post laidOut (fun t ht => ?_) rfl rfl Tryz.underlying4 rfl hW' hb⟩
  rw [Tryz.params5] at ht
  simp at ht
  rcases ht with rfl | rfl | rfl
  all_goals exact ⟨by kernel_rfl, of_decide_eq_true (by kernel_rfl)⟩

set_option maxRecDepth 100000 in
theorem ends_lifted (os : Os) (started : os.Started) (H : Type) (enc : TypeId × Value → H) :
    ReturnsInHanded {} Tryz.checked os 5 .any (Rows.wearEndsSpec.pre6 enc Tryz.prog Tryz.f5 Rows.wearEndsRow.domain false) (Rows.wearEndsSpec.post enc Tryz.prog Tryz.f5 false true false false) := by
  refine returnsInHanded_of_change (C := Tryz.checked) own started (by kernel_rfl) Tryz.func5
    (ChangeSpec.witness6 (enc := enc) (C := Tryz.checked) false ⟨#[], #[.agg #[.slice none 0 0, .int .i64 0, .int .i64 0, .int .i64 0, .int .i64 0, .slice none 0 0], .agg #[.int .i64 0, .int .i64 0], .int .i64 0], []⟩ 8 (by kernel_rfl) (by kernel_rfl) (by kernel_rfl) (by kernel_rfl)) ?_
  intro W base args ds gs before hval hW _ _
  exact ends_contract H enc W base args ds gs before hval hW

theorem ends_j_wf : (Rows.wearEndsRow.wf (OpenSpec.ofChange Rows.wearEndsSpec)) = true := by kernel_rfl
theorem ends_j_maps0 : (mapsRowed Tryz.prog) = true := by kernel_rfl
theorem ends_j_params : (Tryz.f5.params.all (Tryz.prog.readableRec ·)) = true := by kernel_rfl
theorem ends_j_tie : (namedTie Tryz.prog Rows.wearEndsRow.named Rows.wearEndsSpec.vars) = true := by kernel_rfl
theorem ends_j_s1 : (Rows.wearEndsRow.stops == []) = true := by kernel_rfl
theorem ends_j_s2 : (Tryz.prog.stops == []) = true := by kernel_rfl
theorem ends_j_s3 : (Rows.wearEndsRow.knobs == []) = true := by kernel_rfl
theorem ends_j_s4 : (Tryz.prog.stopKnobs == []) = true := by kernel_rfl
theorem ends_j_inplace : (Rows.wearEndsRow.inPlace == Tryz.prog.inPlace 5) = true := by kernel_rfl
theorem ends_j_unf : (Rows.wearEndsRow.unfollowed == Tryz.prog.unfollowed 5) = true := by kernel_rfl
theorem ends_j_rec : (Rows.wearEndsRow.recurses == Tryz.prog.recurses 5) = true := by kernel_rfl
theorem ends_j_named : (Rows.wearEndsRow.named == Tryz.prog.varsNamed 5) = true := by kernel_rfl
theorem ends_j_maps : (Rows.wearEndsRow.maps == (Tryz.f5.params.toList ++ Rows.wearEndsSpec.plain.varTypes Tryz.prog).any (Tryz.prog.mapsRec ·)) = true := by kernel_rfl
theorem ends_j_ifaces : (Rows.wearEndsRow.ifaces == (Tryz.f5.params.toList ++ Rows.wearEndsSpec.plain.varTypes Tryz.prog).any (Tryz.prog.ifacesRec ·)) = true := by kernel_rfl
theorem ends_j_mapsout : (Rows.wearEndsRow.mapsOut == Tryz.prog.mapsAmong Tryz.f5.resultTypes.toList) = true := by kernel_rfl
theorem ends_j_loops : (Rows.wearEndsRow.loops == (Tryz.f5.params.toList ++ Rows.wearEndsSpec.plain.varTypes Tryz.prog).any (Tryz.prog.loopsFrom ·)) = true := by kernel_rfl
theorem ends_j_wide : (Rows.wearEndsRow.wideKeys == (Tryz.f5.params.toList ++ Rows.wearEndsSpec.plain.varTypes Tryz.prog ++ Tryz.f5.resultTypes.toList).any (Tryz.prog.wideKeysFrom ·)) = true := by kernel_rfl
theorem ends_j_vars : (Rows.wearEndsSpec.vars.all (Tryz.prog.varReadable ·)) = true := by kernel_rfl
theorem ends_j_res : (Tryz.f5.resultTypes.all (fun t => Tryz.prog.readableRec t && decide (t < Tryz.prog.types.size))) = true := by kernel_rfl
theorem ends_j_ifout : (Rows.wearEndsRow.ifacesOut == Tryz.f5.resultTypes.toList.any (Tryz.prog.ifacesRec ·)) = true := by kernel_rfl
theorem ends_j_loopsout : (Rows.wearEndsRow.loopsOut == Tryz.f5.resultTypes.toList.any (Tryz.prog.loopsFrom ·)) = true := by kernel_rfl
theorem ends_j_keys : (Rows.wearEndsRow.plainKeys == Tryz.prog.plainKeys) = true := by kernel_rfl
theorem ends_j_short : (Rows.wearEndsRow.shortTexts.isNone) = true := by kernel_rfl
theorem ends_j_heard : (Tryz.prog.stopsHeard) = true := by kernel_rfl
theorem ends_j_enter : (Tryz.prog.mayEnter) = true := by kernel_rfl
theorem ends_j_lifted : (Rows.wearEndsRow.lifted == Tryz.prog.liftsFinal) = true := by kernel_rfl
theorem ends_j_make : (Tryz.prog.make == some Rows.wearEndsRow.make) = true := by kernel_rfl
theorem ends_j_pinned : (Rows.wearEndsRow.pinned == Rows.wearEndsRow.pinnedBy) = true := by kernel_rfl
theorem ends_j_veiled : (Rows.wearEndsRow.veiled == (Tryz.f5.params.toList ++ Rows.wearEndsSpec.plain.varTypes Tryz.prog ++ Tryz.f5.resultTypes.toList).any (Tryz.prog.veiledRec ·)) = true := by kernel_rfl
theorem ends_j_veilfit : (Rows.wearEndsRow.veiledFits Tryz.prog Tryz.f5.params.toList (Tryz.f5.params.toList ++ Rows.wearEndsSpec.plain.varTypes Tryz.prog ++ Tryz.f5.resultTypes.toList)) = true := by kernel_rfl
theorem ends_facts : joinedFacts Tryz.prog 5 Tryz.f5 Rows.wearEndsSpec Rows.wearEndsRow = true := by
  unfold joinedFacts
  exact and_true_of (and_true_of (and_true_of (and_true_of (and_true_of (and_true_of (and_true_of (and_true_of (and_true_of (and_true_of (and_true_of (and_true_of (and_true_of (and_true_of (and_true_of (and_true_of (and_true_of (and_true_of (and_true_of (and_true_of (and_true_of (and_true_of (and_true_of (and_true_of (and_true_of (and_true_of (and_true_of (and_true_of (and_true_of (and_true_of (and_true_of (ends_j_wf) laidOut) ends_j_maps0) ends_j_params) ends_j_tie) ends_j_s1) ends_j_s2) ends_j_s3) ends_j_s4) ends_j_inplace) ends_j_unf) ends_j_rec) ends_j_named) ends_j_maps) ends_j_ifaces) ends_j_mapsout) ends_j_loops) ends_j_wide) ends_j_vars) ends_j_res) ends_j_ifout) ends_j_loopsout) ends_j_keys) ends_j_short) ends_j_heard) ends_j_enter) ends_j_lifted) ends_j_make) (by kernel_rfl)) ends_j_pinned) ends_j_veiled) ends_j_veilfit
theorem ends_wrap : (Tryz.f5).isWrapper Tryz.prog Rows.wearEndsRow.wrapper Rows.wearEndsRow.mainSum := by
  unfold Func.isWrapper; first | (rw [if_pos (by decide +kernel)]; kernel_rfl) | (rw [if_neg (by decide +kernel)]; exact ⟨rfl, rfl⟩)
theorem ends_inst : (Tryz.f5).isInstance Tryz.prog Rows.wearEndsRow.origin Rows.wearEndsRow.targs := of_decide_eq_true (by kernel_rfl)
theorem ends_name : Tryz.prog.funcNamed Rows.wearEndsRow.func = some 5 := by kernel_rfl
theorem ends_said : Rows.WearEndsSaid :=
  OpenClaim.holds_of_wide 5 Tryz.f5 rfl rfl rfl rfl rfl rfl rfl ⟨rfl, rfl, rfl, rfl, rfl⟩ rfl rfl rfl rfl rfl ends_name Tryz.func5 ends_facts ends_inst ends_wrap
    (fun os started H enc _ => ends_lifted os started H enc)
end Go.Proofs.YtnfndiafabhhdaaGreat
