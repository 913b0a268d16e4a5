/- Either a case is possible, or one to three items contradict each other, never both (WearEither): proved for every input, without conditions. -/
import Derived.Test.YtnfndiafabhhdaaGreatJ2
namespace Go.Proofs.YtnfndiafabhhdaaGreat
open Go.ChangeShapes Go.WideShapes Go.ChangeAt Go.RowKit
set_option maxRecDepth 200000 in
theorem either_contract (H : Type) (enc : TypeId × Value → H) (W : World) (base : Nat) (args : Array Value) (ds gs : List (DataW H)) (before : List MemPlace)
    (hval : ∀ (j : Nat) t v, Tryz.f16.params[j]? = some t → args[j]? = some v → Value.okWide Tryz.prog W .any base t v)
    (hW : DataW.Whole enc Tryz.prog Tryz.f16.params.toList Rows.wearEitherSpec.vars false W args.toList ds gs before) :
    Calls Tryz.prog 16 args W fun e W' => ∃ v, e = .returned v ∧ Rows.wearEitherSpec.post enc Tryz.prog Tryz.f16 false true false false W args v W' := by
  have hW' := hW
  obtain ⟨p, q, hA0, hV, rfl, hfz, hnd⟩ := hW
  have hA : DataW.TrodAll enc Tryz.prog W 0 (fun _ => true) true Tryz.f16.params.toList args.toList ds p := hA0
  rw [Tryz.params16] at hA hval
  obtain ⟨v0, s0, d0, e0, p0, q0, hargs, rfl, rfl, h0, r0⟩ := trodAll_cons hA
  obtain ⟨v1, s1, d1, e1, p1, q1, rfl, rfl, rfl, h1, r1⟩ := trodAll_cons r0
  obtain ⟨v2, s2, d2, e2, p2, q2, rfl, rfl, rfl, h2, r2⟩ := trodAll_cons r1
  obtain ⟨v3, s3, d3, e3, p3, q3, rfl, rfl, rfl, h3, r3⟩ := trodAll_cons r2
  obtain ⟨rfl, rfl, rfl⟩ := trodAll_nil r3
  obtain rfl : args = #[v0, v1, v2, v3] := by cases args; simp_all
  obtain ⟨rfl, rfl⟩ := trodVars_none hV
  obtain ⟨F0, vv0, vs0, rfl, hF0⟩ := fl_open (hval 0 30 v0 rfl rfl) h0
  obtain ⟨rn1, rd1, rfl, hR1⟩ := ratio_open (hval 1 41 v1 rfl rfl) h1
  obtain ⟨n2, rfl, lo2, hi2⟩ := int_open (hval 2 3 v2 rfl rfl) h2
  obtain ⟨l3, o3, m3, c3, rfl, hL3⟩ := list_open (hval 3 51 v3 rfl rfl) h3
  refine (law_either F0 vv0 vs0 rn1 rd1 n2 l3 o3 m3 c3 W hF0 hR1 lo2 hi2 hL3).mono fun e W' ⟨he, hb⟩ => ?_
  subst he
  refine ⟨_, rfl, law_post laidOut (fun t ht => ?_) rfl rfl Tryz.underlying4 rfl hW' hb⟩
  rw [Tryz.params16] at ht
  simp at ht
  rcases ht with rfl | rfl | rfl | rfl
  all_goals exact ⟨by kernel_rfl, of_decide_eq_true (by kernel_rfl)⟩
set_option maxRecDepth 100000 in
theorem either_lifted (os : Os) (started : os.Started) (H : Type) (enc : TypeId × Value → H) :
    ReturnsInHanded {} Tryz.checked os 16 .any (Rows.wearEitherSpec.pre6 enc Tryz.prog Tryz.f16 Rows.wearEitherRow.domain false) (Rows.wearEitherSpec.post enc Tryz.prog Tryz.f16 false true false false) := by
  refine returnsInHanded_of_change (C := Tryz.checked) own started (by kernel_rfl) Tryz.func16
    (ChangeSpec.witness6 (enc := enc) (C := Tryz.checked) false ⟨#[], #[.agg #[.slice none 0 0, .int .i64 0, .int .i64 0, .int .i64 0, .int .i64 0, .slice none 0 0], .agg #[.int .i64 0, .int .i64 0], .int .i64 0, .slice none 0 0], []⟩ 8 (by kernel_rfl) (by kernel_rfl) (by kernel_rfl) (by kernel_rfl)) ?_
  intro W base args ds gs before hval hW _ _
  exact either_contract H enc W base args ds gs before hval hW
theorem either_j_wf : (Rows.wearEitherRow.wf (OpenSpec.ofChange Rows.wearEitherSpec)) = true := by kernel_rfl
theorem either_j_maps0 : (mapsRowed Tryz.prog) = true := by kernel_rfl
theorem either_j_params : (Tryz.f16.params.all (Tryz.prog.readableRec ·)) = true := by kernel_rfl
theorem either_j_tie : (namedTie Tryz.prog Rows.wearEitherRow.named Rows.wearEitherSpec.vars) = true := by kernel_rfl
theorem either_j_s1 : (Rows.wearEitherRow.stops == []) = true := by kernel_rfl
theorem either_j_s2 : (Tryz.prog.stops == []) = true := by kernel_rfl
theorem either_j_s3 : (Rows.wearEitherRow.knobs == []) = true := by kernel_rfl
theorem either_j_s4 : (Tryz.prog.stopKnobs == []) = true := by kernel_rfl
theorem either_j_inplace : (Rows.wearEitherRow.inPlace == Tryz.prog.inPlace 16) = true := by kernel_rfl
theorem either_j_unf : (Rows.wearEitherRow.unfollowed == Tryz.prog.unfollowed 16) = true := by kernel_rfl
theorem either_j_rec : (Rows.wearEitherRow.recurses == Tryz.prog.recurses 16) = true := by kernel_rfl
theorem either_j_named : (Rows.wearEitherRow.named == Tryz.prog.varsNamed 16) = true := by kernel_rfl
theorem either_j_maps : (Rows.wearEitherRow.maps == (Tryz.f16.params.toList ++ Rows.wearEitherSpec.plain.varTypes Tryz.prog).any (Tryz.prog.mapsRec ·)) = true := by kernel_rfl
theorem either_j_ifaces : (Rows.wearEitherRow.ifaces == (Tryz.f16.params.toList ++ Rows.wearEitherSpec.plain.varTypes Tryz.prog).any (Tryz.prog.ifacesRec ·)) = true := by kernel_rfl
theorem either_j_mapsout : (Rows.wearEitherRow.mapsOut == Tryz.prog.mapsAmong Tryz.f16.resultTypes.toList) = true := by kernel_rfl
theorem either_j_loops : (Rows.wearEitherRow.loops == (Tryz.f16.params.toList ++ Rows.wearEitherSpec.plain.varTypes Tryz.prog).any (Tryz.prog.loopsFrom ·)) = true := by kernel_rfl
theorem either_j_wide : (Rows.wearEitherRow.wideKeys == (Tryz.f16.params.toList ++ Rows.wearEitherSpec.plain.varTypes Tryz.prog ++ Tryz.f16.resultTypes.toList).any (Tryz.prog.wideKeysFrom ·)) = true := by kernel_rfl
theorem either_j_vars : (Rows.wearEitherSpec.vars.all (Tryz.prog.varReadable ·)) = true := by kernel_rfl
theorem either_j_res : (Tryz.f16.resultTypes.all (fun t => Tryz.prog.readableRec t && decide (t < Tryz.prog.types.size))) = true := by kernel_rfl
theorem either_j_ifout : (Rows.wearEitherRow.ifacesOut == Tryz.f16.resultTypes.toList.any (Tryz.prog.ifacesRec ·)) = true := by kernel_rfl
theorem either_j_loopsout : (Rows.wearEitherRow.loopsOut == Tryz.f16.resultTypes.toList.any (Tryz.prog.loopsFrom ·)) = true := by kernel_rfl
theorem either_j_keys : (Rows.wearEitherRow.plainKeys == Tryz.prog.plainKeys) = true := by kernel_rfl
theorem either_j_short : (Rows.wearEitherRow.shortTexts.isNone) = true := by kernel_rfl
theorem either_j_heard : (Tryz.prog.stopsHeard) = true := by kernel_rfl
theorem either_j_enter : (Tryz.prog.mayEnter) = true := by kernel_rfl
theorem either_j_lifted : (Rows.wearEitherRow.lifted == Tryz.prog.liftsFinal) = true := by kernel_rfl
theorem either_j_make : (Tryz.prog.make == some Rows.wearEitherRow.make) = true := by kernel_rfl
theorem either_j_pinned : (Rows.wearEitherRow.pinned == Rows.wearEitherRow.pinnedBy) = true := by kernel_rfl
theorem either_j_veiled : (Rows.wearEitherRow.veiled == (Tryz.f16.params.toList ++ Rows.wearEitherSpec.plain.varTypes Tryz.prog ++ Tryz.f16.resultTypes.toList).any (Tryz.prog.veiledRec ·)) = true := by kernel_rfl
theorem either_j_veilfit : (Rows.wearEitherRow.veiledFits Tryz.prog Tryz.f16.params.toList (Tryz.f16.params.toList ++ Rows.wearEitherSpec.plain.varTypes Tryz.prog ++ Tryz.f16.resultTypes.toList)) = true := by kernel_rfl
theorem either_facts : joinedFacts Tryz.prog 16 Tryz.f16 Rows.wearEitherSpec Rows.wearEitherRow = true := by
  unfold joinedFacts
  exact and_true_of (and_true_of (and_true_of (and_true_of (and_true_of (and_true_of (and_true_of (and_true_of (and_true_of (and_true_of (and_true_of (and_true_of (and_true_of (and_true_of (and_true_of (and_true_of (and_true_of (and_true_of (and_true_of (and_true_of (and_true_of (and_true_of (and_true_of (and_true_of (and_true_of (and_true_of (and_true_of (and_true_of (and_true_of (and_true_of (and_true_of (either_j_wf) laidOut) either_j_maps0) either_j_params) either_j_tie) either_j_s1) either_j_s2) either_j_s3) either_j_s4) either_j_inplace) either_j_unf) either_j_rec) either_j_named) either_j_maps) either_j_ifaces) either_j_mapsout) either_j_loops) either_j_wide) either_j_vars) either_j_res) either_j_ifout) either_j_loopsout) either_j_keys) either_j_short) either_j_heard) either_j_enter) either_j_lifted) either_j_make) (by kernel_rfl)) either_j_pinned) either_j_veiled) either_j_veilfit
theorem either_wrap : (Tryz.f16).isWrapper Tryz.prog Rows.wearEitherRow.wrapper Rows.wearEitherRow.mainSum := by
  unfold Func.isWrapper; first | (rw [if_pos (by decide +kernel)]; kernel_rfl) | (rw [if_neg (by decide +kernel)]; exact ⟨rfl, rfl⟩)
theorem either_inst : (Tryz.f16).isInstance Tryz.prog Rows.wearEitherRow.origin Rows.wearEitherRow.targs := of_decide_eq_true (by kernel_rfl)
theorem either_name : Tryz.prog.funcNamed Rows.wearEitherRow.func = some 16 := by kernel_rfl
theorem either_said : Rows.WearEitherSaid :=
  OpenClaim.holds_of_wide 16 Tryz.f16 rfl rfl rfl rfl rfl rfl rfl ⟨rfl, rfl, rfl, rfl, rfl⟩ rfl rfl rfl rfl rfl either_name Tryz.func16 either_facts either_inst either_wrap
    (fun os started H enc _ => either_lifted os started H enc)
end Go.Proofs.YtnfndiafabhhdaaGreat
