/- Whatever the truth is: if all items are as they were seen, all answers hold (WearTrue): proved for every input, without conditions. -/
import Derived.Test.YtnfndiafabhhdaaGreatJ6
namespace Go.Proofs.YtnfndiafabhhdaaGreat
open Go.ChangeShapes Go.WideShapes Go.ChangeAt Go.RowKit
set_option maxRecDepth 200000 in
theorem wtrue_contract (H : Type) (enc : TypeId × Value → H) (W : World) (base : Nat) (args : Array Value) (ds gs : List (DataW H)) (before : List MemPlace)
    (hval : ∀ (j : Nat) t v, Tryz.f14.params[j]? = some t → args[j]? = some v → Value.okWide Tryz.prog W .any base t v)
    (hW : DataW.Whole enc Tryz.prog Tryz.f14.params.toList Rows.wearTrueSpec.vars false W args.toList ds gs before) :
    Calls Tryz.prog 14 args W fun e W' => ∃ v, e = .returned v ∧ Rows.wearTrueSpec.post enc Tryz.prog Tryz.f14 false true false false W args v W' := by
  have hW' := hW
  obtain ⟨p, q, hA0, hV, rfl, hfz, hnd⟩ := hW
  have hA : DataW.TrodAll enc Tryz.prog W 0 (fun _ => true) true Tryz.f14.params.toList args.toList ds p := hA0
  rw [Tryz.params14] at hA hval
  obtain ⟨v0, s0, d0, e0, p0, q0, hargs, rfl, rfl, h0, r0⟩ := trodAll_cons hA
  obtain ⟨v1, s1, d1, e1, p1, q1, rfl, rfl, rfl, h1, r1⟩ := trodAll_cons r0
  obtain ⟨v2, s2, d2, e2, p2, q2, rfl, rfl, rfl, h2, r2⟩ := trodAll_cons r1
  obtain ⟨v3, s3, d3, e3, p3, q3, rfl, rfl, rfl, h3, r3⟩ := trodAll_cons r2
  obtain ⟨v4, s4, d4, e4, p4, q4, rfl, rfl, rfl, h4, r4⟩ := trodAll_cons r3
  obtain ⟨rfl, rfl, rfl⟩ := trodAll_nil r4
  obtain rfl : args = #[v0, v1, v2, v3, v4] := by cases args; simp_all
  obtain ⟨rfl, rfl⟩ := trodVars_none hV
  obtain ⟨F0, vv0, vs0, rfl, hF0⟩ := fl_open (hval 0 30 v0 rfl rfl) h0
  obtain ⟨tw1, tf1, l1, o1, m1, c1, rfl, hT1⟩ := truth_open (hval 1 74 v1 rfl rfl) h1
  obtain ⟨n2, rfl, lo2, hi2⟩ := int_open (hval 2 3 v2 rfl rfl) h2
  obtain ⟨n3, rfl, lo3, hi3⟩ := int_open (hval 3 3 v3 rfl rfl) h3
  obtain ⟨l4, o4, m4, c4, rfl, hL4⟩ := list_open (hval 4 51 v4 rfl rfl) h4
  refine (law_wtrue F0 vv0 vs0 tw1 tf1 l1 o1 m1 c1 n2 n3 l4 o4 m4 c4 W hF0 hT1 lo2 hi2 lo3 hi3 hL4).mono fun e W' ⟨he, hb⟩ => ?_
  subst he
  refine ⟨_, rfl, law_post laidOut (fun t ht => ?_) rfl rfl Tryz.underlying4 rfl hW' hb⟩
  rw [Tryz.params14] at ht
  simp at ht
  rcases ht with rfl | rfl | rfl | rfl | rfl
  all_goals exact ⟨by kernel_rfl, of_decide_eq_true (by kernel_rfl)⟩
set_option maxRecDepth 100000 in
theorem wtrue_lifted (os : Os) (started : os.Started) (H : Type) (enc : TypeId × Value → H) :
    ReturnsInHanded {} Tryz.checked os 14 .any (Rows.wearTrueSpec.pre6 enc Tryz.prog Tryz.f14 Rows.wearTrueRow.domain false) (Rows.wearTrueSpec.post enc Tryz.prog Tryz.f14 false true false false) := by
  refine returnsInHanded_of_change (C := Tryz.checked) own started (by kernel_rfl) Tryz.func14
    (ChangeSpec.witness6 (enc := enc) (C := Tryz.checked) false ⟨#[], #[.agg #[.slice none 0 0, .int .i64 0, .int .i64 0, .int .i64 0, .int .i64 0, .slice none 0 0], .agg #[.int .i64 0, .int .i64 0, .slice none 0 0], .int .i64 0, .int .i64 0, .slice none 0 0], []⟩ 8 (by kernel_rfl) (by kernel_rfl) (by kernel_rfl) (by kernel_rfl)) ?_
  intro W base args ds gs before hval hW _ _
  exact wtrue_contract H enc W base args ds gs before hval hW
theorem wtrue_j_wf : (Rows.wearTrueRow.wf (OpenSpec.ofChange Rows.wearTrueSpec)) = true := by kernel_rfl
theorem wtrue_j_maps0 : (mapsRowed Tryz.prog) = true := by kernel_rfl
theorem wtrue_j_params : (Tryz.f14.params.all (Tryz.prog.readableRec ·)) = true := by kernel_rfl
theorem wtrue_j_tie : (namedTie Tryz.prog Rows.wearTrueRow.named Rows.wearTrueSpec.vars) = true := by kernel_rfl
theorem wtrue_j_s1 : (Rows.wearTrueRow.stops == []) = true := by kernel_rfl
theorem wtrue_j_s2 : (Tryz.prog.stops == []) = true := by kernel_rfl
theorem wtrue_j_s3 : (Rows.wearTrueRow.knobs == []) = true := by kernel_rfl
theorem wtrue_j_s4 : (Tryz.prog.stopKnobs == []) = true := by kernel_rfl
theorem wtrue_j_inplace : (Rows.wearTrueRow.inPlace == Tryz.prog.inPlace 14) = true := by kernel_rfl
theorem wtrue_j_unf : (Rows.wearTrueRow.unfollowed == Tryz.prog.unfollowed 14) = true := by kernel_rfl
theorem wtrue_j_rec : (Rows.wearTrueRow.recurses == Tryz.prog.recurses 14) = true := by kernel_rfl
theorem wtrue_j_named : (Rows.wearTrueRow.named == Tryz.prog.varsNamed 14) = true := by kernel_rfl
theorem wtrue_j_maps : (Rows.wearTrueRow.maps == (Tryz.f14.params.toList ++ Rows.wearTrueSpec.plain.varTypes Tryz.prog).any (Tryz.prog.mapsRec ·)) = true := by kernel_rfl
theorem wtrue_j_ifaces : (Rows.wearTrueRow.ifaces == (Tryz.f14.params.toList ++ Rows.wearTrueSpec.plain.varTypes Tryz.prog).any (Tryz.prog.ifacesRec ·)) = true := by kernel_rfl
theorem wtrue_j_mapsout : (Rows.wearTrueRow.mapsOut == Tryz.prog.mapsAmong Tryz.f14.resultTypes.toList) = true := by kernel_rfl
theorem wtrue_j_loops : (Rows.wearTrueRow.loops == (Tryz.f14.params.toList ++ Rows.wearTrueSpec.plain.varTypes Tryz.prog).any (Tryz.prog.loopsFrom ·)) = true := by kernel_rfl
theorem wtrue_j_wide : (Rows.wearTrueRow.wideKeys == (Tryz.f14.params.toList ++ Rows.wearTrueSpec.plain.varTypes Tryz.prog ++ Tryz.f14.resultTypes.toList).any (Tryz.prog.wideKeysFrom ·)) = true := by kernel_rfl
theorem wtrue_j_vars : (Rows.wearTrueSpec.vars.all (Tryz.prog.varReadable ·)) = true := by kernel_rfl
theorem wtrue_j_res : (Tryz.f14.resultTypes.all (fun t => Tryz.prog.readableRec t && decide (t < Tryz.prog.types.size))) = true := by kernel_rfl
theorem wtrue_j_ifout : (Rows.wearTrueRow.ifacesOut == Tryz.f14.resultTypes.toList.any (Tryz.prog.ifacesRec ·)) = true := by kernel_rfl
theorem wtrue_j_loopsout : (Rows.wearTrueRow.loopsOut == Tryz.f14.resultTypes.toList.any (Tryz.prog.loopsFrom ·)) = true := by kernel_rfl
theorem wtrue_j_keys : (Rows.wearTrueRow.plainKeys == Tryz.prog.plainKeys) = true := by kernel_rfl
theorem wtrue_j_short : (Rows.wearTrueRow.shortTexts.isNone) = true := by kernel_rfl
theorem wtrue_j_heard : (Tryz.prog.stopsHeard) = true := by kernel_rfl
theorem wtrue_j_enter : (Tryz.prog.mayEnter) = true := by kernel_rfl
theorem wtrue_j_lifted : (Rows.wearTrueRow.lifted == Tryz.prog.liftsFinal) = true := by kernel_rfl
theorem wtrue_j_make : (Tryz.prog.make == some Rows.wearTrueRow.make) = true := by kernel_rfl
theorem wtrue_j_pinned : (Rows.wearTrueRow.pinned == Rows.wearTrueRow.pinnedBy) = true := by kernel_rfl
theorem wtrue_j_veiled : (Rows.wearTrueRow.veiled == (Tryz.f14.params.toList ++ Rows.wearTrueSpec.plain.varTypes Tryz.prog ++ Tryz.f14.resultTypes.toList).any (Tryz.prog.veiledRec ·)) = true := by kernel_rfl
theorem wtrue_j_veilfit : (Rows.wearTrueRow.veiledFits Tryz.prog Tryz.f14.params.toList (Tryz.f14.params.toList ++ Rows.wearTrueSpec.plain.varTypes Tryz.prog ++ Tryz.f14.resultTypes.toList)) = true := by kernel_rfl
theorem wtrue_facts : joinedFacts Tryz.prog 14 Tryz.f14 Rows.wearTrueSpec Rows.wearTrueRow = true := by
  unfold joinedFacts
  exact and_true_of (and_true_of (and_true_of (and_true_of (and_true_of (and_true_of (and_true_of (and_true_of (and_true_of (and_true_of (and_true_of (and_true_of (and_true_of (and_true_of (and_true_of (and_true_of (and_true_of (and_true_of (and_true_of (and_true_of (and_true_of (and_true_of (and_true_of (and_true_of (and_true_of (and_true_of (and_true_of (and_true_of (and_true_of (and_true_of (and_true_of (wtrue_j_wf) laidOut) wtrue_j_maps0) wtrue_j_params) wtrue_j_tie) wtrue_j_s1) wtrue_j_s2) wtrue_j_s3) wtrue_j_s4) wtrue_j_inplace) wtrue_j_unf) wtrue_j_rec) wtrue_j_named) wtrue_j_maps) wtrue_j_ifaces) wtrue_j_mapsout) wtrue_j_loops) wtrue_j_wide) wtrue_j_vars) wtrue_j_res) wtrue_j_ifout) wtrue_j_loopsout) wtrue_j_keys) wtrue_j_short) wtrue_j_heard) wtrue_j_enter) wtrue_j_lifted) wtrue_j_make) (by kernel_rfl)) wtrue_j_pinned) wtrue_j_veiled) wtrue_j_veilfit
theorem wtrue_wrap : (Tryz.f14).isWrapper Tryz.prog Rows.wearTrueRow.wrapper Rows.wearTrueRow.mainSum := by
  unfold Func.isWrapper; first | (rw [if_pos (by decide +kernel)]; kernel_rfl) | (rw [if_neg (by decide +kernel)]; exact ⟨rfl, rfl⟩)
theorem wtrue_inst : (Tryz.f14).isInstance Tryz.prog Rows.wearTrueRow.origin Rows.wearTrueRow.targs := of_decide_eq_true (by kernel_rfl)
theorem wtrue_name : Tryz.prog.funcNamed Rows.wearTrueRow.func = some 14 := by kernel_rfl
theorem wtrue_said : Rows.WearTrueSaid :=
  OpenClaim.holds_of_wide 14 Tryz.f14 rfl rfl rfl rfl rfl rfl rfl ⟨rfl, rfl, rfl, rfl, rfl⟩ rfl rfl rfl rfl rfl wtrue_name Tryz.func14 wtrue_facts wtrue_inst wtrue_wrap
    (fun os started H enc _ => wtrue_lifted os started H enc)
end Go.Proofs.YtnfndiafabhhdaaGreat
