/- If all times are as many times as long, so are the answers (WearScaled): proved for every input, without conditions. -/
import Derived.Test.YtnfndiafabhhdaaGreatJ5
namespace Go.Proofs.YtnfndiafabhhdaaGreat
open Go.ChangeShapes Go.WideShapes Go.ChangeAt Go.RowKit
set_option maxRecDepth 200000 in
theorem scaled_contract (H : Type) (enc : TypeId × Value → H) (W : World) (base : Nat) (args : Array Value) (ds gs : List (DataW H)) (before : List MemPlace)
    (hval : ∀ (j : Nat) t v, Tryz.f11.params[j]? = some t → args[j]? = some v → Value.okWide Tryz.prog W .any base t v)
    (hW : DataW.Whole enc Tryz.prog Tryz.f11.params.toList Rows.wearScaledSpec.vars false W args.toList ds gs before) :
    Calls Tryz.prog 11 args W fun e W' => ∃ v, e = .returned v ∧ Rows.wearScaledSpec.post enc Tryz.prog Tryz.f11 false true false false W args v W' := by
  have hW' := hW
  obtain ⟨p, q, hA0, hV, rfl, hfz, hnd⟩ := hW
  have hA : DataW.TrodAll enc Tryz.prog W 0 (fun _ => true) true Tryz.f11.params.toList args.toList ds p := hA0
  rw [Tryz.params11] at hA hval
  obtain ⟨v0, s0, d0, e0, p0, q0, hargs, rfl, rfl, h0, r0⟩ := trodAll_cons hA
  obtain ⟨v1, s1, d1, e1, p1, q1, rfl, rfl, rfl, h1, r1⟩ := trodAll_cons r0
  obtain ⟨v2, s2, d2, e2, p2, q2, rfl, rfl, rfl, h2, r2⟩ := trodAll_cons r1
  obtain ⟨v3, s3, d3, e3, p3, q3, rfl, rfl, rfl, h3, r3⟩ := trodAll_cons r2
  obtain ⟨rfl, rfl, rfl⟩ := trodAll_nil r3
  obtain rfl : args = #[v0, v1, v2, v3] := by cases args; simp_all
  obtain ⟨rfl, rfl⟩ := trodVars_none hV
  obtain ⟨F0, vv0, vs0, rfl, hF0⟩ := fl_open (hval 0 30 v0 rfl rfl) h0
  obtain ⟨n1, rfl, lo1, hi1⟩ := int_open (hval 1 3 v1 rfl rfl) h1
  obtain ⟨n2, rfl, lo2, hi2⟩ := int_open (hval 2 3 v2 rfl rfl) h2
  obtain ⟨n3, rfl, lo3, hi3⟩ := int_open (hval 3 3 v3 rfl rfl) h3
  refine (law_scaled F0 vv0 vs0 n1 n2 n3 W hF0 lo1 hi1 lo2 hi2 lo3 hi3).mono fun e W' ⟨he, hb⟩ => ?_
  subst he
  refine ⟨_, rfl, law_post laidOut (fun t ht => ?_) rfl rfl Tryz.underlying4 rfl hW' hb⟩
  rw [Tryz.params11] at ht
  simp at ht
  rcases ht with rfl | rfl | rfl | rfl
  all_goals exact ⟨by kernel_rfl, of_decide_eq_true (by kernel_rfl)⟩
set_option maxRecDepth 100000 in
theorem scaled_lifted (os : Os) (started : os.Started) (H : Type) (enc : TypeId × Value → H) :
    ReturnsInHanded {} Tryz.checked os 11 .any (Rows.wearScaledSpec.pre6 enc Tryz.prog Tryz.f11 Rows.wearScaledRow.domain false) (Rows.wearScaledSpec.post enc Tryz.prog Tryz.f11 false true false false) := by
  refine returnsInHanded_of_change (C := Tryz.checked) own started (by kernel_rfl) Tryz.func11
    (ChangeSpec.witness6 (enc := enc) (C := Tryz.checked) false ⟨#[], #[.agg #[.slice none 0 0, .int .i64 0, .int .i64 0, .int .i64 0, .int .i64 0, .slice none 0 0], .int .i64 0, .int .i64 0, .int .i64 0], []⟩ 8 (by kernel_rfl) (by kernel_rfl) (by kernel_rfl) (by kernel_rfl)) ?_
  intro W base args ds gs before hval hW _ _
  exact scaled_contract H enc W base args ds gs before hval hW
theorem scaled_j_wf : (Rows.wearScaledRow.wf (OpenSpec.ofChange Rows.wearScaledSpec)) = true := by kernel_rfl
theorem scaled_j_maps0 : (mapsRowed Tryz.prog) = true := by kernel_rfl
theorem scaled_j_params : (Tryz.f11.params.all (Tryz.prog.readableRec ·)) = true := by kernel_rfl
theorem scaled_j_tie : (namedTie Tryz.prog Rows.wearScaledRow.named Rows.wearScaledSpec.vars) = true := by kernel_rfl
theorem scaled_j_s1 : (Rows.wearScaledRow.stops == []) = true := by kernel_rfl
theorem scaled_j_s2 : (Tryz.prog.stops == []) = true := by kernel_rfl
theorem scaled_j_s3 : (Rows.wearScaledRow.knobs == []) = true := by kernel_rfl
theorem scaled_j_s4 : (Tryz.prog.stopKnobs == []) = true := by kernel_rfl
theorem scaled_j_inplace : (Rows.wearScaledRow.inPlace == Tryz.prog.inPlace 11) = true := by kernel_rfl
theorem scaled_j_unf : (Rows.wearScaledRow.unfollowed == Tryz.prog.unfollowed 11) = true := by kernel_rfl
theorem scaled_j_rec : (Rows.wearScaledRow.recurses == Tryz.prog.recurses 11) = true := by kernel_rfl
theorem scaled_j_named : (Rows.wearScaledRow.named == Tryz.prog.varsNamed 11) = true := by kernel_rfl
theorem scaled_j_maps : (Rows.wearScaledRow.maps == (Tryz.f11.params.toList ++ Rows.wearScaledSpec.plain.varTypes Tryz.prog).any (Tryz.prog.mapsRec ·)) = true := by kernel_rfl
theorem scaled_j_ifaces : (Rows.wearScaledRow.ifaces == (Tryz.f11.params.toList ++ Rows.wearScaledSpec.plain.varTypes Tryz.prog).any (Tryz.prog.ifacesRec ·)) = true := by kernel_rfl
theorem scaled_j_mapsout : (Rows.wearScaledRow.mapsOut == Tryz.prog.mapsAmong Tryz.f11.resultTypes.toList) = true := by kernel_rfl
theorem scaled_j_loops : (Rows.wearScaledRow.loops == (Tryz.f11.params.toList ++ Rows.wearScaledSpec.plain.varTypes Tryz.prog).any (Tryz.prog.loopsFrom ·)) = true := by kernel_rfl
theorem scaled_j_wide : (Rows.wearScaledRow.wideKeys == (Tryz.f11.params.toList ++ Rows.wearScaledSpec.plain.varTypes Tryz.prog ++ Tryz.f11.resultTypes.toList).any (Tryz.prog.wideKeysFrom ·)) = true := by kernel_rfl
theorem scaled_j_vars : (Rows.wearScaledSpec.vars.all (Tryz.prog.varReadable ·)) = true := by kernel_rfl
theorem scaled_j_res : (Tryz.f11.resultTypes.all (fun t => Tryz.prog.readableRec t && decide (t < Tryz.prog.types.size))) = true := by kernel_rfl
theorem scaled_j_ifout : (Rows.wearScaledRow.ifacesOut == Tryz.f11.resultTypes.toList.any (Tryz.prog.ifacesRec ·)) = true := by kernel_rfl
theorem scaled_j_loopsout : (Rows.wearScaledRow.loopsOut == Tryz.f11.resultTypes.toList.any (Tryz.prog.loopsFrom ·)) = true := by kernel_rfl
theorem scaled_j_keys : (Rows.wearScaledRow.plainKeys == Tryz.prog.plainKeys) = true := by kernel_rfl
theorem scaled_j_short : (Rows.wearScaledRow.shortTexts.isNone) = true := by kernel_rfl
theorem scaled_j_heard : (Tryz.prog.stopsHeard) = true := by kernel_rfl
theorem scaled_j_enter : (Tryz.prog.mayEnter) = true := by kernel_rfl
theorem scaled_j_lifted : (Rows.wearScaledRow.lifted == Tryz.prog.liftsFinal) = true := by kernel_rfl
theorem scaled_j_make : (Tryz.prog.make == some Rows.wearScaledRow.make) = true := by kernel_rfl
theorem scaled_j_pinned : (Rows.wearScaledRow.pinned == Rows.wearScaledRow.pinnedBy) = true := by kernel_rfl
theorem scaled_j_veiled : (Rows.wearScaledRow.veiled == (Tryz.f11.params.toList ++ Rows.wearScaledSpec.plain.varTypes Tryz.prog ++ Tryz.f11.resultTypes.toList).any (Tryz.prog.veiledRec ·)) = true := by kernel_rfl
theorem scaled_j_veilfit : (Rows.wearScaledRow.veiledFits Tryz.prog Tryz.f11.params.toList (Tryz.f11.params.toList ++ Rows.wearScaledSpec.plain.varTypes Tryz.prog ++ Tryz.f11.resultTypes.toList)) = true := by kernel_rfl
theorem scaled_facts : joinedFacts Tryz.prog 11 Tryz.f11 Rows.wearScaledSpec Rows.wearScaledRow = true := by
  unfold joinedFacts
  exact and_true_of (and_true_of (and_true_of (and_true_of (and_true_of (and_true_of (and_true_of (and_true_of (and_true_of (and_true_of (and_true_of (and_true_of (and_true_of (and_true_of (and_true_of (and_true_of (and_true_of (and_true_of (and_true_of (and_true_of (and_true_of (and_true_of (and_true_of (and_true_of (and_true_of (and_true_of (and_true_of (and_true_of (and_true_of (and_true_of (and_true_of (scaled_j_wf) laidOut) scaled_j_maps0) scaled_j_params) scaled_j_tie) scaled_j_s1) scaled_j_s2) scaled_j_s3) scaled_j_s4) scaled_j_inplace) scaled_j_unf) scaled_j_rec) scaled_j_named) scaled_j_maps) scaled_j_ifaces) scaled_j_mapsout) scaled_j_loops) scaled_j_wide) scaled_j_vars) scaled_j_res) scaled_j_ifout) scaled_j_loopsout) scaled_j_keys) scaled_j_short) scaled_j_heard) scaled_j_enter) scaled_j_lifted) scaled_j_make) (by kernel_rfl)) scaled_j_pinned) scaled_j_veiled) scaled_j_veilfit
theorem scaled_wrap : (Tryz.f11).isWrapper Tryz.prog Rows.wearScaledRow.wrapper Rows.wearScaledRow.mainSum := by
  unfold Func.isWrapper; first | (rw [if_pos (by decide +kernel)]; kernel_rfl) | (rw [if_neg (by decide +kernel)]; exact ⟨rfl, rfl⟩)
theorem scaled_inst : (Tryz.f11).isInstance Tryz.prog Rows.wearScaledRow.origin Rows.wearScaledRow.targs := of_decide_eq_true (by kernel_rfl)
theorem scaled_name : Tryz.prog.funcNamed Rows.wearScaledRow.func = some 11 := by kernel_rfl
theorem scaled_said : Rows.WearScaledSaid :=
  OpenClaim.holds_of_wide 11 Tryz.f11 rfl rfl rfl rfl rfl rfl rfl ⟨rfl, rfl, rfl, rfl, rfl⟩ rfl rfl rfl rfl rfl scaled_name Tryz.func11 scaled_facts scaled_inst scaled_wrap
    (fun os started H enc _ => scaled_lifted os started H enc)
end Go.Proofs.YtnfndiafabhhdaaGreat
