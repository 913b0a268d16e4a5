/- A further reading never widens Bounds, Reached or Level (WearMore): proved for every input, without conditions. -/
import Derived.Test.YtnfndiafabhhdaaGreatJ4
namespace Go.Proofs.YtnfndiafabhhdaaGreat
open Go.ChangeShapes Go.WideShapes Go.ChangeAt Go.RowKit
set_option maxRecDepth 200000 in
theorem wmore_contract (H : Type) (enc : TypeId × Value → H) (W : World) (base : Nat) (args : Array Value) (ds gs : List (DataW H)) (before : List MemPlace)
    (hval : ∀ (j : Nat) t v, Tryz.f17.params[j]? = some t → args[j]? = some v → Value.okWide Tryz.prog W .any base t v)
    (hW : DataW.Whole enc Tryz.prog Tryz.f17.params.toList Rows.wearMoreSpec.vars false W args.toList ds gs before) :
    Calls Tryz.prog 17 args W fun e W' => ∃ v, e = .returned v ∧ Rows.wearMoreSpec.post enc Tryz.prog Tryz.f17 false true false false W args v W' := by
  have hW' := hW
  obtain ⟨p, q, hA0, hV, rfl, hfz, hnd⟩ := hW
  have hA : DataW.TrodAll enc Tryz.prog W 0 (fun _ => true) true Tryz.f17.params.toList args.toList ds p := hA0
  rw [Tryz.params17] at hA hval
  obtain ⟨v0, s0, d0, e0, p0, q0, hargs, rfl, rfl, h0, r0⟩ := trodAll_cons hA
  obtain ⟨v1, s1, d1, e1, p1, q1, rfl, rfl, rfl, h1, r1⟩ := trodAll_cons r0
  obtain ⟨v2, s2, d2, e2, p2, q2, rfl, rfl, rfl, h2, r2⟩ := trodAll_cons r1
  obtain ⟨v3, s3, d3, e3, p3, q3, rfl, rfl, rfl, h3, r3⟩ := trodAll_cons r2
  obtain ⟨v4, s4, d4, e4, p4, q4, rfl, rfl, rfl, h4, r4⟩ := trodAll_cons r3
  obtain ⟨rfl, rfl, rfl⟩ := trodAll_nil r4
  obtain rfl : args = #[v0, v1, v2, v3, v4] := by cases args; simp_all
  obtain ⟨rfl, rfl⟩ := trodVars_none hV
  obtain ⟨F0, vv0, vs0, rfl, hF0⟩ := fl_open (hval 0 30 v0 rfl rfl) h0
  obtain ⟨S1, rfl, hS1⟩ := seen_open (hval 1 88 v1 rfl rfl) h1
  obtain ⟨n2, rfl, lo2, hi2⟩ := int_open (hval 2 3 v2 rfl rfl) h2
  obtain ⟨n3, rfl, lo3, hi3⟩ := int_open (hval 3 3 v3 rfl rfl) h3
  obtain ⟨n4, rfl, lo4, hi4⟩ := int_open (hval 4 3 v4 rfl rfl) h4
  refine (law_wmore F0 vv0 vs0 S1 n2 n3 n4 W hF0 hS1 lo2 hi2 lo3 hi3 lo4 hi4).mono fun e W' ⟨he, hb⟩ => ?_
  subst he
  refine ⟨_, rfl, law_post laidOut (fun t ht => ?_) rfl rfl Tryz.underlying4 rfl hW' hb⟩
  rw [Tryz.params17] at ht
  simp at ht
  rcases ht with rfl | rfl | rfl | rfl | rfl
  all_goals exact ⟨by kernel_rfl, of_decide_eq_true (by kernel_rfl)⟩
set_option maxRecDepth 100000 in
theorem wmore_lifted (os : Os) (started : os.Started) (H : Type) (enc : TypeId × Value → H) :
    ReturnsInHanded {} Tryz.checked os 17 .any (Rows.wearMoreSpec.pre6 enc Tryz.prog Tryz.f17 Rows.wearMoreRow.domain false) (Rows.wearMoreSpec.post enc Tryz.prog Tryz.f17 false true false false) := by
  refine returnsInHanded_of_change (C := Tryz.checked) own started (by kernel_rfl) Tryz.func17
    (ChangeSpec.witness6 (enc := enc) (C := Tryz.checked) false ⟨#[], #[.agg #[.slice none 0 0, .int .i64 0, .int .i64 0, .int .i64 0, .int .i64 0, .slice none 0 0], .agg #[.int .i64 0, .int .i64 0, .int .i64 0, .int .i64 0], .int .i64 0, .int .i64 0, .int .i64 0], []⟩ 8 (by kernel_rfl) (by kernel_rfl) (by kernel_rfl) (by kernel_rfl)) ?_
  intro W base args ds gs before hval hW _ _
  exact wmore_contract H enc W base args ds gs before hval hW
theorem wmore_j_wf : (Rows.wearMoreRow.wf (OpenSpec.ofChange Rows.wearMoreSpec)) = true := by kernel_rfl
theorem wmore_j_maps0 : (mapsRowed Tryz.prog) = true := by kernel_rfl
theorem wmore_j_params : (Tryz.f17.params.all (Tryz.prog.readableRec ·)) = true := by kernel_rfl
theorem wmore_j_tie : (namedTie Tryz.prog Rows.wearMoreRow.named Rows.wearMoreSpec.vars) = true := by kernel_rfl
theorem wmore_j_s1 : (Rows.wearMoreRow.stops == []) = true := by kernel_rfl
theorem wmore_j_s2 : (Tryz.prog.stops == []) = true := by kernel_rfl
theorem wmore_j_s3 : (Rows.wearMoreRow.knobs == []) = true := by kernel_rfl
theorem wmore_j_s4 : (Tryz.prog.stopKnobs == []) = true := by kernel_rfl
theorem wmore_j_inplace : (Rows.wearMoreRow.inPlace == Tryz.prog.inPlace 17) = true := by kernel_rfl
theorem wmore_j_unf : (Rows.wearMoreRow.unfollowed == Tryz.prog.unfollowed 17) = true := by kernel_rfl
theorem wmore_j_rec : (Rows.wearMoreRow.recurses == Tryz.prog.recurses 17) = true := by kernel_rfl
theorem wmore_j_named : (Rows.wearMoreRow.named == Tryz.prog.varsNamed 17) = true := by kernel_rfl
theorem wmore_j_maps : (Rows.wearMoreRow.maps == (Tryz.f17.params.toList ++ Rows.wearMoreSpec.plain.varTypes Tryz.prog).any (Tryz.prog.mapsRec ·)) = true := by kernel_rfl
theorem wmore_j_ifaces : (Rows.wearMoreRow.ifaces == (Tryz.f17.params.toList ++ Rows.wearMoreSpec.plain.varTypes Tryz.prog).any (Tryz.prog.ifacesRec ·)) = true := by kernel_rfl
theorem wmore_j_mapsout : (Rows.wearMoreRow.mapsOut == Tryz.prog.mapsAmong Tryz.f17.resultTypes.toList) = true := by kernel_rfl
theorem wmore_j_loops : (Rows.wearMoreRow.loops == (Tryz.f17.params.toList ++ Rows.wearMoreSpec.plain.varTypes Tryz.prog).any (Tryz.prog.loopsFrom ·)) = true := by kernel_rfl
theorem wmore_j_wide : (Rows.wearMoreRow.wideKeys == (Tryz.f17.params.toList ++ Rows.wearMoreSpec.plain.varTypes Tryz.prog ++ Tryz.f17.resultTypes.toList).any (Tryz.prog.wideKeysFrom ·)) = true := by kernel_rfl
theorem wmore_j_vars : (Rows.wearMoreSpec.vars.all (Tryz.prog.varReadable ·)) = true := by kernel_rfl
theorem wmore_j_res : (Tryz.f17.resultTypes.all (fun t => Tryz.prog.readableRec t && decide (t < Tryz.prog.types.size))) = true := by kernel_rfl
theorem wmore_j_ifout : (Rows.wearMoreRow.ifacesOut == Tryz.f17.resultTypes.toList.any (Tryz.prog.ifacesRec ·)) = true := by kernel_rfl
theorem wmore_j_loopsout : (Rows.wearMoreRow.loopsOut == Tryz.f17.resultTypes.toList.any (Tryz.prog.loopsFrom ·)) = true := by kernel_rfl
theorem wmore_j_keys : (Rows.wearMoreRow.plainKeys == Tryz.prog.plainKeys) = true := by kernel_rfl
theorem wmore_j_short : (Rows.wearMoreRow.shortTexts.isNone) = true := by kernel_rfl
theorem wmore_j_heard : (Tryz.prog.stopsHeard) = true := by kernel_rfl
theorem wmore_j_enter : (Tryz.prog.mayEnter) = true := by kernel_rfl
theorem wmore_j_lifted : (Rows.wearMoreRow.lifted == Tryz.prog.liftsFinal) = true := by kernel_rfl
theorem wmore_j_make : (Tryz.prog.make == some Rows.wearMoreRow.make) = true := by kernel_rfl
theorem wmore_j_pinned : (Rows.wearMoreRow.pinned == Rows.wearMoreRow.pinnedBy) = true := by kernel_rfl
theorem wmore_j_veiled : (Rows.wearMoreRow.veiled == (Tryz.f17.params.toList ++ Rows.wearMoreSpec.plain.varTypes Tryz.prog ++ Tryz.f17.resultTypes.toList).any (Tryz.prog.veiledRec ·)) = true := by kernel_rfl
theorem wmore_j_veilfit : (Rows.wearMoreRow.veiledFits Tryz.prog Tryz.f17.params.toList (Tryz.f17.params.toList ++ Rows.wearMoreSpec.plain.varTypes Tryz.prog ++ Tryz.f17.resultTypes.toList)) = true := by kernel_rfl
theorem wmore_facts : joinedFacts Tryz.prog 17 Tryz.f17 Rows.wearMoreSpec Rows.wearMoreRow = true := by
  unfold joinedFacts
  exact and_true_of (and_true_of (and_true_of (and_true_of (and_true_of (and_true_of (and_true_of (and_true_of (and_true_of (and_true_of (and_true_of (and_true_of (and_true_of (and_true_of (and_true_of (and_true_of (and_true_of (and_true_of (and_true_of (and_true_of (and_true_of (and_true_of (and_true_of (and_true_of (and_true_of (and_true_of (and_true_of (and_true_of (and_true_of (and_true_of (and_true_of (wmore_j_wf) laidOut) wmore_j_maps0) wmore_j_params) wmore_j_tie) wmore_j_s1) wmore_j_s2) wmore_j_s3) wmore_j_s4) wmore_j_inplace) wmore_j_unf) wmore_j_rec) wmore_j_named) wmore_j_maps) wmore_j_ifaces) wmore_j_mapsout) wmore_j_loops) wmore_j_wide) wmore_j_vars) wmore_j_res) wmore_j_ifout) wmore_j_loopsout) wmore_j_keys) wmore_j_short) wmore_j_heard) wmore_j_enter) wmore_j_lifted) wmore_j_make) (by kernel_rfl)) wmore_j_pinned) wmore_j_veiled) wmore_j_veilfit
theorem wmore_wrap : (Tryz.f17).isWrapper Tryz.prog Rows.wearMoreRow.wrapper Rows.wearMoreRow.mainSum := by
  unfold Func.isWrapper; first | (rw [if_pos (by decide +kernel)]; kernel_rfl) | (rw [if_neg (by decide +kernel)]; exact ⟨rfl, rfl⟩)
theorem wmore_inst : (Tryz.f17).isInstance Tryz.prog Rows.wearMoreRow.origin Rows.wearMoreRow.targs := of_decide_eq_true (by kernel_rfl)
theorem wmore_name : Tryz.prog.funcNamed Rows.wearMoreRow.func = some 17 := by kernel_rfl
theorem wmore_said : Rows.WearMoreSaid :=
  OpenClaim.holds_of_wide 17 Tryz.f17 rfl rfl rfl rfl rfl rfl rfl ⟨rfl, rfl, rfl, rfl, rfl⟩ rfl rfl rfl rfl rfl wmore_name Tryz.func17 wmore_facts wmore_inst wmore_wrap
    (fun os started H enc _ => wmore_lifted os started H enc)
end Go.Proofs.YtnfndiafabhhdaaGreat
