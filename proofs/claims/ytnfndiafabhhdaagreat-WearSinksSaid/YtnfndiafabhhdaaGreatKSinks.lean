/- Sinks, Surely and Ever answer as the reference does (WearSinks): proved for every input, without conditions. -/
import Derived.Test.YtnfndiafabhhdaaGreatVL4
namespace Go.Proofs.YtnfndiafabhhdaaGreat
open Go.ChangeShapes Go.WideShapes Go.ChangeAt Go.RowKit
set_option maxRecDepth 200000 in
theorem sinks_contract (H : Type) (enc : TypeId × Value → H) (W : World) (base : Nat) (args : Array Value) (ds gs : List (DataW H)) (before : List MemPlace)
    (hval : ∀ (j : Nat) t v, Tryz.f4.params[j]? = some t → args[j]? = some v → Value.okWide Tryz.prog W .any base t v)
    (hW : DataW.Whole enc Tryz.prog Tryz.f4.params.toList Rows.wearSinksSpec.vars false W args.toList ds gs before) :
    Calls Tryz.prog 4 args W fun e W' => ∃ v, e = .returned v ∧ Rows.wearSinksSpec.post enc Tryz.prog Tryz.f4 false true false false W args v W' := by
  have hW' := hW
  obtain ⟨p, q, hA0, hV, rfl, hfz, hnd⟩ := hW
  have hA : DataW.TrodAll enc Tryz.prog W 0 (fun _ => true) true Tryz.f4.params.toList args.toList ds p := hA0
  rw [Tryz.params4] at hA hval
  obtain ⟨v0, s0, d0, e0, p0, q0, hargs, rfl, rfl, h0, r0⟩ := trodAll_cons hA
  obtain ⟨v1, s1, d1, e1, p1, q1, rfl, rfl, rfl, h1, r1⟩ := trodAll_cons r0
  obtain ⟨v2, s2, d2, e2, p2, q2, rfl, rfl, rfl, h2, r2⟩ := trodAll_cons r1
  obtain ⟨v3, s3, d3, e3, p3, q3, rfl, rfl, rfl, h3, r3⟩ := trodAll_cons r2
  obtain ⟨rfl, rfl, rfl⟩ := trodAll_nil r3
  obtain rfl : args = #[v0, v1, v2, v3] := by cases args; simp_all
  obtain ⟨rfl, rfl⟩ := trodVars_none hV
  obtain ⟨F0, vv0, vs0, rfl, hF0⟩ := fl_open (hval 0 30 v0 rfl rfl) h0
  obtain ⟨n1, rfl, lo1, hi1⟩ := int_open (hval 1 3 v1 rfl rfl) h1
  obtain ⟨n2, rfl, lo2, hi2⟩ := int_open (hval 2 3 v2 rfl rfl) h2
  obtain ⟨n3, rfl, lo3, hi3⟩ := int_open (hval 3 3 v3 rfl rfl) h3
  refine (law_sinks F0 vv0 vs0 n1 n2 n3 W hF0 lo1 hi1 lo2 hi2 lo3 hi3).mono fun e W' ⟨he, hb⟩ => ?_
  subst he
  refine ⟨_, rfl, law_post laidOut (fun t ht => ?_) rfl rfl Tryz.underlying4 rfl hW' hb⟩
  rw [Tryz.params4] at ht
  simp at ht
  rcases ht with rfl | rfl | rfl | rfl
  all_goals exact ⟨by kernel_rfl, of_decide_eq_true (by kernel_rfl)⟩
set_option maxRecDepth 100000 in
theorem sinks_lifted (os : Os) (started : os.Started) (H : Type) (enc : TypeId × Value → H) :
    ReturnsInHanded {} Tryz.checked os 4 .any (Rows.wearSinksSpec.pre6 enc Tryz.prog Tryz.f4 Rows.wearSinksRow.domain false) (Rows.wearSinksSpec.post enc Tryz.prog Tryz.f4 false true false false) := by
  refine returnsInHanded_of_change (C := Tryz.checked) own started (by kernel_rfl) Tryz.func4
    (ChangeSpec.witness6 (enc := enc) (C := Tryz.checked) false ⟨#[], #[.agg #[.slice none 0 0, .int .i64 0, .int .i64 0, .int .i64 0, .int .i64 0, .slice none 0 0], .int .i64 0, .int .i64 0, .int .i64 0], []⟩ 8 (by kernel_rfl) (by kernel_rfl) (by kernel_rfl) (by kernel_rfl)) ?_
  intro W base args ds gs before hval hW _ _
  exact sinks_contract H enc W base args ds gs before hval hW
theorem sinks_j_wf : (Rows.wearSinksRow.wf (OpenSpec.ofChange Rows.wearSinksSpec)) = true := by kernel_rfl
theorem sinks_j_maps0 : (mapsRowed Tryz.prog) = true := by kernel_rfl
theorem sinks_j_params : (Tryz.f4.params.all (Tryz.prog.readableRec ·)) = true := by kernel_rfl
theorem sinks_j_tie : (namedTie Tryz.prog Rows.wearSinksRow.named Rows.wearSinksSpec.vars) = true := by kernel_rfl
theorem sinks_j_s1 : (Rows.wearSinksRow.stops == []) = true := by kernel_rfl
theorem sinks_j_s2 : (Tryz.prog.stops == []) = true := by kernel_rfl
theorem sinks_j_s3 : (Rows.wearSinksRow.knobs == []) = true := by kernel_rfl
theorem sinks_j_s4 : (Tryz.prog.stopKnobs == []) = true := by kernel_rfl
theorem sinks_j_inplace : (Rows.wearSinksRow.inPlace == Tryz.prog.inPlace 4) = true := by kernel_rfl
theorem sinks_j_unf : (Rows.wearSinksRow.unfollowed == Tryz.prog.unfollowed 4) = true := by kernel_rfl
theorem sinks_j_rec : (Rows.wearSinksRow.recurses == Tryz.prog.recurses 4) = true := by kernel_rfl
theorem sinks_j_named : (Rows.wearSinksRow.named == Tryz.prog.varsNamed 4) = true := by kernel_rfl
theorem sinks_j_maps : (Rows.wearSinksRow.maps == (Tryz.f4.params.toList ++ Rows.wearSinksSpec.plain.varTypes Tryz.prog).any (Tryz.prog.mapsRec ·)) = true := by kernel_rfl
theorem sinks_j_ifaces : (Rows.wearSinksRow.ifaces == (Tryz.f4.params.toList ++ Rows.wearSinksSpec.plain.varTypes Tryz.prog).any (Tryz.prog.ifacesRec ·)) = true := by kernel_rfl
theorem sinks_j_mapsout : (Rows.wearSinksRow.mapsOut == Tryz.prog.mapsAmong Tryz.f4.resultTypes.toList) = true := by kernel_rfl
theorem sinks_j_loops : (Rows.wearSinksRow.loops == (Tryz.f4.params.toList ++ Rows.wearSinksSpec.plain.varTypes Tryz.prog).any (Tryz.prog.loopsFrom ·)) = true := by kernel_rfl
theorem sinks_j_wide : (Rows.wearSinksRow.wideKeys == (Tryz.f4.params.toList ++ Rows.wearSinksSpec.plain.varTypes Tryz.prog ++ Tryz.f4.resultTypes.toList).any (Tryz.prog.wideKeysFrom ·)) = true := by kernel_rfl
theorem sinks_j_vars : (Rows.wearSinksSpec.vars.all (Tryz.prog.varReadable ·)) = true := by kernel_rfl
theorem sinks_j_res : (Tryz.f4.resultTypes.all (fun t => Tryz.prog.readableRec t && decide (t < Tryz.prog.types.size))) = true := by kernel_rfl
theorem sinks_j_ifout : (Rows.wearSinksRow.ifacesOut == Tryz.f4.resultTypes.toList.any (Tryz.prog.ifacesRec ·)) = true := by kernel_rfl
theorem sinks_j_loopsout : (Rows.wearSinksRow.loopsOut == Tryz.f4.resultTypes.toList.any (Tryz.prog.loopsFrom ·)) = true := by kernel_rfl
theorem sinks_j_keys : (Rows.wearSinksRow.plainKeys == Tryz.prog.plainKeys) = true := by kernel_rfl
theorem sinks_j_short : (Rows.wearSinksRow.shortTexts.isNone) = true := by kernel_rfl
theorem sinks_j_heard : (Tryz.prog.stopsHeard) = true := by kernel_rfl
theorem sinks_j_enter : (Tryz.prog.mayEnter) = true := by kernel_rfl
theorem sinks_j_lifted : (Rows.wearSinksRow.lifted == Tryz.prog.liftsFinal) = true := by kernel_rfl
theorem sinks_j_make : (Tryz.prog.make == some Rows.wearSinksRow.make) = true := by kernel_rfl
theorem sinks_j_pinned : (Rows.wearSinksRow.pinned == Rows.wearSinksRow.pinnedBy) = true := by kernel_rfl
theorem sinks_j_veiled : (Rows.wearSinksRow.veiled == (Tryz.f4.params.toList ++ Rows.wearSinksSpec.plain.varTypes Tryz.prog ++ Tryz.f4.resultTypes.toList).any (Tryz.prog.veiledRec ·)) = true := by kernel_rfl
theorem sinks_j_veilfit : (Rows.wearSinksRow.veiledFits Tryz.prog Tryz.f4.params.toList (Tryz.f4.params.toList ++ Rows.wearSinksSpec.plain.varTypes Tryz.prog ++ Tryz.f4.resultTypes.toList)) = true := by kernel_rfl
theorem sinks_facts : joinedFacts Tryz.prog 4 Tryz.f4 Rows.wearSinksSpec Rows.wearSinksRow = true := by
  unfold joinedFacts
  exact and_true_of (and_true_of (and_true_of (and_true_of (and_true_of (and_true_of (and_true_of (and_true_of (and_true_of (and_true_of (and_true_of (and_true_of (and_true_of (and_true_of (and_true_of (and_true_of (and_true_of (and_true_of (and_true_of (and_true_of (and_true_of (and_true_of (and_true_of (and_true_of (and_true_of (and_true_of (and_true_of (and_true_of (and_true_of (and_true_of (and_true_of (sinks_j_wf) laidOut) sinks_j_maps0) sinks_j_params) sinks_j_tie) sinks_j_s1) sinks_j_s2) sinks_j_s3) sinks_j_s4) sinks_j_inplace) sinks_j_unf) sinks_j_rec) sinks_j_named) sinks_j_maps) sinks_j_ifaces) sinks_j_mapsout) sinks_j_loops) sinks_j_wide) sinks_j_vars) sinks_j_res) sinks_j_ifout) sinks_j_loopsout) sinks_j_keys) sinks_j_short) sinks_j_heard) sinks_j_enter) sinks_j_lifted) sinks_j_make) (by kernel_rfl)) sinks_j_pinned) sinks_j_veiled) sinks_j_veilfit
theorem sinks_wrap : (Tryz.f4).isWrapper Tryz.prog Rows.wearSinksRow.wrapper Rows.wearSinksRow.mainSum := by
  unfold Func.isWrapper; first | (rw [if_pos (by decide +kernel)]; kernel_rfl) | (rw [if_neg (by decide +kernel)]; exact ⟨rfl, rfl⟩)
theorem sinks_inst : (Tryz.f4).isInstance Tryz.prog Rows.wearSinksRow.origin Rows.wearSinksRow.targs := of_decide_eq_true (by kernel_rfl)
theorem sinks_name : Tryz.prog.funcNamed Rows.wearSinksRow.func = some 4 := by kernel_rfl
theorem sinks_said : Rows.WearSinksSaid :=
  OpenClaim.holds_of_wide 4 Tryz.f4 rfl rfl rfl rfl rfl rfl rfl ⟨rfl, rfl, rfl, rfl, rfl⟩ rfl rfl rfl rfl rfl sinks_name Tryz.func4 sinks_facts sinks_inst sinks_wrap
    (fun os started H enc _ => sinks_lifted os started H enc)
end Go.Proofs.YtnfndiafabhhdaaGreat
