/- Bounds of sinking from level to level add up, but for roundings (WearApart): proved for every input, without conditions. -/
import Derived.Test.YtnfndiafabhhdaaGreatVL9
namespace Go.Proofs.YtnfndiafabhhdaaGreat
open Go.ChangeShapes Go.WideShapes Go.ChangeAt Go.RowKit

set_option maxRecDepth 200000 in
theorem apart_contract (H : Type) (enc : TypeId × Value → H) (W : World) (base : Nat) (args : Array Value) (ds gs : List (DataW H)) (before : List MemPlace)
    (hval : ∀ (j : Nat) t v, Tryz.f9.params[j]? = some t → args[j]? = some v → Value.okWide Tryz.prog W .any base t v)
    (hW : DataW.Whole enc Tryz.prog Tryz.f9.params.toList Rows.wearApartSpec.vars false W args.toList ds gs before) :
    Calls Tryz.prog 9 args W fun e W' => ∃ v, e = .returned v ∧ Rows.wearApartSpec.post enc Tryz.prog Tryz.f9 false true false false W args v W' := by
  have hW' := hW
  obtain ⟨p, q, hA0, hV, rfl, hfz, hnd⟩ := hW
  have hA : DataW.TrodAll enc Tryz.prog W 0 (fun _ => true) true Tryz.f9.params.toList args.toList ds p := hA0
  rw [Tryz.params9] at hA hval
  obtain ⟨v0, s0, d0, e0, p0, q0, hargs, rfl, rfl, h0, r0⟩ := trodAll_cons hA
  obtain ⟨v1, s1, d1, e1, p1, q1, rfl, rfl, rfl, h1, r1⟩ := trodAll_cons r0
  obtain ⟨v2, s2, d2, e2, p2, q2, rfl, rfl, rfl, h2, r2⟩ := trodAll_cons r1
  obtain ⟨v3, s3, d3, e3, p3, q3, rfl, rfl, rfl, h3, r3⟩ := trodAll_cons r2
  obtain ⟨rfl, rfl, rfl⟩ := trodAll_nil r3
  obtain rfl : args = #[v0, v1, v2, v3] := by cases args; simp_all
  obtain ⟨rfl, rfl⟩ := trodVars_none hV
  obtain ⟨F0, vv0, vs0, rfl, hF0⟩ := fl_open (hval 0 30 v0 rfl rfl) h0
  obtain ⟨n1, rfl, lo1, hi1⟩ := int_open (hval 1 3 v1 rfl rfl) h1
  obtain ⟨n2, rfl, lo2, hi2⟩ := int_open (hval 2 3 v2 rfl rfl) h2
  obtain ⟨n3, rfl, lo3, hi3⟩ := int_open (hval 3 3 v3 rfl rfl) h3
  refine (law_apart F0 vv0 vs0 n1 n2 n3 W hF0 lo1 hi1 lo2 hi2 lo3 hi3).mono fun e W' ⟨he, hb⟩ => ?_
  subst he
  refine ⟨_, rfl, law_post laidOut (fun t ht => ?_) rfl rfl Tryz.underlying4 rfl hW' hb⟩
  rw [Tryz.params9] at ht
  simp at ht
  rcases ht with rfl | rfl | rfl | rfl
  all_goals exact ⟨by kernel_rfl, of_decide_eq_true (by kernel_rfl)⟩

set_option maxRecDepth 100000 in
theorem apart_lifted (os : Os) (started : os.Started) (H : Type) (enc : TypeId × Value → H) :
    ReturnsInHanded {} Tryz.checked os 9 .any (Rows.wearApartSpec.pre6 enc Tryz.prog Tryz.f9 Rows.wearApartRow.domain false) (Rows.wearApartSpec.post enc Tryz.prog Tryz.f9 false true false false) := by
  refine returnsInHanded_of_change (C := Tryz.checked) own started (by kernel_rfl) Tryz.func9
    (ChangeSpec.witness6 (enc := enc) (C := Tryz.checked) false ⟨#[], #[.agg #[.slice none 0 0, .int .i64 0, .int .i64 0, .int .i64 0, .int .i64 0, .slice none 0 0], .int .i64 0, .int .i64 0, .int .i64 0], []⟩ 8 (by kernel_rfl) (by kernel_rfl) (by kernel_rfl) (by kernel_rfl)) ?_
  intro W base args ds gs before hval hW _ _
  exact apart_contract H enc W base args ds gs before hval hW

theorem apart_j_wf : (Rows.wearApartRow.wf (OpenSpec.ofChange Rows.wearApartSpec)) = true := by kernel_rfl
theorem apart_j_maps0 : (mapsRowed Tryz.prog) = true := by kernel_rfl
theorem apart_j_params : (Tryz.f9.params.all (Tryz.prog.readableRec ·)) = true := by kernel_rfl
theorem apart_j_tie : (namedTie Tryz.prog Rows.wearApartRow.named Rows.wearApartSpec.vars) = true := by kernel_rfl
theorem apart_j_s1 : (Rows.wearApartRow.stops == []) = true := by kernel_rfl
theorem apart_j_s2 : (Tryz.prog.stops == []) = true := by kernel_rfl
theorem apart_j_s3 : (Rows.wearApartRow.knobs == []) = true := by kernel_rfl
theorem apart_j_s4 : (Tryz.prog.stopKnobs == []) = true := by kernel_rfl
theorem apart_j_inplace : (Rows.wearApartRow.inPlace == Tryz.prog.inPlace 9) = true := by kernel_rfl
theorem apart_j_unf : (Rows.wearApartRow.unfollowed == Tryz.prog.unfollowed 9) = true := by kernel_rfl
theorem apart_j_rec : (Rows.wearApartRow.recurses == Tryz.prog.recurses 9) = true := by kernel_rfl
theorem apart_j_named : (Rows.wearApartRow.named == Tryz.prog.varsNamed 9) = true := by kernel_rfl
theorem apart_j_maps : (Rows.wearApartRow.maps == (Tryz.f9.params.toList ++ Rows.wearApartSpec.plain.varTypes Tryz.prog).any (Tryz.prog.mapsRec ·)) = true := by kernel_rfl
theorem apart_j_ifaces : (Rows.wearApartRow.ifaces == (Tryz.f9.params.toList ++ Rows.wearApartSpec.plain.varTypes Tryz.prog).any (Tryz.prog.ifacesRec ·)) = true := by kernel_rfl
theorem apart_j_mapsout : (Rows.wearApartRow.mapsOut == Tryz.prog.mapsAmong Tryz.f9.resultTypes.toList) = true := by kernel_rfl
theorem apart_j_loops : (Rows.wearApartRow.loops == (Tryz.f9.params.toList ++ Rows.wearApartSpec.plain.varTypes Tryz.prog).any (Tryz.prog.loopsFrom ·)) = true := by kernel_rfl
theorem apart_j_wide : (Rows.wearApartRow.wideKeys == (Tryz.f9.params.toList ++ Rows.wearApartSpec.plain.varTypes Tryz.prog ++ Tryz.f9.resultTypes.toList).any (Tryz.prog.wideKeysFrom ·)) = true := by kernel_rfl
theorem apart_j_vars : (Rows.wearApartSpec.vars.all (Tryz.prog.varReadable ·)) = true := by kernel_rfl
theorem apart_j_res : (Tryz.f9.resultTypes.all (fun t => Tryz.prog.readableRec t && decide (t < Tryz.prog.types.size))) = true := by kernel_rfl
theorem apart_j_ifout : (Rows.wearApartRow.ifacesOut == Tryz.f9.resultTypes.toList.any (Tryz.prog.ifacesRec ·)) = true := by kernel_rfl
theorem apart_j_loopsout : (Rows.wearApartRow.loopsOut == Tryz.f9.resultTypes.toList.any (Tryz.prog.loopsFrom ·)) = true := by kernel_rfl
theorem apart_j_keys : (Rows.wearApartRow.plainKeys == Tryz.prog.plainKeys) = true := by kernel_rfl
theorem apart_j_short : (Rows.wearApartRow.shortTexts.isNone) = true := by kernel_rfl
theorem apart_j_heard : (Tryz.prog.stopsHeard) = true := by kernel_rfl
theorem apart_j_enter : (Tryz.prog.mayEnter) = true := by kernel_rfl
theorem apart_j_lifted : (Rows.wearApartRow.lifted == Tryz.prog.liftsFinal) = true := by kernel_rfl
theorem apart_j_make : (Tryz.prog.make == some Rows.wearApartRow.make) = true := by kernel_rfl
theorem apart_j_pinned : (Rows.wearApartRow.pinned == Rows.wearApartRow.pinnedBy) = true := by kernel_rfl
theorem apart_j_veiled : (Rows.wearApartRow.veiled == (Tryz.f9.params.toList ++ Rows.wearApartSpec.plain.varTypes Tryz.prog ++ Tryz.f9.resultTypes.toList).any (Tryz.prog.veiledRec ·)) = true := by kernel_rfl
theorem apart_j_veilfit : (Rows.wearApartRow.veiledFits Tryz.prog Tryz.f9.params.toList (Tryz.f9.params.toList ++ Rows.wearApartSpec.plain.varTypes Tryz.prog ++ Tryz.f9.resultTypes.toList)) = true := by kernel_rfl
theorem apart_facts : joinedFacts Tryz.prog 9 Tryz.f9 Rows.wearApartSpec Rows.wearApartRow = true := by
  unfold joinedFacts
  exact and_true_of (and_true_of (and_true_of (and_true_of (and_true_of (and_true_of (and_true_of (and_true_of (and_true_of (and_true_of (and_true_of (and_true_of (and_true_of (and_true_of (and_true_of (and_true_of (and_true_of (and_true_of (and_true_of (and_true_of (and_true_of (and_true_of (and_true_of (and_true_of (and_true_of (and_true_of (and_true_of (and_true_of (and_true_of (and_true_of (and_true_of (apart_j_wf) laidOut) apart_j_maps0) apart_j_params) apart_j_tie) apart_j_s1) apart_j_s2) apart_j_s3) apart_j_s4) apart_j_inplace) apart_j_unf) apart_j_rec) apart_j_named) apart_j_maps) apart_j_ifaces) apart_j_mapsout) apart_j_loops) apart_j_wide) apart_j_vars) apart_j_res) apart_j_ifout) apart_j_loopsout) apart_j_keys) apart_j_short) apart_j_heard) apart_j_enter) apart_j_lifted) apart_j_make) (by kernel_rfl)) apart_j_pinned) apart_j_veiled) apart_j_veilfit
theorem apart_wrap : (Tryz.f9).isWrapper Tryz.prog Rows.wearApartRow.wrapper Rows.wearApartRow.mainSum := by
  unfold Func.isWrapper; first | (rw [if_pos (by decide +kernel)]; kernel_rfl) | (rw [if_neg (by decide +kernel)]; exact ⟨rfl, rfl⟩)
theorem apart_inst : (Tryz.f9).isInstance Tryz.prog Rows.wearApartRow.origin Rows.wearApartRow.targs := of_decide_eq_true (by kernel_rfl)
theorem apart_name : Tryz.prog.funcNamed Rows.wearApartRow.func = some 9 := by kernel_rfl
theorem apart_said : Rows.WearApartSaid :=
  OpenClaim.holds_of_wide 9 Tryz.f9 rfl rfl rfl rfl rfl rfl rfl ⟨rfl, rfl, rfl, rfl, rfl⟩ rfl rfl rfl rfl rfl apart_name Tryz.func9 apart_facts apart_inst apart_wrap
    (fun os started H enc _ => apart_lifted os started H enc)
end Go.Proofs.YtnfndiafabhhdaaGreat
