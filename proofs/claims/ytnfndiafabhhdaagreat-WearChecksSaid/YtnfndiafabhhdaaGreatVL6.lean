/- Check and Possible match the specification (WearChecks): the walk. -/
import Derived.Test.YtnfndiafabhhdaaGreatF3
import Derived.Test.YtnfndiafabhhdaaGreatG7
namespace Go.Proofs.YtnfndiafabhhdaaGreat
open Go.ChangeShapes Go.WideShapes Go.ChangeAt Go.RowKit
set_option maxRecDepth 100000 in
set_option maxHeartbeats 4000000 in
theorem law_checks (F : Fl) (vv vs : Value) (w : World) (hF : FlIn w F vv vs) : Calls Tryz.prog 6 #[flV F vv vs] w fun e w' => e = .returned (.bool true) ∧ Below w.heap.size w w' := by
  obtain ⟨os, cs, rfl, ms⟩ := hF.s.parts
  obtain ⟨ov, cv, rfl, mv⟩ := hF.v.parts
  obtain ⟨sl, hsl⟩ : ∃ k, F.s.length = k := ⟨_, rfl⟩
  obtain ⟨vl, hvl⟩ : ∃ k, F.v.length = k := ⟨_, rfl⟩
  rw [hsl] at hF ms ⊢
  rw [hvl] at hF mv ⊢
  have HSL := Lib.hid hsl
  have HVL := Lib.hid hvl
  clear hsl hvl
  have HF := Lib.hid (hF.alloc (flO F (.slice ov vl cv) (.slice os sl cs)))
  have BP := Lib.hid (Bk.new w 30 (flL F (.slice ov vl cv) (.slice os sl cs)))
  clear hF
  go_enter Tryz.func6, Tryz.ntmps6
  go_wp2_with fail
  refine (sane_any _).mono ?_
  rintro e w1 ⟨rfl, hb⟩
  have HF1 := Lib.hid (HF.out.below hb)
  have BP1 := Lib.hid (BP.out.below hb)
  have HB1 := Lib.hid (bafter hb)
  clear hb HF BP
  go_wp2_with (first | (refine ld_at rfl (T := 30) rfl rfl BP1.out Tryz.underlying30 rfl (by kernel_rfl) ?_) | fail)
  obtain ⟨f, hf⟩ : ∃ f, fewB F = f := ⟨_, rfl⟩
  have HFEW := Lib.hid hf
  clear hf
  refine (few_any F _ _ _ HF1.out).mono ?_
  rw [HFEW.out]
  rintro e w2 ⟨rfl, hb⟩
  have HF2 := Lib.hid (HF1.out.below hb)
  have BP2 := Lib.hid (BP1.out.below hb)
  have HB2 := Lib.hid (bthen HB1.out hb)
  clear HF1 BP1 HB1
  clear hb
  cases f
  · go_wp2_with fail
    go_ret
    exact ⟨rfl, HB2.out⟩
  · obtain ⟨b, hb0⟩ : ∃ b, (okFl F && canI F (allL F)) = b := ⟨_, rfl⟩
    obtain ⟨c, hc0⟩ : ∃ b, chkF F = b := ⟨_, rfl⟩
    have HBB := Lib.hid hb0
    have HCC := Lib.hid hc0
    clear hb0 hc0
    go_wp2_with (first | (refine ld_at rfl (T := 30) rfl rfl BP2.out Tryz.underlying30 rfl (by kernel_rfl) ?_) | fail)
    refine (Possible_any F _ _ _ HF2.out).mono ?_
    rw [HBB.out, HCC.out]
    rintro e w3 ⟨rfl, hb⟩
    have HF3 := Lib.hid (HF2.out.below hb)
    have BP3 := Lib.hid (BP2.out.below hb)
    have HB3 := Lib.hid (bthen HB2.out hb)
    clear HF2 BP2 HB2
    clear hb
    go_wp2_with (first | (refine ld_at rfl (T := 30) rfl rfl BP3.out Tryz.underlying30 rfl (by kernel_rfl) ?_) | fail)
    refine (rPossible_any F _ _ _ HF3.out).mono ?_
    rw [HBB.out, HCC.out]
    rintro e w4 ⟨rfl, hb⟩
    have HF4 := Lib.hid (HF3.out.below hb)
    have BP4 := Lib.hid (BP3.out.below hb)
    have HB4 := Lib.hid (bthen HB3.out hb)
    clear HF3 BP3 HB3
    clear hb
    have c0 := BP4.out.cell 0
    have c1 := BP4.out.cell 1
    have c2 := BP4.out.cell 2
    have c3 := BP4.out.cell 3
    have c4 := BP4.out.cell 4
    have c5 := BP4.out.cell 5
    have cl := BP4.out.lt
    simp only [List.getElem?_cons_zero, List.getElem?_cons_succ] at c0 c1 c2 c3 c4 c5
    have mc := @more_cell w4
    have k1 : ∀ i : More w4, _ := fun i => more_call (Check_any F _ _ i.x (HF4.out.below i.h))
    have k2 : ∀ i : More w4, _ := fun i => more_call (rCheck_any F _ _ i.x (HF4.out.below i.h))
    rw [HCC.out] at k1 k2
    have K1 := Lib.hid k1
    have K2 := Lib.hid k2
    clear k1 k2
    go_wp2_with fail
    refine wp_region_more (by kernel_rfl) (by kernel_rfl) ?_
    iterate 8 (try (first | go_big_quiet_step ((with_reducible first | exact K1.out _ | exact K2.out _)) | quiet_step ((with_reducible first | exact K1.out _ | exact K2.out _))))
    iterate 8 (try (first | go_big_quiet_step ((with_reducible first | exact K1.out _ | exact K2.out _)) | quiet_step ((with_reducible first | exact K1.out _ | exact K2.out _))))
    iterate 8 (try (first | go_big_quiet_step ((with_reducible first | exact K1.out _ | exact K2.out _)) | quiet_step ((with_reducible first | exact K1.out _ | exact K2.out _))))
    iterate 8 (try (first | go_big_quiet_step ((with_reducible first | exact K1.out _ | exact K2.out _)) | quiet_step ((with_reducible first | exact K1.out _ | exact K2.out _))))
    iterate 8 (try (first | go_big_quiet_step ((with_reducible first | exact K1.out _ | exact K2.out _)) | quiet_step ((with_reducible first | exact K1.out _ | exact K2.out _))))
    refine wpQuiet_nil ?_
    rintro ⟨wm, hbm⟩
    try dsimp only
    have HBM := Lib.hid (bthen HB4.out hbm)
    clear hbm
    go_wp2_with fail
    go_ret
    exact ⟨by simp, HBM.out⟩
end Go.Proofs.YtnfndiafabhhdaaGreat
