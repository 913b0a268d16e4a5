/- CheckCase matches the specification, which accepts what Case returns (WearCases): the walk. -/
import Derived.Test.YtnfndiafabhhdaaGreatVLo
import Derived.Test.YtnfndiafabhhdaaGreatH5
import Derived.Test.YtnfndiafabhhdaaGreatG7
import Derived.Test.YtnfndiafabhhdaaGreatE8
namespace Go.Proofs.YtnfndiafabhhdaaGreat
open Go.ChangeShapes Go.WideShapes Go.ChangeAt Go.RowKit
theorem gcd_low {n d : Int} (hn : 0 ≤ n) (hd : 0 < d) : gcdW (lowN1 n d) (lowN2 n d) = 1 := by
  obtain ⟨e1, e2⟩ := lowN_mul hn hd
  obtain ⟨⟨a0, _⟩, b0, _⟩ := lowN_bd hn hd
  have g0 := gcdW_pos (n := n) hd
  obtain ⟨g, hg⟩ : ∃ g, gcdW n d = g := ⟨_, rfl⟩
  obtain ⟨a, ha⟩ : ∃ g, lowN1 n d = g := ⟨_, rfl⟩
  obtain ⟨b, hb⟩ : ∃ g, lowN2 n d = g := ⟨_, rfl⟩
  rw [hg] at g0 e1 e2
  rw [ha] at e1 a0 ⊢
  rw [hb] at e2 b0 ⊢
  have hg2 := hg
  rw [← e1, ← e2] at hg2
  unfold gcdW at hg2 ⊢
  rw [Int.toNat_mul a0 (by omega), Int.toNat_mul (by omega) (by omega), Nat.gcd_mul_right] at hg2
  have h3 : Nat.gcd a.toNat b.toNat * g.toNat = 1 * g.toNat := by omega
  have h4 := Nat.eq_of_mul_eq_mul_right (by omega) h3
  rw [h4]
  rfl
set_option maxHeartbeats 400000 in
theorem llowest_any (n d : Int) (w : World) (hn : 0 ≤ n) (hn' : n ≤ 4611686018427387904) (hd : 0 < d) (hd' : d ≤ 4611686018427387904) (hg1 : gcdW n d = 1) : Calls Tryz.prog 63 #[.agg #[.int .i64 n, .int .i64 d]] w fun e w' => e = .returned (.bool true) ∧ Below w.heap.size w w' := by
  go_enter Tryz.func63, Tryz.ntmps63
  go_wp2
  go_quiet (fail)
  go_wp2
  obtain ⟨W, hW⟩ : ∃ W, w.alloc (Obj.cells #[Value.int IntKind.i64 n, Value.int IntKind.i64 d] 41) = W := ⟨_, rfl⟩
  have HW := Lib.hid (show Below w.heap.size w W by rw [← hW]; exact ballo _ _)
  try rw [hW]
  clear hW
  go_loopw [3, 4] (fun a b wr => ∃ (x y : Int) (k : Nat), 0 ≤ x ∧ 0 ≤ y ∧ x ≤ 4611686018427387904 ∧ y ≤ 4611686018427387904 ∧ 0 < x + y ∧ a = .int .i64 x ∧ b = .int .i64 y ∧ gcdW x y = gcdW n d ∧ wr = W.drewN k) (fun _ b _ => (intOf b).toNat)
  case atStart => exact ⟨n, d, _, by omega, by omega, by omega, by omega, by omega, rfl, rfl, rfl, rfl⟩
  case round =>
    obtain ⟨x, y, k, hx, hy, hx', hy', hxy, rfl, rfl, hg, rfl⟩ := hrel
    have HG := Lib.hid hg; clear hg
    by_cases h : y = 0
    · subst h
      have e : x = 1 := by rw [← hg1, ← HG.out, gcdW_zero x hx]
      subst e
      go_wp2
      go_ret
      exact ⟨rfl, below_drewN HW.out _⟩
    · have hb : (y == 0) = false := by simpa using h
      go_wp2
      go_quiet (fail)
      go_wp2
      have h1 := Int.emod_nonneg x h
      have h2 := Int.emod_lt_of_pos x (b := y) (by omega)
      exact ⟨⟨y, x % y, k + nq, by omega, by omega, by omega, by omega, by omega, rfl, rfl, (gcdW_step x y hx (by omega)).trans HG.out, by rw [World.drewN_drewN]⟩, by simp [intOf]; omega⟩
set_option maxRecDepth 100000 in
set_option maxHeartbeats 4000000 in
theorem law_cases (F : Fl) (vv vs : Value) (N D n : Int) (w : World) (hF : FlIn w F vv vs) (_ : (-9223372036854775808 ≤ N ∧ N ≤ 9223372036854775807) ∧ (-9223372036854775808 ≤ D ∧ D ≤ 9223372036854775807)) (_ : -9223372036854775808 ≤ n) (_ : n ≤ 9223372036854775807) : Calls Tryz.prog 15 #[flV F vv vs, .agg #[.int .i64 N, .int .i64 D], .int .i64 n] w fun e w' => e = .returned (.bool true) ∧ Below w.heap.size w w' := by
  obtain ⟨os, cs, rfl, ms⟩ := hF.s.parts
  obtain ⟨ov, cv, rfl, mv⟩ := hF.v.parts
  obtain ⟨sl, hsl⟩ : ∃ k, F.s.length = k := ⟨_, rfl⟩
  obtain ⟨vl, hvl⟩ : ∃ k, F.v.length = k := ⟨_, rfl⟩
  rw [hsl] at hF ms ⊢
  rw [hvl] at hF mv ⊢
  have HSL := Lib.hid hsl
  have HVL := Lib.hid hvl
  clear hsl hvl
  have HF := Lib.hid (hF.alloc (flO F (.slice ov vl cv) (.slice os sl cs)))
  have BP := Lib.hid (Bk.new w 30 (flL F (.slice ov vl cv) (.slice os sl cs)))
  clear hF
  have BR := Lib.hid (Bk.new1 w (flO F (.slice ov vl cv) (.slice os sl cs)) 41 [.int .i64 N, .int .i64 D])
  go_enter Tryz.func15, Tryz.ntmps15
  go_wp2_with fail
  refine (sane_any _).mono ?_
  rintro e w1 ⟨rfl, hb⟩
  have HF1 := Lib.hid ((HF.out.alloc (Obj.cells #[.int .i64 N, .int .i64 D] 41)).below hb)
  have BP1 := Lib.hid ((BP.out.alloc (Obj.cells #[.int .i64 N, .int .i64 D] 41)).below hb)
  have BR1 := Lib.hid (BR.out.below hb)
  have HB1 := Lib.hid (bafter (bafter hb))
  clear hb HF BP BR
  go_wp2_with (first | (refine ld_at rfl (T := 30) rfl rfl BP1.out Tryz.underlying30 rfl (by kernel_rfl) ?_) | fail)
  obtain ⟨f, hf⟩ : ∃ f, fewB F = f := ⟨_, rfl⟩
  have HFEW := Lib.hid hf
  clear hf
  refine (few_any F _ _ _ HF1.out).mono ?_
  rw [HFEW.out]
  rintro e w2 ⟨rfl, hb⟩
  have BR2 := Lib.hid (BR1.out.below hb)
  have HF2 := Lib.hid (HF1.out.below hb)
  have BP2 := Lib.hid (BP1.out.below hb)
  have HB2 := Lib.hid (bthen HB1.out hb)
  clear hb HF1 BP1 HB1 BR1
  cases f
  · go_wp2_with fail
    go_ret
    exact ⟨rfl, HB2.out⟩
  · obtain ⟨b, hb0⟩ : ∃ b, (okFl F && canI F (allL F)) = b := ⟨_, rfl⟩
    obtain ⟨c, hc0⟩ : ∃ b, chkF F = b := ⟨_, rfl⟩
    have HBB := Lib.hid hb0
    have HCC := Lib.hid hc0
    clear hb0 hc0
    have c0 := BP2.out.cell 0
    have c1 := BP2.out.cell 1
    have c2 := BP2.out.cell 2
    have c3 := BP2.out.cell 3
    have c4 := BP2.out.cell 4
    have c5 := BP2.out.cell 5
    have cl := BP2.out.lt
    have r0 := BR2.out.cell 0
    have r1 := BR2.out.cell 1
    have rl := BR2.out.lt
    simp only [List.getElem?_cons_zero, List.getElem?_cons_succ] at c0 c1 c2 c3 c4 c5 r0 r1
    have mc := @more_cell w2
    obtain ⟨cc, hcc⟩ : ∃ c, ccV F N D n = c := ⟨_, rfl⟩
    have k1 : ∀ i : More w2, _ := fun i => more_call (CheckCase_any F _ _ N D n i.x (HF2.out.below i.h))
    have k2 : ∀ i : More w2, _ := fun i => more_call (rCheckCase_any F _ _ N D n i.x (HF2.out.below i.h))
    rw [hcc] at k1 k2
    have K1 := Lib.hid k1
    have K2 := Lib.hid k2
    clear k1 k2 hcc
    go_wp2_with fail
    refine wp_region_more (by kernel_rfl) (by kernel_rfl) ?_
    iterate 8 (try (first | go_big_quiet_step ((with_reducible first | exact K1.out _ | exact K2.out _)) | quiet_step ((with_reducible first | exact K1.out _ | exact K2.out _))))
    iterate 8 (try (first | go_big_quiet_step ((with_reducible first | exact K1.out _ | exact K2.out _)) | quiet_step ((with_reducible first | exact K1.out _ | exact K2.out _))))
    iterate 8 (try (first | go_big_quiet_step ((with_reducible first | exact K1.out _ | exact K2.out _)) | quiet_step ((with_reducible first | exact K1.out _ | exact K2.out _))))
    iterate 8 (try (first | go_big_quiet_step ((with_reducible first | exact K1.out _ | exact K2.out _)) | quiet_step ((with_reducible first | exact K1.out _ | exact K2.out _))))
    iterate 8 (try (first | go_big_quiet_step ((with_reducible first | exact K1.out _ | exact K2.out _)) | quiet_step ((with_reducible first | exact K1.out _ | exact K2.out _))))
    refine wpQuiet_nil ?_
    rintro ⟨wm, hbm⟩
    try dsimp only
    have HF3 := Lib.hid (HF2.out.below hbm)
    have BP3 := Lib.hid (BP2.out.below hbm)
    have HB3 := Lib.hid (bthen HB2.out hbm)
    clear hbm HF2 BP2 HB2 BR2 K1 K2 mc c0 c1 c2 c3 c4 c5 cl r0 r1 rl
    go_wp2_with (first | (refine ld_at rfl (T := 30) rfl rfl BP3.out Tryz.underlying30 rfl (by kernel_rfl) ?_) | fail)
    refine (Case_any F _ _ _ HF3.out).mono ?_
    rintro e w4 ⟨(⟨h1, rfl⟩ | ⟨h1, i, i0, i1, hcase, rfl⟩), hb⟩
    · have hbf : b = false := by
        rw [← HBB.out]
        unfold rdE at h1
        cases ho : okFl F <;> cases hc : canI F (allL F) <;> simp_all
      subst hbf
      rw [HCC.out]
      clear h1
      have hb' := hb.alloc hb.size (Obj.cells #[.int .i64 0, .int .i64 0] 41)
      have HF4 := Lib.hid (HF3.out.below hb')
      have BP4 := Lib.hid (BP3.out.below hb')
      have HB4 := Lib.hid (bthen HB3.out hb')
      have BO4 := Lib.hid (Bk.new w4 41 [.int .i64 0, .int .i64 0])
      clear hb hb' HF3 BP3 HB3
      go_wp2_with (first | (refine ld_at rfl (T := 30) rfl rfl BP4.out Tryz.underlying30 rfl (by kernel_rfl) ?_) | fail)
      refine (rPossible_any F _ _ _ HF4.out).mono ?_
      rw [HBB.out, HCC.out]
      rintro e w5 ⟨rfl, hb⟩
      have hO5 := BO4.out.below hb
      have o0 := hO5.cell 0
      have o1 := hO5.cell 1
      have ol := hO5.lt
      simp only [List.getElem?_cons_zero, List.getElem?_cons_succ] at o0 o1
      have HB5 := Lib.hid (bthen HB4.out hb)
      clear hb hO5
      go_wp2_with fail
      go_ret
      exact ⟨rfl, HB5.out⟩
    · obtain ⟨ho, _, hcan⟩ := rdE_0' h1
      have hO := (okFl_iff F).1 ho
      have hbt : b = true := by rw [← HBB.out, ho, hcan]; rfl
      have hct : c = 0 := by rw [← HCC.out]; unfold chkF; rw [if_pos ho]
      subst hbt hct
      have B := knR_B hO
      have g1 := gcd_low (n := 1000 * (knR F).hi.d) (d := (knR F).hi.n) (by have := B.d0; omega) B.c0
      have hcr : ccR F (lowN1 (1000 * (knR F).hi.d) (knR F).hi.n) (lowN2 (1000 * (knR F).hi.d) (knR F).hi.n) i = true := by
        unfold ccV at hcase
        rw [if_pos ho] at hcase
        cases h : ccR F (lowN1 (1000 * (knR F).hi.d) (knR F).hi.n) (lowN2 (1000 * (knR F).hi.d) (knR F).hi.n) i with
        | true => rfl
        | false => rw [h] at hcase; simp at hcase
      unfold weV
      obtain ⟨A, hA⟩ : ∃ x, lowN1 (1000 * (knR F).hi.d) (knR F).hi.n = x := ⟨_, rfl⟩
      obtain ⟨E, hE⟩ : ∃ x, lowN2 (1000 * (knR F).hi.d) (knR F).hi.n = x := ⟨_, rfl⟩
      rw [hA, hE] at g1 hcase hcr ⊢
      have hab : (1 ≤ A ∧ A ≤ 1125899906842624) ∧ (1 ≤ E ∧ E ≤ 1125899906842624) := by
        unfold ccR at hcr
        simp only [inB, Bool.and_eq_true, decide_eq_true_eq] at hcr
        omega
      have HCS := Lib.hid hcase
      have HLO := Lib.hid (fun w => llowest_any A E w (by omega) (by omega) (by omega) (by omega) g1)
      clear g1 hcase hcr hA hE B hO h1 hcan ho hab
      have hb' := hb.alloc hb.size (Obj.cells #[.int .i64 A, .int .i64 E] 41)
      have HF4 := Lib.hid (HF3.out.below hb')
      have BP4 := Lib.hid (BP3.out.below hb')
      have HB4 := Lib.hid (bthen HB3.out hb')
      have BO4 := Lib.hid (Bk.new w4 41 [.int .i64 A, .int .i64 E])
      clear hb hb' HF3 BP3 HB3
      go_wp2_with (first | (refine ld_at rfl (T := 30) rfl rfl BP4.out Tryz.underlying30 rfl (by kernel_rfl) ?_) | fail)
      refine (rPossible_any F _ _ _ HF4.out).mono ?_
      rw [HBB.out, HCC.out]
      rintro e w5 ⟨rfl, hb⟩
      have HF5 := Lib.hid (HF4.out.below hb)
      have BP5 := Lib.hid (BP4.out.below hb)
      have BO5 := Lib.hid (BO4.out.below hb)
      have HB5 := Lib.hid (bthen HB4.out hb)
      clear hb HF4 BP4 BO4 HB4
      go_wp2_with (first | (refine ld_at rfl (T := 30) rfl rfl BP5.out Tryz.underlying30 rfl (by kernel_rfl) ?_) | (refine ld_at rfl (T := 41) rfl rfl BO5.out Tryz.underlying41 rfl (by kernel_rfl) ?_) | fail)
      refine (rCheckCase_any F _ _ A E i _ HF5.out).mono ?_
      rw [HCS.out]
      rintro e w6 ⟨rfl, hb⟩
      have BO6 := Lib.hid (BO5.out.below hb)
      have HB6 := Lib.hid (bthen HB5.out hb)
      clear hb
      have o0 := BO6.out.cell 0
      have o1 := BO6.out.cell 1
      have ol := BO6.out.lt
      simp only [List.getElem?_cons_zero, List.getElem?_cons_succ] at o0 o1
      go_wp2_with fail
      refine (HLO.out _).mono ?_
      rintro e w7 ⟨rfl, hb⟩
      have HB7 := Lib.hid (bthen HB6.out hb)
      clear hb
      go_wp2_with fail
      go_ret
      exact ⟨rfl, HB7.out⟩
end Go.Proofs.YtnfndiafabhhdaaGreat
