/- The ends of Bounds are those of cases; a case's wear lies within Bounds (WearEnds): the walk. -/
import Derived.Test.YtnfndiafabhhdaaGreatVCm
import Derived.Test.YtnfndiafabhhdaaGreatVLo
namespace Go.Proofs.YtnfndiafabhhdaaGreat
open Go.ChangeShapes Go.WideShapes Go.ChangeAt Go.RowKit

theorem ccV_0 {F : Fl} {N D i : Int} (h : ccV F N D i = 0) : OkF F ∧ canI F (allL F) = true ∧ (1 ≤ N ∧ N ≤ 1125899906842624) ∧ (1 ≤ D ∧ D ≤ 1125899906842624) ∧ (solvedW F (allL F)).has (1000 * D) N := by
  unfold ccV at h
  split at h
  · rename_i h1
    split at h
    · rename_i h2
      split at h
      · rename_i h3
        have hO := (okFl_iff F).1 h1
        have r : (1 ≤ N ∧ N ≤ 1125899906842624) ∧ (1 ≤ D ∧ D ≤ 1125899906842624) := by
          simp only [ccR, inB, Bool.and_eq_true, decide_eq_true_eq] at h2
          omega
        have k := case_has hO (allI_lt F) (by omega) (by omega) ((ccB_iff hO).1 h3)
        exact ⟨hO, has_can hO (allI_lt F) (by omega) k, r.1, r.2, k⟩
      · omega
    · omega
  · omega
section
variable {F : Fl}
abbrev bA (F : Fl) : Int := lowN1 (1000 * (solvedW F (allL F)).hi.d) (solvedW F (allL F)).hi.n
abbrev bB (F : Fl) : Int := lowN2 (1000 * (solvedW F (allL F)).hi.d) (solvedW F (allL F)).hi.n
abbrev bC (F : Fl) : Int := lowN1 (1000 * (solvedW F (allL F)).lo.d) (solvedW F (allL F)).lo.n
abbrev bD (F : Fl) : Int := lowN2 (1000 * (solvedW F (allL F)).lo.d) (solvedW F (allL F)).lo.n
theorem ends_ord (h : OkF F) (hc : canI F (allL F) = true) : bA F * bD F ≤ bC F * bB F := by
  obtain ⟨_, _, k⟩ := ends_has h (allI_lt F) hc
  have B := knR_B h
  rw [knR_eq hc] at B
  have a0 := B.a0
  have b0 := B.b0
  have c0 := B.c0
  have d0 := B.d0
  have dd := lowN_bd (n := 1000 * (solvedW F (allL F)).lo.d) (d := (solvedW F (allL F)).lo.n) (by omega) a0
  rw [bA, bB, bC, bD, (low_le (n := 1000 * (solvedW F (allL F)).hi.d) (d := (solvedW F (allL F)).hi.n) (by omega) c0 dd.2.1).1,
    (low_le (n := 1000 * (solvedW F (allL F)).lo.d) (d := (solvedW F (allL F)).lo.n) (by omega) a0 c0).2]
  have e1 : 1000 * (solvedW F (allL F)).hi.d * (solvedW F (allL F)).lo.n = 1000 * ((solvedW F (allL F)).lo.n * (solvedW F (allL F)).hi.d) := by ac_rfl
  have e2 : 1000 * (solvedW F (allL F)).lo.d * (solvedW F (allL F)).hi.n = 1000 * ((solvedW F (allL F)).hi.n * (solvedW F (allL F)).lo.d) := by ac_rfl
  omega
theorem ends_mid (h : OkF F) (hc : canI F (allL F) = true) {N D : Int} (hN : 0 < N) (hD : 0 < D) (k : (solvedW F (allL F)).has (1000 * D) N) : bA F * D ≤ N * bB F ∧ N * bD F ≤ bC F * D := by
  obtain ⟨k1, k2⟩ := held_between h (allI_lt F) hN k
  have B := knR_B h
  rw [knR_eq hc] at B
  have b0 := B.b0
  have d0 := B.d0
  exact ⟨(low_le (by omega) B.c0 hD).1.2 k1, (low_le (by omega) B.a0 hD).2.2 k2⟩
end
theorem Bounds_err (F : Fl) (vv vs : Value) (c : Int) (w : World) (hF : FlIn w F vv vs) (h : rdE F true = c) (c0 : c ≠ 0) : Calls Tryz.prog 32 #[flV F vv vs] w fun e w' => e = .returned (.tuple #[raZ, raZ, .int .i64 c]) ∧ Below w.heap.size w w' := by
  have k := Bounds_any F vv vs w hF
  unfold boV at k
  rwa [if_neg (by rw [h]; exact c0), h] at k
theorem CheckCase_c (F : Fl) (vv vs : Value) (N D n c : Int) (w : World) (hF : FlIn w F vv vs) (h : ccV F N D n = c) : Calls Tryz.prog 33 #[flV F vv vs, .agg #[.int .i64 N, .int .i64 D], .int .i64 n] w fun e w' => e = .returned (.int .i64 c) ∧ Below w.heap.size w w' := by
  rw [← h]; exact CheckCase_any F vv vs N D n w hF
/-- Some of the first items makes an end a case. -/
def soB (F : Fl) (N D : Int) (j : Nat) : Bool := (List.range j).any fun i => decide (ccV F N D ((i : Int) - 1) = 0)
theorem soB_step (F : Fl) (N D : Int) (j : Nat) : soB F N D (j + 1) = (soB F N D j || decide (ccV F N D ((j : Int) - 1) = 0)) := by simp [soB, List.range_succ]
theorem soB_all {F : Fl} {N D : Int} (h : ∃ i : Int, -1 ≤ i ∧ i < F.s.length ∧ ccV F N D i = 0) : soB F N D (F.s.length + 1) = true := by
  obtain ⟨i, i0, i1, h⟩ := h
  unfold soB
  rw [List.any_eq_true]
  exact ⟨(i + 1).toNat, by simp; omega, by simp only [decide_eq_true_eq]; rw [show (((i + 1).toNat : Nat) : Int) - 1 = i by omega]; exact h⟩
set_option maxRecDepth 100000 in
set_option maxHeartbeats 4000000 in
theorem law_ends (F : Fl) (vv vs : Value) (N D n : Int) (w : World) (hF : FlIn w F vv vs) (_ : (-9223372036854775808 ≤ N ∧ N ≤ 9223372036854775807) ∧ (-9223372036854775808 ≤ D ∧ D ≤ 9223372036854775807)) (_ : -9223372036854775808 ≤ n) (_ : n ≤ 9223372036854775807) : Calls Tryz.prog 5 #[flV F vv vs, .agg #[.int .i64 N, .int .i64 D], .int .i64 n] w fun e w' => e = .returned (.bool true) ∧ Below w.heap.size w w' := by
  obtain ⟨os, cs, rfl, ms⟩ := hF.s.parts
  obtain ⟨ov, cv, rfl, mv⟩ := hF.v.parts
  obtain ⟨sl, hsl⟩ : ∃ k, F.s.length = k := ⟨_, rfl⟩
  obtain ⟨vl, hvl⟩ : ∃ k, F.v.length = k := ⟨_, rfl⟩
  rw [hsl] at hF ms ⊢
  rw [hvl] at hF mv ⊢
  have HSL := Lib.hid hsl
  have HVL := Lib.hid hvl
  clear hsl hvl
  have HF := Lib.hid (hF.alloc (flO F (.slice ov vl cv) (.slice os sl cs)))
  have BP := Lib.hid (Bk.new w 30 (flL F (.slice ov vl cv) (.slice os sl cs)))
  clear hF
  have BR := Lib.hid (Bk.new1 w (flO F (.slice ov vl cv) (.slice os sl cs)) 41 [.int .i64 N, .int .i64 D])
  go_enter Tryz.func5, Tryz.ntmps5
  go_wp2_with fail
  refine (sane_any _).mono ?_
  rintro e w1 ⟨rfl, hb⟩
  have HF1 := Lib.hid ((HF.out.alloc (Obj.cells #[.int .i64 N, .int .i64 D] 41)).below hb)
  have BP1 := Lib.hid ((BP.out.alloc (Obj.cells #[.int .i64 N, .int .i64 D] 41)).below hb)
  have BR1 := Lib.hid (BR.out.below hb)
  have HB1 := Lib.hid (bafter (bafter hb))
  clear hb HF BP BR
  go_wp2_with (first | (refine ld_at rfl (T := 30) rfl rfl BP1.out Tryz.underlying30 rfl (by kernel_rfl) ?_) | fail)
  obtain ⟨e0, he0⟩ : ∃ e, rdE F true = e := ⟨_, rfl⟩
  by_cases hz : e0 = 0
  · subst hz
    have hO := rdE_ok he0
    have hok := (okFl_iff F).2 hO
    have hc := rdE_can he0
    have HO := Lib.hid (And.intro hok hc)
    have hsl : F.s.length ≤ 24 := hO.n
    have q1 := end_some hO hc (b := (knR F).hi) (Or.inl rfl)
    have q2 := end_some hO hc (b := (knR F).lo) (Or.inr rfl)
    have q3 := ends_ord hO hc
    have q4 : ccV F N D n = 0 → (1 ≤ N ∧ 1 ≤ D) ∧ bA F * D ≤ N * bB F ∧ N * bD F ≤ bC F * D := fun h => by
      obtain ⟨_, _, h1, h2, h3⟩ := ccV_0 h
      exact ⟨⟨h1.1, h2.1⟩, ends_mid hO hc (by omega) (by omega) h3⟩
    rw [knR_eq hc] at q1 q2
    have hBo := Bounds_yes F (.slice ov vl cv) (.slice os sl cs) w1 (bA F) (bB F) (bC F) (bD F) HF1.out hok hc rfl rfl rfl rfl
    obtain ⟨a1, ha1⟩ : ∃ x, bA F = x := ⟨_, rfl⟩
    obtain ⟨a2, ha2⟩ : ∃ x, bB F = x := ⟨_, rfl⟩
    obtain ⟨b1, hb1⟩ : ∃ x, bC F = x := ⟨_, rfl⟩
    obtain ⟨b2, hb2⟩ : ∃ x, bD F = x := ⟨_, rfl⟩
    have q1 : (1 ≤ bA F ∧ bA F ≤ 1125899906842624) ∧ (1 ≤ bB F ∧ bB F ≤ 1125899906842624) ∧ ∃ i : Int, -1 ≤ i ∧ i < F.s.length ∧ ccV F (bA F) (bB F) i = 0 := q1
    have q2 : (1 ≤ bC F ∧ bC F ≤ 1125899906842624) ∧ (1 ≤ bD F ∧ bD F ≤ 1125899906842624) ∧ ∃ i : Int, -1 ≤ i ∧ i < F.s.length ∧ ccV F (bC F) (bD F) i = 0 := q2
    rw [ha1, ha2, hb1, hb2] at hBo q3 q4
    rw [ha1, ha2] at q1
    rw [hb1, hb2] at q2
    obtain ⟨⟨a11, a12⟩, ⟨a21, a22⟩, qa⟩ := q1
    obtain ⟨⟨b11, b12⟩, ⟨b21, b22⟩, qb⟩ := q2
    have SA := Lib.hid (soB_all qa)
    have SB := Lib.hid (soB_all qb)
    rw [HSL.out] at SA SB
    rw [HSL.out] at hsl
    have Q4 := Lib.hid q4
    have s1 : sgn (a1 * b2 - b1 * a2) ≤ 0 := by
      rcases Int.lt_or_le 0 (sgn (a1 * b2 - b1 * a2)) with h | h
      · have := (sgn_gt _).1 h; omega
      · exact h
    obtain ⟨sg, hsg⟩ : ∃ k, sgn (a1 * b2 - b1 * a2) = k := ⟨_, rfl⟩
    rw [hsg] at s1
    have HSG := Lib.hid hsg
    clear hsg q1 q2 q3 q4 qa qb ha1 ha2 hb1 hb2 hO hok hc he0
    refine hBo.mono ?_
    rintro e w2 ⟨rfl, hb⟩
    have HF2 := Lib.hid (((HF1.out.below hb).alloc (Obj.cells #[.int .i64 a1, .int .i64 a2] 41)).alloc (Obj.cells #[.int .i64 b1, .int .i64 b2] 41))
    have BP2 := Lib.hid (((BP1.out.below hb).alloc (Obj.cells #[.int .i64 a1, .int .i64 a2] 41)).alloc (Obj.cells #[.int .i64 b1, .int .i64 b2] 41))
    have BR2 := Lib.hid (((BR1.out.below hb).alloc (Obj.cells #[.int .i64 a1, .int .i64 a2] 41)).alloc (Obj.cells #[.int .i64 b1, .int .i64 b2] 41))
    have BA2 := Lib.hid ((Bk.new w2 41 [.int .i64 a1, .int .i64 a2]).alloc (Obj.cells #[.int .i64 b1, .int .i64 b2] 41))
    have BB2 := Lib.hid (Bk.new1 w2 (Obj.cells #[.int .i64 a1, .int .i64 a2] 41) 41 [.int .i64 b1, .int .i64 b2])
    have hbb := bthen HB1.out hb
    have hbc := hbb.alloc hbb.size (Obj.cells #[.int .i64 a1, .int .i64 a2] 41)
    have HB2 := Lib.hid (hbc.alloc hbc.size (Obj.cells #[.int .i64 b1, .int .i64 b2] 41))
    clear hb hbb hbc hBo HF1 BP1 BR1 HB1
    go_wp2_with fail
    refine (compare_any a1 a2 b1 b2 _ (by omega) (by omega) (by omega) (by omega) (by omega) (by omega) (by omega) (by omega)).mono ?_
    rw [HSG.out]
    rintro e w3 ⟨rfl, hb⟩
    have HF3 := Lib.hid (HF2.out.below hb)
    have BP3 := Lib.hid (BP2.out.below hb)
    have BR3 := Lib.hid (BR2.out.below hb)
    have BA3 := Lib.hid (BA2.out.below hb)
    have BB3 := Lib.hid (BB2.out.below hb)
    have HB3 := Lib.hid (bthen HB2.out hb)
    have x0 := BA3.out.cell 0
    have x1 := BA3.out.cell 1
    have y0 := BB3.out.cell 0
    have y1 := BB3.out.cell 1
    have xl := BA3.out.lt
    have yl := BB3.out.lt
    simp only [List.getElem?_cons_zero, List.getElem?_cons_succ] at x0 x1 y0 y1
    clear hb HF2 BP2 BR2 BA2 BB2 HB2
    obtain ⟨W, hW⟩ : ∃ W, w3.alloc (Obj.cells #[.int .i64 a1, .int .i64 a2, .int .i64 b1, .int .i64 b2] 41) = W := ⟨_, rfl⟩
    have HE := Lib.hid (show Bk W w3.heap.size 41 [.int .i64 a1, .int .i64 a2, .int .i64 b1, .int .i64 b2] by rw [← hW]; exact Bk.new _ _ _)
    have h3W : Below w3.heap.size w3 W := by rw [← hW]; exact ballo _ _
    have HFW := Lib.hid (HF3.out.below h3W)
    have BPW := Lib.hid (BP3.out.below h3W)
    have BRW := Lib.hid (BR3.out.below h3W)
    have BAW := Lib.hid (BA3.out.below h3W)
    have BBW := Lib.hid (BB3.out.below h3W)
    have HBW := Lib.hid (bthen HB3.out h3W)
    clear h3W HF3 BP3 BR3 BA3 BB3 HB3
    go_wp2_with fail
    try rw [hW]
    clear hW x0 x1 y0 y1 xl yl
    go_loopw [57] (fun i wr => ∃ k : Nat, k ≤ 2 ∧ i = .int .i64 (k : Int) ∧ Hid (Below W.heap.size W wr)) (fun i _ => 2 - (intOf i).toNat)
    case atStart => exact ⟨0, by omega, rfl, Lib.hid (Below.refl _ _)⟩
    case round =>
      obtain ⟨k, hk, rfl, hbl⟩ := hrel
      have hE := HE.out.below hbl.out
      by_cases k0 : k = 0
      · subst k0
        have c0 := hE.cell 0
        have c1 := hE.cell 1
        have el := hE.lt
        simp only [List.getElem?_cons_zero, List.getElem?_cons_succ] at c0 c1
        clear hE
        go_wp2_with fail
        obtain ⟨U, hU⟩ : ∃ U, wr.alloc (Obj.cells #[.int .i64 a1, .int .i64 a2] 41) = U := ⟨_, rfl⟩
        have BE := Lib.hid (show Bk U wr.heap.size 41 [.int .i64 a1, .int .i64 a2] by rw [← hU]; exact Bk.new _ _ _)
        have hWU : Below W.heap.size W U := by rw [← hU]; exact hbl.out.alloc hbl.out.size _
        have HFU := Lib.hid (HFW.out.below hWU)
        have BPU := Lib.hid (BPW.out.below hWU)
        have HWU := Lib.hid hWU
        try rw [hU]
        clear hU c0 c1 el hWU
        go_loopw [12, 13] (fun s i wq => ∃ j : Nat, j ≤ sl + 1 ∧ i = .int .i64 ((j : Int) - 1) ∧ s = .bool (soB F a1 a2 j) ∧ Hid (Below U.heap.size U wq)) (fun _ i _ => (sl + 1) - (intOf i + 1).toNat)
        case atStart => exact ⟨0, by omega, rfl, rfl, Lib.hid (Below.refl _ _)⟩
        case round =>
          obtain ⟨j, hj, rfl, rfl, hbq⟩ := hrel
          have hP := BPU.out.below hbq.out
          have hB := BE.out.below hbq.out
          have p0 := hP.cell 0
          have p1 := hP.cell 1
          have p2 := hP.cell 2
          have p3 := hP.cell 3
          have p4 := hP.cell 4
          have p5 := hP.cell 5
          have pl := hP.lt
          have t0 := hB.cell 0
          have t1 := hB.cell 1
          have tl := hB.lt
          simp only [List.getElem?_cons_zero, List.getElem?_cons_succ] at p0 p1 p2 p3 p4 p5 t0 t1
          clear hP hB
          by_cases hjs : j < sl + 1
          · have hst := soB_step F a1 a2 j
            cases hso : soB F a1 a2 j with
            | true =>
              rw [hso, Bool.true_or] at hst
              have HST := Lib.hid hst
              clear hst hso
              go_wp2_with fail
              refine ⟨⟨j + 1, by omega, by go_num, by rw [HST.out], hbq⟩, by simp [intOf]; omega⟩
            | false =>
              obtain ⟨cc, hcc⟩ : ∃ c, ccV F a1 a2 ((j : Int) - 1) = c := ⟨_, rfl⟩
              rw [hso, Bool.false_or, hcc] at hst
              have HST := Lib.hid hst
              have HCC := Lib.hid hcc
              clear hst hso hcc
              go_wp2_with fail
              refine (CheckCase_c F _ _ a1 a2 _ cc _ (HFU.out.below hbq.out) HCC.out).mono ?_
              rintro e wz ⟨rfl, hb⟩
              have HBZ := Lib.hid (bthen hbq.out hb)
              clear hb p0 p1 p2 p3 p4 p5 pl t0 t1 tl
              go_wp2_with fail
              refine ⟨⟨_, _, _, _, _, _, _, _, _, _, _, _, _, _, _, _, _, ?_, rfl⟩, ?_⟩
              · exact ⟨j + 1, by omega, by go_num, by rw [HST.out]; rfl, HBZ⟩
              · simp [intOf]; omega
          · have hj2 : j = sl + 1 := by omega
            subst hj2
            have hso : soB F a1 a2 (sl + 1) = true := SA.out
            rw [hso]
            clear hso p0 p1 p2 p3 p4 t0 t1 tl
            go_wp2_with fail
            refine ⟨⟨1, by omega, by go_num, Lib.hid (HWU.out.trans (hbq.out.mono HWU.out.size))⟩, by simp [intOf]⟩
      by_cases k1 : k = 1
      · subst k1
        have c0 := hE.cell 2
        have c1 := hE.cell 3
        have el := hE.lt
        simp only [List.getElem?_cons_zero, List.getElem?_cons_succ] at c0 c1
        clear hE
        go_wp2_with fail
        obtain ⟨U, hU⟩ : ∃ U, wr.alloc (Obj.cells #[.int .i64 b1, .int .i64 b2] 41) = U := ⟨_, rfl⟩
        have BE := Lib.hid (show Bk U wr.heap.size 41 [.int .i64 b1, .int .i64 b2] by rw [← hU]; exact Bk.new _ _ _)
        have hWU : Below W.heap.size W U := by rw [← hU]; exact hbl.out.alloc hbl.out.size _
        have HFU := Lib.hid (HFW.out.below hWU)
        have BPU := Lib.hid (BPW.out.below hWU)
        have HWU := Lib.hid hWU
        try rw [hU]
        clear hU c0 c1 el hWU
        go_loopw [12, 13] (fun s i wq => ∃ j : Nat, j ≤ sl + 1 ∧ i = .int .i64 ((j : Int) - 1) ∧ s = .bool (soB F b1 b2 j) ∧ Hid (Below U.heap.size U wq)) (fun _ i _ => (sl + 1) - (intOf i + 1).toNat)
        case atStart => exact ⟨0, by omega, rfl, rfl, Lib.hid (Below.refl _ _)⟩
        case round =>
          obtain ⟨j, hj, rfl, rfl, hbq⟩ := hrel
          have hP := BPU.out.below hbq.out
          have hB := BE.out.below hbq.out
          have p0 := hP.cell 0
          have p1 := hP.cell 1
          have p2 := hP.cell 2
          have p3 := hP.cell 3
          have p4 := hP.cell 4
          have p5 := hP.cell 5
          have pl := hP.lt
          have t0 := hB.cell 0
          have t1 := hB.cell 1
          have tl := hB.lt
          simp only [List.getElem?_cons_zero, List.getElem?_cons_succ] at p0 p1 p2 p3 p4 p5 t0 t1
          clear hP hB
          by_cases hjs : j < sl + 1
          · have hst := soB_step F b1 b2 j
            cases hso : soB F b1 b2 j with
            | true =>
              rw [hso, Bool.true_or] at hst
              have HST := Lib.hid hst
              clear hst hso
              go_wp2_with fail
              refine ⟨⟨j + 1, by omega, by go_num, by rw [HST.out], hbq⟩, by simp [intOf]; omega⟩
            | false =>
              obtain ⟨cc, hcc⟩ : ∃ c, ccV F b1 b2 ((j : Int) - 1) = c := ⟨_, rfl⟩
              rw [hso, Bool.false_or, hcc] at hst
              have HST := Lib.hid hst
              have HCC := Lib.hid hcc
              clear hst hso hcc
              go_wp2_with fail
              refine (CheckCase_c F _ _ b1 b2 _ cc _ (HFU.out.below hbq.out) HCC.out).mono ?_
              rintro e wz ⟨rfl, hb⟩
              have HBZ := Lib.hid (bthen hbq.out hb)
              clear hb p0 p1 p2 p3 p4 p5 pl t0 t1 tl
              go_wp2_with fail
              refine ⟨⟨_, _, _, _, _, _, _, _, _, _, _, _, _, _, _, _, _, ?_, rfl⟩, ?_⟩
              · exact ⟨j + 1, by omega, by go_num, by rw [HST.out]; rfl, HBZ⟩
              · simp [intOf]; omega
          · have hj2 : j = sl + 1 := by omega
            subst hj2
            have hso : soB F b1 b2 (sl + 1) = true := SB.out
            rw [hso]
            clear hso p0 p1 p2 p3 p4 t0 t1 tl
            go_wp2_with fail
            refine ⟨⟨2, by omega, by go_num, Lib.hid (HWU.out.trans (hbq.out.mono HWU.out.size))⟩, by simp [intOf]⟩
      · have hk2 : k = 2 := by omega
        subst hk2
        clear hE
        go_wp2_with (first | (refine ld_at rfl (T := 30) rfl rfl (BPW.out.below hbl.out) Tryz.underlying30 rfl (by kernel_rfl) ?_) | (refine ld_at rfl (T := 41) rfl rfl (BRW.out.below hbl.out) Tryz.underlying41 rfl (by kernel_rfl) ?_) | fail)
        obtain ⟨c, hc⟩ : ∃ c, ccV F N D n = c := ⟨_, rfl⟩
        have HC := Lib.hid hc
        clear hc
        refine (CheckCase_c F _ _ N D n c wr (HFW.out.below hbl.out) HC.out).mono ?_
        rintro e w4 ⟨rfl, hb⟩
        have h34 : Below W.heap.size W w4 := hbl.out.trans (hb.mono hbl.out.size)
        have hA := BAW.out.below h34
        have hBB := BBW.out.below h34
        have hR := BRW.out.below h34
        have x0 := hA.cell 0
        have x1 := hA.cell 1
        have y0 := hBB.cell 0
        have y1 := hBB.cell 1
        have r0 := hR.cell 0
        have r1 := hR.cell 1
        have xl := hA.lt
        have yl := hBB.lt
        have rl := hR.lt
        simp only [List.getElem?_cons_zero, List.getElem?_cons_succ] at x0 x1 y0 y1 r0 r1
        have HB4 := Lib.hid (bthen HBW.out h34)
        clear hA hBB hR hb h34
        by_cases hz : c = 0
        · subst hz
          have hq := Q4.out HC.out
          have hq2 := (ccV_0 HC.out).2.2
          obtain ⟨⟨N1, D1⟩, m1, m2⟩ := hq
          obtain ⟨⟨_, N2⟩, ⟨_, D2⟩, _⟩ := hq2
          obtain ⟨s3, hs3⟩ : ∃ k, sgn (a1 * D - N * a2) = k := ⟨_, rfl⟩
          obtain ⟨s4, hs4⟩ : ∃ k, sgn (N * b2 - b1 * D) = k := ⟨_, rfl⟩
          have s30 : s3 ≤ 0 := by
            rcases Int.lt_or_le 0 s3 with h | h
            · rw [← hs3] at h; have := (sgn_gt _).1 h; omega
            · exact h
          have s40 : s4 ≤ 0 := by
            rcases Int.lt_or_le 0 s4 with h | h
            · rw [← hs4] at h; have := (sgn_gt _).1 h; omega
            · exact h
          have HS3 := Lib.hid hs3
          have HS4 := Lib.hid hs4
          clear hs3 hs4 m1 m2
          go_wp2_with fail
          refine (compare_any a1 a2 N D _ (by omega) (by omega) (by omega) (by omega) (by omega) (by omega) (by omega) (by omega)).mono ?_
          rw [HS3.out]
          rintro e w5 ⟨rfl, hb5⟩
          obtain ⟨hc5, hf5⟩ := bcell hb5
          go_wp2_with fail
          refine (compare_any N D b1 b2 _ (by omega) (by omega) (by omega) (by omega) (by omega) (by omega) (by omega) (by omega)).mono ?_
          rw [HS4.out]
          rintro e w6 ⟨rfl, hb6⟩
          have HB6 := Lib.hid (bthen HB4.out (bthen hb5 hb6))
          clear hb5 hb6 hc5 hf5
          go_wp2_with fail
          go_ret
          exact ⟨rfl, HB6.out⟩
        · have hne : (c == 0) = false := by simpa using hz
          clear hz
          go_wp2_with fail
          go_ret
          exact ⟨rfl, HB4.out⟩
  · refine (Bounds_err F _ _ e0 _ HF1.out he0 hz).mono ?_
    rintro e w2 ⟨rfl, hb⟩
    have HF2 := Lib.hid (((HF1.out.below hb).alloc raO).alloc raO)
    have BP2 := Lib.hid (((BP1.out.below hb).alloc raO).alloc raO)
    have BR2 := Lib.hid (((BR1.out.below hb).alloc raO).alloc raO)
    have hbb := bthen HB1.out hb
    have hbc := hbb.alloc hbb.size raO
    have HB2 := Lib.hid (hbc.alloc hbc.size raO)
    have hne : (e0 == 0) = false := by simpa using hz
    have hcc : ccV F N D n ≠ 0 := fun h => by
      obtain ⟨hO, hc, _⟩ := ccV_0 h
      exact hz (he0.symm.trans (rdE_0 ((okFl_iff F).2 hO) rfl hc))
    obtain ⟨c, hc⟩ : ∃ c, ccV F N D n = c := ⟨_, rfl⟩
    rw [hc] at hcc
    have hcn : (c == 0) = false := by simpa using hcc
    have HC := Lib.hid hc
    have r0 := BR2.out.cell 0
    have r1 := BR2.out.cell 1
    have rl := BR2.out.lt
    simp only [List.getElem?_cons_zero, List.getElem?_cons_succ] at r0 r1
    clear hb hbb hbc HF1 BP1 BR1 HB1 hz he0 hcc hc
    go_wp2_with (first | (refine ld_at rfl (T := 30) rfl rfl BP2.out Tryz.underlying30 rfl (by kernel_rfl) ?_) | fail)
    refine (CheckCase_c F _ _ N D n c _ HF2.out HC.out).mono ?_
    rintro e w3 ⟨rfl, hb⟩
    have HB3 := Lib.hid (bthen HB2.out hb)
    clear hb
    go_wp2_with fail
    go_ret
    exact ⟨ret_bool (by simpa using hcn), HB3.out⟩
end Go.Proofs.YtnfndiafabhhdaaGreat
