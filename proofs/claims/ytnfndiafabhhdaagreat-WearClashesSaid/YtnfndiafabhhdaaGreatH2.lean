/- Walks of the reference's wear, Bounds (Wear). -/
import Derived.Test.YtnfndiafabhhdaaGreatG7
import Derived.Test.YtnfndiafabhhdaaGreatF1
namespace Go.Proofs.YtnfndiafabhhdaaGreat
open Go.ChangeShapes Go.WideShapes Go.ChangeAt Go.RowKit
abbrev wrN (n d : Int) : Int := lowN1 (1000 * lowN2 n d) (lowN1 n d)
abbrev wrD (n d : Int) : Int := lowN2 (1000 * lowN2 n d) (lowN1 n d)
theorem low1_pos {n d : Int} (hn : 0 < n) (hd : 0 < d) : 0 < lowN1 n d := by
  obtain ⟨⟨l1, _⟩, l2, _⟩ := lowN_bd (Int.le_of_lt hn) hd
  have c := lowN_cross (Int.le_of_lt hn) hd
  have := Int.mul_pos hn l2
  rcases Int.lt_or_le 0 (lowN1 n d) with k | k
  · exact k
  · have := Int.mul_nonpos_of_nonpos_of_nonneg k (Int.le_of_lt hd)
    omega
set_option maxRecDepth 100000 in
set_option maxHeartbeats 1000000 in
theorem rwear_any (n d : Int) (w : World) (n0 : 0 < n) (n1 : n ≤ 480000000000) (d0 : 0 < d) (d1 : d ≤ 2097152000000) :
    Calls Tryz.prog 121 #[.agg #[.int .i64 n, .int .i64 d]] w fun e w' => e = .returned (.agg #[.int .i64 (wrN n d), .int .i64 (wrD n d)]) ∧ Below w.heap.size w w' := by
  have h1 := fun w => r3lowest_any n d w (by omega) (by omega) d0 (by omega)
  obtain ⟨⟨l1, l2⟩, l3, l4⟩ := lowN_bd (Int.le_of_lt n0) d0
  have l5 := low1_pos n0 d0
  have h2 := fun w => r3lowest_any (1000 * lowN2 n d) (lowN1 n d) w (by omega) (by omega) l5 (by omega)
  unfold wrN wrD
  obtain ⟨P, hP⟩ : ∃ P, lowN1 n d = P := ⟨_, rfl⟩
  obtain ⟨Q, hQ⟩ : ∃ P, lowN2 n d = P := ⟨_, rfl⟩
  simp only [hP, hQ] at h1 h2 l1 l2 l3 l4 l5 ⊢
  obtain ⟨X, hX⟩ : ∃ X, lowN1 (1000 * Q) P = X := ⟨_, rfl⟩
  obtain ⟨Y, hY⟩ : ∃ Y, lowN2 (1000 * Q) P = Y := ⟨_, rfl⟩
  simp only [hX, hY] at h2 ⊢
  have H1 := Lib.hid h1
  have H2 := Lib.hid h2
  have HZ := Lib.hid (Bk.new1 w (Obj.cells #[.int .i64 n, .int .i64 d] 41) 41 [.int .i64 0, .int .i64 0])
  have hw : IntKind.i64.wrap (1000 * Q) = 1000 * Q := IntWalk.i64_in _ (by omega)
  clear h1 h2 hP hQ hX hY
  go_enter Tryz.func121, Tryz.ntmps121
  go_wp2_with fail
  refine (H1.out _).mono ?_
  rintro e w1 ⟨rfl, hb⟩
  have HZ1 := Lib.hid (HZ.out.below hb)
  have HW1 := Lib.hid (bafter (bafter hb))
  clear hb
  go_wp2_with fail
  refine (H2.out _).mono ?_
  rintro e w2 ⟨rfl, hb⟩
  have hW := HW1.out.alloc HW1.out.size (Obj.cells #[.int .i64 P, .int .i64 Q] 41)
  have hZ2 := (HZ1.out.alloc (Obj.cells #[.int .i64 P, .int .i64 Q] 41)).below hb
  have hW2 := hW.trans (hb.mono hW.size)
  clear hb
  go_wp2_with (refine st_at rfl (T := 41) rfl rfl (cs := [.int .i64 X, .int .i64 Y]) rfl hZ2 (by kernel_rfl) rfl rfl ?_; intro wk hkk hsk)
  refine bodyPost_ret (v := .agg #[.int .i64 X, .int .i64 Y]) (results_cell_row rfl _ _ (w.heap.size + 1) _ _ (0, 0) _ rfl hkk Tryz.underlying41 rfl (by kernel_rfl)) rfl ⟨rfl, ?_⟩
  exact bes_then hW2 hsk (by omega) hW2.size
set_option maxRecDepth 100000 in
set_option maxHeartbeats 4000000 in
theorem rBounds_any (F : Fl) (vv vs : Value) (w : World) (hF : FlIn w F vv vs) : Calls Tryz.prog 48 #[flV F vv vs] w fun e w' => e = .returned (boV F) ∧ Below w.heap.size w w' := by
  have hBox := ((Bk.new w 30 (flL' F vv vs)).alloc (Obj.cells #[.int .i64 0, .int .i64 0] 41)).alloc (Obj.cells #[.int .i64 0, .int .i64 0] 41)
  have hZ1 := (Bk.new1 w (flO F vv vs) 41 [.int .i64 0, .int .i64 0]).alloc (Obj.cells #[.int .i64 0, .int .i64 0] 41)
  have hZ2 : Bk (((w.alloc (flO F vv vs)).alloc (Obj.cells #[.int .i64 0, .int .i64 0] 41)).alloc (Obj.cells #[.int .i64 0, .int .i64 0] 41)) (w.heap.size + 2) 41 [.int .i64 0, .int .i64 0] := by
    have h := Bk.new1 (w.alloc (flO F vv vs)) (Obj.cells #[.int .i64 0, .int .i64 0] 41) 41 [.int .i64 0, .int .i64 0]
    rwa [World.size_alloc] at h
  have HB := Lib.hid hBox
  have HZ1 := Lib.hid hZ1
  have HZ2 := Lib.hid hZ2
  have HF0 := Lib.hid (((hF.alloc (flO F vv vs)).alloc (Obj.cells #[.int .i64 0, .int .i64 0] 41)).alloc (Obj.cells #[.int .i64 0, .int .i64 0] 41))
  have hE : rdE F (asR F 0 0) = rdE F true := by
    unfold rdE
    cases ho : okFl F with
    | false => rfl
    | true =>
      have hO := (okFl_iff F).1 ho
      have hHt := (pt_bd ((okv_iff F.v).1 hO.v) (Nat.le_refl _)).1
      have hh : hgt F.v = vX F.v F.v.length := rfl
      rw [← hh] at hHt
      have h2 : asR F 0 0 = true := by unfold asR; rw [inB_mk (by omega) (by omega), inB_mk (by omega) (by omega)]; rfl
      rw [h2]
  obtain ⟨c, hc⟩ : ∃ c, rdE F true = c := ⟨_, rfl⟩
  rw [hc] at hE
  have HE := Lib.hid hE
  unfold boV
  rw [hc]
  by_cases h0 : c = 0
  · subst h0
    obtain ⟨ho, _, hcan⟩ := rdE_0' hc
    have hO := (okFl_iff F).1 ho
    have hlen : (allL F).length ≤ 1000 := by rw [all_len]; have := hO.n; omega
    have hR := rnR_c hO (allL F)
    have hL := lines_B1 hO (allL_ok F)
    have hI : ∀ i ∈ allL F, i < F.s.length := fun i hi => (allL_ok F i hi).2
    obtain ⟨s1, s2, s3, s4⟩ := solved_same hO hI
    have hso : (solvedW F (allL F)).some = true := hcan
    have e1 := same_lo s1 s2 s4 hso
    have e2 := same_hi s1 s2 s4 hso
    have hRC : RnC (leftR (rnR F (allL F)) (linesL F (allL F))) := outR_bd hL hL hR
    have hs : leftR (rnR F (allL F)) (linesL F (allL F)) = solvedR F (allL F) := rfl
    have B := knR_B hO
    have hk := knR_eq hcan
    rw [hk] at B
    obtain ⟨S, hS⟩ : ∃ S, solvedR F (allL F) = S := ⟨_, rfl⟩
    rw [hs, hS] at hRC
    rw [hS] at e1 e2 hs
    have p1 : 0 < S.hi.n := by
      have := Int.mul_pos B.c0 hRC.d0
      rcases Int.lt_or_le 0 S.hi.n with k | k
      · exact k
      · have := Int.mul_nonpos_of_nonpos_of_nonneg k (Int.le_of_lt B.d0)
        omega
    have v1 := wear_eq B.d0 hRC.d0 B.c0 e2
    have v2 := wear_eq B.b0 hRC.b0 B.a0 e1
    have hw1 := fun w => rwear_any S.hi.n S.hi.d w p1 hRC.c1 hRC.d0 hRC.d1
    have hw2 := fun w => rwear_any S.lo.n S.lo.d w hRC.a0 hRC.a1 hRC.b0 hRC.b1
    have hv : (.tuple #[weV (knR F).hi, weV (knR F).lo, .int .i64 0] : Value) = .tuple #[.agg #[.int .i64 (wrN S.hi.n S.hi.d), .int .i64 (wrD S.hi.n S.hi.d)], .agg #[.int .i64 (wrN S.lo.n S.lo.d), .int .i64 (wrD S.lo.n S.lo.d)], .int .i64 0] := by
      rw [hk]
      unfold weV wrN wrD
      rw [v1.1, v1.2, v2.1, v2.2]
    rw [if_pos rfl]
    obtain ⟨A1, hA1⟩ : ∃ x, wrN S.hi.n S.hi.d = x := ⟨_, rfl⟩
    obtain ⟨A2, hA2⟩ : ∃ x, wrD S.hi.n S.hi.d = x := ⟨_, rfl⟩
    obtain ⟨B1, hB1⟩ : ∃ x, wrN S.lo.n S.lo.d = x := ⟨_, rfl⟩
    obtain ⟨B2, hB2⟩ : ∃ x, wrD S.lo.n S.lo.d = x := ⟨_, rfl⟩
    simp only [hA1, hA2] at hw1 hv
    simp only [hB1, hB2] at hw2 hv
    have HV := Lib.hid hv
    have HWR1 := Lib.hid hw1
    have HWR2 := Lib.hid hw2
    have HS := Lib.hid hs
    have HR := Lib.hid hR
    have HL := Lib.hid hL
    clear hv hw1 hw2 hs hR hL hA1 hA2 hB1 hB2 v1 v2 p1 hS hk B hRC e1 e2 hso s1 s2 s3 s4 hI ho hcan hc hE hF hBox hZ1 hZ2
    go_enter Tryz.func48, Tryz.ntmps48
    go_wp2_with (first | (refine ld_at rfl (T := 30) rfl rfl HB.out Tryz.underlying30 rfl (by kernel_rfl) ?_) | fail)
    refine (rasked_any F vv vs 0 0 _ HF0.out).mono ?_
    rw [HE.out]
    rintro e W ⟨rfl, hb⟩
    have hBW := HB.out.below hb
    have HFW := Lib.hid (HF0.out.below hb)
    have HZ1w := Lib.hid (HZ1.out.below hb)
    have HZ2w := Lib.hid (HZ2.out.below hb)
    have HwW := Lib.hid (bafter (bafter (bafter hb)))
    have c0 := hBW.cell 0
    have c1 := hBW.cell 1
    have c2 := hBW.cell 2
    have c3 := hBW.cell 3
    have c4 := hBW.cell 4
    have c5 := hBW.cell 5
    have cl := hBW.lt
    simp only [List.getElem?_cons_zero, List.getElem?_cons_succ] at c0 c1 c2 c3 c4 c5
    clear hb hBW HB HZ1 HZ2 HF0
    go_wp2_with fail
    refine WpK.begin (S := fun _ => True) (kp := fun _ => true) (f := 10) (up := #[false, false, false, false, false, false, false, false, false, false]) (by kernel_rfl) (by kernel_rfl) (by kernel_rfl) ?_
    refine WpK.weaken (S := fun x => Below W.heap.size W x) (kp := (fun i => decide (i < 9))) (fun _ => trivial) _ ?_
    have hS0 := (show Below W.heap.size W W.drew from (Below.refl _ _).drew)
    refine WpK.take (i := 0) (v := ?_) ((toArray_at _ _).trans rfl) (by kernel_rfl) (by kernel_rfl) (by kernel_rfl) (by kernel_rfl) (by kernel_rfl) (fun _ _ _ h => h) (Or.inl ⟨by rfl, ?_⟩) hS0 ?_
    rotate_left
    · (intro x hx; obtain ⟨hcx, hfx⟩ := bcell hx; go_simp <;> with_reducible rfl)
    try simp only [Act.put, puts]
    refine WpK.take (i := 1) (v := ?_) ((toArray_at _ _).trans rfl) (by kernel_rfl) (by kernel_rfl) (by kernel_rfl) (by kernel_rfl) (by kernel_rfl) (fun _ _ _ h => h) (Or.inl ⟨by rfl, ?_⟩) hS0 ?_
    rotate_left
    · (intro x hx; obtain ⟨hcx, hfx⟩ := bcell hx; go_simp <;> with_reducible rfl)
    try simp only [Act.put, puts]
    clear hS0 c0 c1 c2 c3 c4 c5
    refine WpK.two (i := 2) (k := 7) (by kernel_rfl) ((toArray_at _ _).trans rfl) ((toArray_at _ _).trans rfl) ?_ ?_
    all_goals
      intro K hK
      have HK := Lib.hid hK
      clear hK
    · go_simp
      refine (rAll_any F _ _ _ (HFW.out.below ((Below.drew (Below.refl _ _)))) hO.n).mono ?_
      rintro e W2 ⟨vI, rfl, hb2, hI2⟩
      have hW2 : Below W.heap.size W W2 := Below.trans (Below.drew (Below.refl _ _)) hb2
      refine HK.out _ _ (fun _ => hW2) (fun _ => ?_)
      clear HK K
      try simp only [puts]
      refine WpK.two (i := 3) (k := 7) (by kernel_rfl) ((toArray_at _ _).trans rfl) ((toArray_at _ _).trans rfl) ?_ ?_
      all_goals
        intro K hK
        have HK := Lib.hid hK
        clear hK
      · go_simp
        refine (Of_any F _ _ _ (allL F) _ (HFW.out.below hW2) hO (hI2) (allL_ok F) hlen).mono ?_
        rintro e W3 ⟨s, rfl, hb3, hS3⟩
        have hW3 : Below W.heap.size W W3 := hW2.trans (hb3.mono hW2.size)
        refine HK.out _ _ (fun _ => hW3) (fun _ => ?_)
        clear HK K
        try simp only [puts]
        have hS0 := hW3
        refine WpK.take (i := 4) (v := ?_) ((toArray_at _ _).trans rfl) (by kernel_rfl) (by kernel_rfl) (by kernel_rfl) (by kernel_rfl) (by kernel_rfl) (fun _ _ _ h => h) (Or.inl ⟨by rfl, ?_⟩) hS0 ?_
        rotate_left
        · (intro x hx; clear hx; go_simp <;> with_reducible rfl)
        try simp only [Act.put, puts]
        refine WpK.take (i := 5) (v := ?_) ((toArray_at _ _).trans rfl) (by kernel_rfl) (by kernel_rfl) (by kernel_rfl) (by kernel_rfl) (by kernel_rfl) (fun _ _ _ h => h) (Or.inl ⟨by rfl, ?_⟩) hS0 ?_
        rotate_left
        · (intro x hx; clear hx; go_simp <;> with_reducible rfl)
        try simp only [Act.put, puts]
        refine WpK.take (i := 6) (v := ?_) ((toArray_at _ _).trans rfl) (by kernel_rfl) (by kernel_rfl) (by kernel_rfl) (by kernel_rfl) (by kernel_rfl) (fun _ _ _ h => h) (Or.inl ⟨by rfl, ?_⟩) hS0 ?_
        rotate_left
        · (intro x hx; clear hx; go_simp <;> with_reducible rfl)
        try simp only [Act.put, puts]
        clear hS0
        refine WpK.one (i := 7) (by kernel_rfl) ((toArray_at _ _).trans rfl) ?_
        intro K hK
        have HK := Lib.hid hK
        clear hK
        go_simp
        have hX : Below W.heap.size W (W3.alloc (Obj.cells z7L.toArray 129)) := hW3.alloc hW3.size _
        refine HK.out _ _ (fun _ => hX) (fun _ => ?_)
        clear HK K
        try simp only [puts]
        have hBx := Bk.new W3 129 z7L
        have hOx := owns_below hS3 (ballo W3 (Obj.cells z7L.toArray 129))
        have hne : s.ownBlock ≠ some W3.heap.size := fun e => by have := (World.ownsRow.lt hS3 _ e).2; omega
        have hbk : W.heap.size ≤ W3.heap.size := hW3.size
        refine WpK.one (i := 8) (by kernel_rfl) ((toArray_at _ _).trans rfl) ?_
        intro K hK
        have HK := Lib.hid hK
        clear hK
        go_simp
        refine HK.out _ _ (fun _ => hX) (fun _ => ?_)
        clear HK K
        try simp only [puts]
        refine WpK.one (i := 9) (by kernel_rfl) ((toArray_at _ _).trans rfl) ?_
        intro K hK
        have HK := Lib.hid hK
        clear hK
        refine step_st rfl rfl rfl (cs := inC (rnR F (allL F))) rfl hBx (by kernel_rfl) rfl rfl ?_
        intro WX hkk hsk
        refine HK.out _ _ (fun h => absurd h (by decide)) (fun _ => ?_)
        clear HK K
        try simp only [puts]
        refine WpK.done (by kernel_rfl) ?_
        have hOs := owns_base (base' := W.heap.size) (owns_bes' hOx hsk hne) ((by have := hW2.size; omega))
        have hWX := bes_then hX hsk hbk hX.size
        have HKK := Lib.hid hkk
        have HOS := Lib.hid hOs
        have HWX := Lib.hid hWX
        have HNE := Lib.hid hne
        have HBKK := Lib.hid hbk
        clear hkk hOs hWX hne hsk hX hBx hOx
        have hRow := OwnRl.row HOS.out
        have HROW := Lib.hid hRow
        have HZ1 := Lib.hid (HZ1w.out.below HWX.out)
        have HZ2 := Lib.hid (HZ2w.out.below HWX.out)
        have HwX := Lib.hid (HwW.out.trans (HWX.out.mono HwW.out.size))
        have HBK := Lib.hid (show w.heap.size + 2 < W3.heap.size by have := HZ2w.out.lt; have := hbk; omega)
        clear hRow
        go_wp2_with (first | (refine ld_at rfl (T := 129) rfl rfl HKK.out Tryz.underlying129 rfl (by kernel_rfl) ?_) | fail)
        refine (Left_any (linesL F (allL F)) (rnR F (allL F)) _ WX HROW.out HL.out HR.out).mono ?_
        rw [HS.out]
        rintro e W4 ⟨rfl, hb4⟩
        have hK4 := HKK.out.below hb4
        have HZ3 := Lib.hid (HZ1.out.below hb4)
        have HZ4 := Lib.hid (HZ2.out.below hb4)
        have HwY := Lib.hid (HwX.out.trans (hb4.mono HwX.out.size))
        clear hb4
        go_wp2_with (refine st_at rfl (T := 129) rfl rfl (cs := inC S) rfl hK4 (by kernel_rfl) rfl rfl ?_; intro W5 hk5 hs5)
        have HZ5 := Lib.hid (HZ3.out.bes hs5 (by have := HBK.out; omega))
        have HZ6 := Lib.hid (HZ4.out.bes hs5 (by have := HBK.out; omega))
        have HwZ := Lib.hid (bes_then HwY.out hs5 (by have := HBK.out; omega) HwY.out.size)
        have x0 := hk5.cell 0
        have x1 := hk5.cell 1
        have x2 := hk5.cell 2
        have x3 := hk5.cell 3
        have xl := hk5.lt
        simp only [inC, List.getElem?_cons_zero, List.getElem?_cons_succ] at x0 x1 x2 x3
        have mc := @more_cell W5
        have k1 : ∀ i : More W5, _ := fun i => more_call (HWR1.out i.x)
        have k2 : ∀ i : More W5, _ := fun i => more_call (HWR2.out i.x)
        have K1 := Lib.hid k1
        have K2 := Lib.hid k2
        clear k1 k2 hk5 hs5 hK4
        refine wp_head_more [0, 1, 2, 3, 4, 5] [6, 7, 8] (by kernel_rfl) (by kernel_rfl) ?_
        simp only [hPick, List.getElem?_cons_zero, List.getElem?_cons_succ]
        iterate 8 (try (first | go_big_quiet_step ((with_reducible first | exact K1.out _ | exact K2.out _)) | quiet_step ((with_reducible first | exact K1.out _ | exact K2.out _))))
        iterate 8 (try (first | go_big_quiet_step ((with_reducible first | exact K1.out _ | exact K2.out _)) | quiet_step ((with_reducible first | exact K1.out _ | exact K2.out _))))
        iterate 8 (try (first | go_big_quiet_step ((with_reducible first | exact K1.out _ | exact K2.out _)) | quiet_step ((with_reducible first | exact K1.out _ | exact K2.out _))))
        iterate 8 (try (first | go_big_quiet_step ((with_reducible first | exact K1.out _ | exact K2.out _)) | quiet_step ((with_reducible first | exact K1.out _ | exact K2.out _))))
        iterate 8 (try (first | go_big_quiet_step ((with_reducible first | exact K1.out _ | exact K2.out _)) | quiet_step ((with_reducible first | exact K1.out _ | exact K2.out _))))
        refine wpQuiet_nil ?_
        rintro ⟨wm, hbm⟩
        try dsimp only
        have hZ7 := HZ5.out.below hbm
        have hZ8 := HZ6.out.below hbm
        have HwM := Lib.hid (HwZ.out.trans (hbm.mono HwZ.out.size))
        have y0 := hZ7.cell 0
        have y1 := hZ7.cell 1
        have y2 := hZ8.cell 0
        have y3 := hZ8.cell 1
        have g0 := hZ7.frozen 0
        have g1 := hZ7.frozen 1
        have g2 := hZ8.frozen 0
        have g3 := hZ8.frozen 1
        have yl := hZ7.lt
        have yl2 := hZ8.lt
        simp only [List.getElem?_cons_zero, List.getElem?_cons_succ] at y0 y1 y2 y3
        have HZ7 := Lib.hid hZ7
        have HZ8 := Lib.hid hZ8
        clear hZ7 hZ8 hbm
        go_wp2_with fail
        have q1 := (((HZ7.out.set 0 (.int .i64 A1)).set 1 (.int .i64 A2)).far (p := ⟨w.heap.size + 2, 0, none⟩) (by simp) (.int .i64 B1)).far (p := ⟨w.heap.size + 2, 1, none⟩) (by simp) (.int .i64 B2)
        have q2 := (((HZ8.out.far (p := ⟨w.heap.size + 1, 0, none⟩) (by simp) (.int .i64 A1)).far (p := ⟨w.heap.size + 1, 1, none⟩) (by simp) (.int .i64 A2)).set 0 (.int .i64 B1)).set 1 (.int .i64 B2)
        refine bodyPost_ret (ret_cells2_tmp rfl _ _ rfl rfl q1 q2 Tryz.underlying41 Tryz.underlying41 rfl rfl (by kernel_rfl) (by kernel_rfl)) rfl ⟨by rw [HV.out]; rfl, ?_⟩
        exact (((HwM.out.setCell (p := ⟨w.heap.size + 1, 0, none⟩) (Nat.le_succ _) _).setCell (p := ⟨w.heap.size + 1, 1, none⟩) (Nat.le_succ _) _).setCell (p := ⟨w.heap.size + 2, 0, none⟩) (by simp) _).setCell (p := ⟨w.heap.size + 2, 1, none⟩) (by simp) _
      · go_simp
        have hX2 : Below W.heap.size W (W2.alloc (Obj.cells z7L.toArray 129)) := hW2.alloc hW2.size _
        refine HK.out _ _ (fun _ => hX2) (fun _ => ?_)
        clear HK K
        try simp only [puts]
        refine WpK.one (i := 3) (by kernel_rfl) ((toArray_at _ _).trans rfl) ?_
        intro K hK
        have HK := Lib.hid hK
        clear hK
        go_simp
        refine (Of_any F _ _ _ (allL F) _ (HFW.out.below hX2) hO (hI2.alloc _) (allL_ok F) hlen).mono ?_
        rintro e W3 ⟨s, rfl, hb3, hS3⟩
        have hW3 : Below W.heap.size W W3 := hX2.trans (hb3.mono hX2.size)
        refine HK.out _ _ (fun _ => hW3) (fun _ => ?_)
        clear HK K
        try simp only [puts]
        have hS0 := hW3
        refine WpK.take (i := 4) (v := ?_) ((toArray_at _ _).trans rfl) (by kernel_rfl) (by kernel_rfl) (by kernel_rfl) (by kernel_rfl) (by kernel_rfl) (fun _ _ _ h => h) (Or.inl ⟨by rfl, ?_⟩) hS0 ?_
        rotate_left
        · (intro x hx; clear hx; go_simp <;> with_reducible rfl)
        try simp only [Act.put, puts]
        refine WpK.take (i := 5) (v := ?_) ((toArray_at _ _).trans rfl) (by kernel_rfl) (by kernel_rfl) (by kernel_rfl) (by kernel_rfl) (by kernel_rfl) (fun _ _ _ h => h) (Or.inl ⟨by rfl, ?_⟩) hS0 ?_
        rotate_left
        · (intro x hx; clear hx; go_simp <;> with_reducible rfl)
        try simp only [Act.put, puts]
        refine WpK.take (i := 6) (v := ?_) ((toArray_at _ _).trans rfl) (by kernel_rfl) (by kernel_rfl) (by kernel_rfl) (by kernel_rfl) (by kernel_rfl) (fun _ _ _ h => h) (Or.inl ⟨by rfl, ?_⟩) hS0 ?_
        rotate_left
        · (intro x hx; clear hx; go_simp <;> with_reducible rfl)
        try simp only [Act.put, puts]
        clear hS0
        have hX := hW3
        have hBx := (Bk.new W2 129 z7L).below hb3
        have hOx := hS3
        have hne : s.ownBlock ≠ some W2.heap.size := fun e => by have := (World.ownsRow.lt hS3 _ e).1; simp at this; omega
        have hbk : W.heap.size ≤ W2.heap.size := hW2.size
        refine WpK.one (i := 8) (by kernel_rfl) ((toArray_at _ _).trans rfl) ?_
        intro K hK
        have HK := Lib.hid hK
        clear hK
        go_simp
        refine HK.out _ _ (fun _ => hX) (fun _ => ?_)
        clear HK K
        try simp only [puts]
        refine WpK.one (i := 9) (by kernel_rfl) ((toArray_at _ _).trans rfl) ?_
        intro K hK
        have HK := Lib.hid hK
        clear hK
        refine step_st rfl rfl rfl (cs := inC (rnR F (allL F))) rfl hBx (by kernel_rfl) rfl rfl ?_
        intro WX hkk hsk
        refine HK.out _ _ (fun h => absurd h (by decide)) (fun _ => ?_)
        clear HK K
        try simp only [puts]
        refine WpK.done (by kernel_rfl) ?_
        have hOs := owns_base (base' := W.heap.size) (owns_bes' hOx hsk hne) ((by have := hX2.size; omega))
        have hWX := bes_then hX hsk hbk hX.size
        have HKK := Lib.hid hkk
        have HOS := Lib.hid hOs
        have HWX := Lib.hid hWX
        have HNE := Lib.hid hne
        have HBKK := Lib.hid hbk
        clear hkk hOs hWX hne hsk hX hBx hOx
        have hRow := OwnRl.row HOS.out
        have HROW := Lib.hid hRow
        have HZ1 := Lib.hid (HZ1w.out.below HWX.out)
        have HZ2 := Lib.hid (HZ2w.out.below HWX.out)
        have HwX := Lib.hid (HwW.out.trans (HWX.out.mono HwW.out.size))
        have HBK := Lib.hid (show w.heap.size + 2 < W2.heap.size by have := HZ2w.out.lt; have := hbk; omega)
        clear hRow
        go_wp2_with (first | (refine ld_at rfl (T := 129) rfl rfl HKK.out Tryz.underlying129 rfl (by kernel_rfl) ?_) | fail)
        refine (Left_any (linesL F (allL F)) (rnR F (allL F)) _ WX HROW.out HL.out HR.out).mono ?_
        rw [HS.out]
        rintro e W4 ⟨rfl, hb4⟩
        have hK4 := HKK.out.below hb4
        have HZ3 := Lib.hid (HZ1.out.below hb4)
        have HZ4 := Lib.hid (HZ2.out.below hb4)
        have HwY := Lib.hid (HwX.out.trans (hb4.mono HwX.out.size))
        clear hb4
        go_wp2_with (refine st_at rfl (T := 129) rfl rfl (cs := inC S) rfl hK4 (by kernel_rfl) rfl rfl ?_; intro W5 hk5 hs5)
        have HZ5 := Lib.hid (HZ3.out.bes hs5 (by have := HBK.out; omega))
        have HZ6 := Lib.hid (HZ4.out.bes hs5 (by have := HBK.out; omega))
        have HwZ := Lib.hid (bes_then HwY.out hs5 (by have := HBK.out; omega) HwY.out.size)
        have x0 := hk5.cell 0
        have x1 := hk5.cell 1
        have x2 := hk5.cell 2
        have x3 := hk5.cell 3
        have xl := hk5.lt
        simp only [inC, List.getElem?_cons_zero, List.getElem?_cons_succ] at x0 x1 x2 x3
        have mc := @more_cell W5
        have k1 : ∀ i : More W5, _ := fun i => more_call (HWR1.out i.x)
        have k2 : ∀ i : More W5, _ := fun i => more_call (HWR2.out i.x)
        have K1 := Lib.hid k1
        have K2 := Lib.hid k2
        clear k1 k2 hk5 hs5 hK4
        refine wp_head_more [0, 1, 2, 3, 4, 5] [6, 7, 8] (by kernel_rfl) (by kernel_rfl) ?_
        simp only [hPick, List.getElem?_cons_zero, List.getElem?_cons_succ]
        iterate 8 (try (first | go_big_quiet_step ((with_reducible first | exact K1.out _ | exact K2.out _)) | quiet_step ((with_reducible first | exact K1.out _ | exact K2.out _))))
        iterate 8 (try (first | go_big_quiet_step ((with_reducible first | exact K1.out _ | exact K2.out _)) | quiet_step ((with_reducible first | exact K1.out _ | exact K2.out _))))
        iterate 8 (try (first | go_big_quiet_step ((with_reducible first | exact K1.out _ | exact K2.out _)) | quiet_step ((with_reducible first | exact K1.out _ | exact K2.out _))))
        iterate 8 (try (first | go_big_quiet_step ((with_reducible first | exact K1.out _ | exact K2.out _)) | quiet_step ((with_reducible first | exact K1.out _ | exact K2.out _))))
        iterate 8 (try (first | go_big_quiet_step ((with_reducible first | exact K1.out _ | exact K2.out _)) | quiet_step ((with_reducible first | exact K1.out _ | exact K2.out _))))
        refine wpQuiet_nil ?_
        rintro ⟨wm, hbm⟩
        try dsimp only
        have hZ7 := HZ5.out.below hbm
        have hZ8 := HZ6.out.below hbm
        have HwM := Lib.hid (HwZ.out.trans (hbm.mono HwZ.out.size))
        have y0 := hZ7.cell 0
        have y1 := hZ7.cell 1
        have y2 := hZ8.cell 0
        have y3 := hZ8.cell 1
        have g0 := hZ7.frozen 0
        have g1 := hZ7.frozen 1
        have g2 := hZ8.frozen 0
        have g3 := hZ8.frozen 1
        have yl := hZ7.lt
        have yl2 := hZ8.lt
        simp only [List.getElem?_cons_zero, List.getElem?_cons_succ] at y0 y1 y2 y3
        have HZ7 := Lib.hid hZ7
        have HZ8 := Lib.hid hZ8
        clear hZ7 hZ8 hbm
        go_wp2_with fail
        have q1 := (((HZ7.out.set 0 (.int .i64 A1)).set 1 (.int .i64 A2)).far (p := ⟨w.heap.size + 2, 0, none⟩) (by simp) (.int .i64 B1)).far (p := ⟨w.heap.size + 2, 1, none⟩) (by simp) (.int .i64 B2)
        have q2 := (((HZ8.out.far (p := ⟨w.heap.size + 1, 0, none⟩) (by simp) (.int .i64 A1)).far (p := ⟨w.heap.size + 1, 1, none⟩) (by simp) (.int .i64 A2)).set 0 (.int .i64 B1)).set 1 (.int .i64 B2)
        refine bodyPost_ret (ret_cells2_tmp rfl _ _ rfl rfl q1 q2 Tryz.underlying41 Tryz.underlying41 rfl rfl (by kernel_rfl) (by kernel_rfl)) rfl ⟨by rw [HV.out]; rfl, ?_⟩
        exact (((HwM.out.setCell (p := ⟨w.heap.size + 1, 0, none⟩) (Nat.le_succ _) _).setCell (p := ⟨w.heap.size + 1, 1, none⟩) (Nat.le_succ _) _).setCell (p := ⟨w.heap.size + 2, 0, none⟩) (by simp) _).setCell (p := ⟨w.heap.size + 2, 1, none⟩) (by simp) _
    · go_simp
      have hX1 : Below W.heap.size W (W.drew.alloc (Obj.cells z7L.toArray 129)) := (Below.drew (Below.refl _ _)).alloc (Nat.le_refl _) _
      refine HK.out _ _ (fun _ => hX1) (fun _ => ?_)
      clear HK K
      try simp only [puts]
      refine WpK.one (i := 2) (by kernel_rfl) ((toArray_at _ _).trans rfl) ?_
      intro K hK
      have HK := Lib.hid hK
      clear hK
      go_simp
      refine (rAll_any F _ _ _ (HFW.out.below (hX1)) hO.n).mono ?_
      rintro e W2 ⟨vI, rfl, hb2, hI2⟩
      have hW2 : Below W.heap.size W W2 := hX1.trans (hb2.mono hX1.size)
      refine HK.out _ _ (fun _ => hW2) (fun _ => ?_)
      clear HK K
      try simp only [puts]
      refine WpK.one (i := 3) (by kernel_rfl) ((toArray_at _ _).trans rfl) ?_
      intro K hK
      have HK := Lib.hid hK
      clear hK
      go_simp
      refine (Of_any F _ _ _ (allL F) _ (HFW.out.below hW2) hO (hI2) (allL_ok F) hlen).mono ?_
      rintro e W3 ⟨s, rfl, hb3, hS3⟩
      have hW3 : Below W.heap.size W W3 := hW2.trans (hb3.mono hW2.size)
      refine HK.out _ _ (fun _ => hW3) (fun _ => ?_)
      clear HK K
      try simp only [puts]
      have hS0 := hW3
      refine WpK.take (i := 4) (v := ?_) ((toArray_at _ _).trans rfl) (by kernel_rfl) (by kernel_rfl) (by kernel_rfl) (by kernel_rfl) (by kernel_rfl) (fun _ _ _ h => h) (Or.inl ⟨by rfl, ?_⟩) hS0 ?_
      rotate_left
      · (intro x hx; clear hx; go_simp <;> with_reducible rfl)
      try simp only [Act.put, puts]
      refine WpK.take (i := 5) (v := ?_) ((toArray_at _ _).trans rfl) (by kernel_rfl) (by kernel_rfl) (by kernel_rfl) (by kernel_rfl) (by kernel_rfl) (fun _ _ _ h => h) (Or.inl ⟨by rfl, ?_⟩) hS0 ?_
      rotate_left
      · (intro x hx; clear hx; go_simp <;> with_reducible rfl)
      try simp only [Act.put, puts]
      refine WpK.take (i := 6) (v := ?_) ((toArray_at _ _).trans rfl) (by kernel_rfl) (by kernel_rfl) (by kernel_rfl) (by kernel_rfl) (by kernel_rfl) (fun _ _ _ h => h) (Or.inl ⟨by rfl, ?_⟩) hS0 ?_
      rotate_left
      · (intro x hx; clear hx; go_simp <;> with_reducible rfl)
      try simp only [Act.put, puts]
      clear hS0
      have hX := hW3
      have hBx : Bk W3 W.heap.size 129 z7L := ((Bk.new W.drew 129 z7L).below hb2).below hb3
      have hOx := hS3
      have hne : s.ownBlock ≠ some W.heap.size := fun e => by have := (World.ownsRow.lt hS3 _ e).1; have := hb2.size; simp at this; omega
      have hbk : W.heap.size ≤ W.heap.size := Nat.le_refl _
      refine WpK.one (i := 8) (by kernel_rfl) ((toArray_at _ _).trans rfl) ?_
      intro K hK
      have HK := Lib.hid hK
      clear hK
      go_simp
      refine HK.out _ _ (fun _ => hX) (fun _ => ?_)
      clear HK K
      try simp only [puts]
      refine WpK.one (i := 9) (by kernel_rfl) ((toArray_at _ _).trans rfl) ?_
      intro K hK
      have HK := Lib.hid hK
      clear hK
      refine step_st rfl rfl rfl (cs := inC (rnR F (allL F))) rfl hBx (by kernel_rfl) rfl rfl ?_
      intro WX hkk hsk
      refine HK.out _ _ (fun h => absurd h (by decide)) (fun _ => ?_)
      clear HK K
      try simp only [puts]
      refine WpK.done (by kernel_rfl) ?_
      have hOs := owns_base (base' := W.heap.size) (owns_bes' hOx hsk hne) ((by have := hW2.size; omega))
      have hWX := bes_then hX hsk hbk hX.size
      have HKK := Lib.hid hkk
      have HOS := Lib.hid hOs
      have HWX := Lib.hid hWX
      have HNE := Lib.hid hne
      have HBKK := Lib.hid hbk
      clear hkk hOs hWX hne hsk hX hBx hOx
      have hRow := OwnRl.row HOS.out
      have HROW := Lib.hid hRow
      have HZ1 := Lib.hid (HZ1w.out.below HWX.out)
      have HZ2 := Lib.hid (HZ2w.out.below HWX.out)
      have HwX := Lib.hid (HwW.out.trans (HWX.out.mono HwW.out.size))
      have HBK := Lib.hid (show w.heap.size + 2 < W.heap.size by have := HZ2w.out.lt; have := hbk; omega)
      clear hRow
      go_wp2_with (first | (refine ld_at rfl (T := 129) rfl rfl HKK.out Tryz.underlying129 rfl (by kernel_rfl) ?_) | fail)
      refine (Left_any (linesL F (allL F)) (rnR F (allL F)) _ WX HROW.out HL.out HR.out).mono ?_
      rw [HS.out]
      rintro e W4 ⟨rfl, hb4⟩
      have hK4 := HKK.out.below hb4
      have HZ3 := Lib.hid (HZ1.out.below hb4)
      have HZ4 := Lib.hid (HZ2.out.below hb4)
      have HwY := Lib.hid (HwX.out.trans (hb4.mono HwX.out.size))
      clear hb4
      go_wp2_with (refine st_at rfl (T := 129) rfl rfl (cs := inC S) rfl hK4 (by kernel_rfl) rfl rfl ?_; intro W5 hk5 hs5)
      have HZ5 := Lib.hid (HZ3.out.bes hs5 (by have := HBK.out; omega))
      have HZ6 := Lib.hid (HZ4.out.bes hs5 (by have := HBK.out; omega))
      have HwZ := Lib.hid (bes_then HwY.out hs5 (by have := HBK.out; omega) HwY.out.size)
      have x0 := hk5.cell 0
      have x1 := hk5.cell 1
      have x2 := hk5.cell 2
      have x3 := hk5.cell 3
      have xl := hk5.lt
      simp only [inC, List.getElem?_cons_zero, List.getElem?_cons_succ] at x0 x1 x2 x3
      have mc := @more_cell W5
      have k1 : ∀ i : More W5, _ := fun i => more_call (HWR1.out i.x)
      have k2 : ∀ i : More W5, _ := fun i => more_call (HWR2.out i.x)
      have K1 := Lib.hid k1
      have K2 := Lib.hid k2
      clear k1 k2 hk5 hs5 hK4
      refine wp_head_more [0, 1, 2, 3, 4, 5] [6, 7, 8] (by kernel_rfl) (by kernel_rfl) ?_
      simp only [hPick, List.getElem?_cons_zero, List.getElem?_cons_succ]
      iterate 8 (try (first | go_big_quiet_step ((with_reducible first | exact K1.out _ | exact K2.out _)) | quiet_step ((with_reducible first | exact K1.out _ | exact K2.out _))))
      iterate 8 (try (first | go_big_quiet_step ((with_reducible first | exact K1.out _ | exact K2.out _)) | quiet_step ((with_reducible first | exact K1.out _ | exact K2.out _))))
      iterate 8 (try (first | go_big_quiet_step ((with_reducible first | exact K1.out _ | exact K2.out _)) | quiet_step ((with_reducible first | exact K1.out _ | exact K2.out _))))
      iterate 8 (try (first | go_big_quiet_step ((with_reducible first | exact K1.out _ | exact K2.out _)) | quiet_step ((with_reducible first | exact K1.out _ | exact K2.out _))))
      iterate 8 (try (first | go_big_quiet_step ((with_reducible first | exact K1.out _ | exact K2.out _)) | quiet_step ((with_reducible first | exact K1.out _ | exact K2.out _))))
      refine wpQuiet_nil ?_
      rintro ⟨wm, hbm⟩
      try dsimp only
      have hZ7 := HZ5.out.below hbm
      have hZ8 := HZ6.out.below hbm
      have HwM := Lib.hid (HwZ.out.trans (hbm.mono HwZ.out.size))
      have y0 := hZ7.cell 0
      have y1 := hZ7.cell 1
      have y2 := hZ8.cell 0
      have y3 := hZ8.cell 1
      have g0 := hZ7.frozen 0
      have g1 := hZ7.frozen 1
      have g2 := hZ8.frozen 0
      have g3 := hZ8.frozen 1
      have yl := hZ7.lt
      have yl2 := hZ8.lt
      simp only [List.getElem?_cons_zero, List.getElem?_cons_succ] at y0 y1 y2 y3
      have HZ7 := Lib.hid hZ7
      have HZ8 := Lib.hid hZ8
      clear hZ7 hZ8 hbm
      go_wp2_with fail
      have q1 := (((HZ7.out.set 0 (.int .i64 A1)).set 1 (.int .i64 A2)).far (p := ⟨w.heap.size + 2, 0, none⟩) (by simp) (.int .i64 B1)).far (p := ⟨w.heap.size + 2, 1, none⟩) (by simp) (.int .i64 B2)
      have q2 := (((HZ8.out.far (p := ⟨w.heap.size + 1, 0, none⟩) (by simp) (.int .i64 A1)).far (p := ⟨w.heap.size + 1, 1, none⟩) (by simp) (.int .i64 A2)).set 0 (.int .i64 B1)).set 1 (.int .i64 B2)
      refine bodyPost_ret (ret_cells2_tmp rfl _ _ rfl rfl q1 q2 Tryz.underlying41 Tryz.underlying41 rfl rfl (by kernel_rfl) (by kernel_rfl)) rfl ⟨by rw [HV.out]; rfl, ?_⟩
      exact (((HwM.out.setCell (p := ⟨w.heap.size + 1, 0, none⟩) (Nat.le_succ _) _).setCell (p := ⟨w.heap.size + 1, 1, none⟩) (Nat.le_succ _) _).setCell (p := ⟨w.heap.size + 2, 0, none⟩) (by simp) _).setCell (p := ⟨w.heap.size + 2, 1, none⟩) (by simp) _
  · rw [if_neg h0]
    have hne : (c == 0) = false := by simpa using h0
    clear hc h0 hF hBox hZ1 hZ2 hE
    go_enter Tryz.func48, Tryz.ntmps48
    go_wp2_with (first | (refine ld_at rfl (T := 30) rfl rfl HB.out Tryz.underlying30 rfl (by kernel_rfl) ?_) | fail)
    refine (rasked_any F vv vs 0 0 _ HF0.out).mono ?_
    rw [HE.out]
    rintro e w1 ⟨rfl, hb⟩
    have hZ7 := HZ1.out.below hb
    have hZ8 := HZ2.out.below hb
    have HwM := Lib.hid (bafter (bafter (bafter hb)))
    have y0 := hZ7.cell 0
    have y1 := hZ7.cell 1
    have y2 := hZ8.cell 0
    have y3 := hZ8.cell 1
    have g0 := hZ7.frozen 0
    have g1 := hZ7.frozen 1
    have g2 := hZ8.frozen 0
    have g3 := hZ8.frozen 1
    have yl := hZ7.lt
    have yl2 := hZ8.lt
    simp only [List.getElem?_cons_zero, List.getElem?_cons_succ] at y0 y1 y2 y3
    have HZ7 := Lib.hid hZ7
    have HZ8 := Lib.hid hZ8
    clear hZ7 hZ8 hb
    go_wp2_with fail
    have q1 := (((HZ7.out.set 0 (.int .i64 0)).set 1 (.int .i64 0)).far (p := ⟨w.heap.size + 2, 0, none⟩) (by simp) (.int .i64 0)).far (p := ⟨w.heap.size + 2, 1, none⟩) (by simp) (.int .i64 0)
    have q2 := (((HZ8.out.far (p := ⟨w.heap.size + 1, 0, none⟩) (by simp) (.int .i64 0)).far (p := ⟨w.heap.size + 1, 1, none⟩) (by simp) (.int .i64 0)).set 0 (.int .i64 0)).set 1 (.int .i64 0)
    refine bodyPost_ret (ret_cells2_tmp rfl _ _ rfl rfl q1 q2 Tryz.underlying41 Tryz.underlying41 rfl rfl (by kernel_rfl) (by kernel_rfl)) rfl ⟨rfl, ?_⟩
    exact (((HwM.out.setCell (p := ⟨w.heap.size + 1, 0, none⟩) (Nat.le_succ _) _).setCell (p := ⟨w.heap.size + 1, 1, none⟩) (Nat.le_succ _) _).setCell (p := ⟨w.heap.size + 2, 0, none⟩) (by simp) _).setCell (p := ⟨w.heap.size + 2, 1, none⟩) (by simp) _
end Go.Proofs.YtnfndiafabhhdaaGreat
