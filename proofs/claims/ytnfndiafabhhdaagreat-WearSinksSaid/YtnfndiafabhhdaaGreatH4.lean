/- Walk of the reference's Sinks where something is known (Wear). -/
import Derived.Test.YtnfndiafabhhdaaGreatH3
import Derived.Deep.CutRange
import Derived.Test.YtnfndiafabhhdaaGreatF1
namespace Go.Proofs.YtnfndiafabhhdaaGreat
open Go.ChangeShapes Go.WideShapes Go.ChangeAt Go.RowKit
set_option maxRecDepth 100000 in
set_option maxHeartbeats 8000000 in
theorem rSinks_yes (F : Fl) (vv vs : Value) (x y : Int) (w : World) (hF : FlIn w F vv vs) (ho : okFl F = true) (hcan : canI F (allL F) = true) (y0 : 0 ≤ y) (yx : y ≤ x) (xn : x ≤ hgt F.v) :
    Calls Tryz.prog 27 #[flV F vv vs, .int .i64 x, .int .i64 y] w fun e w' => e = .returned (.tuple #[.agg #[.int .i64 (skLo F (knR F).hi x y), .int .i64 (skHi F (knR F).lo x y)], .int .i64 0]) ∧ Below w.heap.size w w' := by
  have hO := (okFl_iff F).1 ho
  have hv := (okv_iff F.v).1 hO.v
  have hHt := (pt_bd hv (Nat.le_refl _)).1
  have hh : hgt F.v = vX F.v F.v.length := rfl
  rw [← hh] at hHt
  have HF00 := Lib.hid hF
  have HF0 := Lib.hid ((hF.alloc (flO F vv vs)).alloc (Obj.cells #[.int .i64 0, .int .i64 0] 27))
  have HB := Lib.hid ((Bk.new w 30 (flL' F vv vs)).alloc (Obj.cells #[.int .i64 0, .int .i64 0] 27))
  have HZ0 := Lib.hid (Bk.new1 w (flO F vv vs) 27 [.int .i64 0, .int .i64 0])
  have hlen : (allL F).length ≤ 1000 := by rw [all_len]; have := hO.n; omega
  have hR := rnR_c hO (allL F)
  have hL := lines_B1 hO (allL_ok F)
  have hI : ∀ i ∈ allL F, i < F.s.length := fun i hi => (allL_ok F i hi).2
  obtain ⟨s1, s2, s3, s4⟩ := solved_same hO hI
  have hso : (solvedW F (allL F)).some = true := hcan
  have e1 := same_lo s1 s2 s4 hso
  have e2 := same_hi s1 s2 s4 hso
  have hRC : RnC (leftR (rnR F (allL F)) (linesL F (allL F))) := outR_bd hL hL hR
  have hs : leftR (rnR F (allL F)) (linesL F (allL F)) = solvedR F (allL F) := rfl
  have B := knR_B hO
  have hk := knR_eq hcan
  obtain ⟨Q1w, Q2w⟩ := kn_quarter hO hcan
  rw [← hk] at e1 e2
  obtain ⟨S, hS⟩ : ∃ S, solvedR F (allL F) = S := ⟨_, rfl⟩
  rw [hs, hS] at hRC
  rw [hS] at e1 e2 hs
  have p1 : 0 < S.hi.n := by
    have := Int.mul_pos B.c0 hRC.d0
    rcases Int.lt_or_le 0 S.hi.n with k | k
    · exact k
    · have := Int.mul_nonpos_of_nonpos_of_nonneg k (Int.le_of_lt B.d0)
      omega
  have D0 : 0 < skD F x y := (sk_q hO B.c0 B.d0 Q2w y0 yx xn).2.2.1
  have v1 : skLo F (knR F).hi x y = skLo F S.hi x y := (div_eqv D0 B.c0 p1 e2).1
  have v2 : skHi F (knR F).lo x y = skHi F S.lo x y := (div_eqv D0 B.a0 hRC.a0 e1).2
  have w1 := rsink_lo hO p1 hRC.d0 (quarter_eq B.d0 B.c0 e2 Q2w p1) y0 yx xn
  have w2 := rsink_hi hO hRC.a0 hRC.b0 (quarter_eq B.b0 B.a0 e1 Q1w hRC.a0) y0 yx xn
  rw [v1, v2, ← w1, ← w2]
  have hC := Lib.hid (show chkF F = 0 by unfold chkF; rw [if_pos ho])
  have hE0 : rdE F (asR F 0 0) = 0 := by
    have h2 : asR F 0 0 = true := by unfold asR; rw [inB_mk (by omega) (by omega), inB_mk (by omega) (by omega)]; rfl
    unfold rdE
    rw [if_pos ho, h2, if_pos rfl, if_pos hcan]
  have HE := Lib.hid hE0
  have HC := hC
  have gH := fun w h => Height_any F.v vv w h hv
  have gT : ∀ (z : Int) (w : World), 0 ≤ z → z ≤ hgt F.v → RgR w vv F.v → Calls Tryz.prog 74 #[vv, .int .i64 z] w fun e w' => e = .returned (.agg #[.int .i64 (tmN F.v z), .int .i64 (tmD F.v z)]) ∧ Below w.heap.size w w' := fun z w k0 k1 h => Time_any F.v vv z w h hv k0 k1
  obtain ⟨⟨ta1, ta2⟩, ta3, ta4⟩ := tm_bd hO.v (show 0 ≤ x by omega) xn
  obtain ⟨⟨tb1, tb2⟩, tb3, tb4⟩ := tm_bd hO.v y0 (show y ≤ vX F.v F.v.length by rw [← hh]; omega)
  obtain ⟨an, han⟩ : ∃ t, tmN F.v x = t := ⟨_, rfl⟩
  obtain ⟨ad, had⟩ : ∃ t, tmD F.v x = t := ⟨_, rfl⟩
  obtain ⟨bn, hbn⟩ : ∃ t, tmN F.v y = t := ⟨_, rfl⟩
  obtain ⟨bd, hbd⟩ : ∃ t, tmD F.v y = t := ⟨_, rfl⟩
  have hNN : skN F x y = an * bd - bn * ad := by unfold skN; rw [han, had, hbn, hbd]
  have hDD : skD F x y = ad * bd := by unfold skD; rw [had, hbd]
  rw [han] at ta1 ta2
  rw [had] at ta3 ta4
  rw [hbn] at tb1 tb2
  rw [hbd] at tb3 tb4
  rw [hNN, hDD]
  have XN := Lib.hid han
  have XD := Lib.hid had
  have YN := Lib.hid hbn
  have YD := Lib.hid hbd
  have m1 := mul_bd ta1 ta2 (Int.le_of_lt tb3) tb4
  have m2 := mul_bd tb1 tb2 (Int.le_of_lt ta3) ta4
  have m3 := mul_bd (Int.le_of_lt ta3) ta4 (Int.le_of_lt tb3) tb4
  have m4 : 0 < ad * bd := Int.mul_pos ta3 tb3
  have m5 : ∀ n : Int, 0 < n → n ≤ 2097152 → 0 < ad * bd * n ∧ ad * bd * n ≤ 1000000 * 2097152 := fun n k0 k1 => ⟨Int.mul_pos m4 k0, (mul_bd (Int.le_of_lt m4) (by omega) (Int.le_of_lt k0) k1).2⟩
  have gL : ∀ (n : Int) (w : World), 0 < n → n ≤ 2097152 → Calls Tryz.prog 95 #[.agg #[.int .i64 an, .int .i64 ad], .agg #[.int .i64 bn, .int .i64 bd], .int .i64 n] w fun e w' => e = .returned (.agg #[.int .i64 (an * bd - bn * ad), .int .i64 (ad * bd * n)]) ∧ Below w.heap.size w w' := fun n w k0 k1 => rless_any an ad bn bd n w (by omega) (by omega) (by omega) (by have := m5 n k0 k1; omega)
  have gHi : ∀ (n : Int) (w : World), 0 < n → n ≤ 2097152 → Calls Tryz.prog 94 #[.agg #[.int .i64 S.hi.n, .int .i64 S.hi.d], .agg #[.int .i64 (an * bd - bn * ad), .int .i64 (ad * bd * n)]] w fun e w' => e = .returned (.int .i64 (sgn (S.hi.n * (ad * bd * n) - (an * bd - bn * ad) * S.hi.d))) ∧ Below w.heap.size w w' := fun n w k0 k1 => order_any S.hi.n S.hi.d (an * bd - bn * ad) (ad * bd * n) w (by omega) (by have := hRC.c1; omega) hRC.d0 (by have := hRC.d1; omega) (by omega) (by omega) (m5 n k0 k1).1 (by have := m5 n k0 k1; omega)
  have gLo : ∀ (n : Int) (w : World), 0 < n → n ≤ 2097152 → Calls Tryz.prog 94 #[.agg #[.int .i64 S.lo.n, .int .i64 S.lo.d], .agg #[.int .i64 (an * bd - bn * ad), .int .i64 (ad * bd * n)]] w fun e w' => e = .returned (.int .i64 (sgn (S.lo.n * (ad * bd * n) - (an * bd - bn * ad) * S.lo.d))) ∧ Below w.heap.size w w' := fun n w k0 k1 => order_any S.lo.n S.lo.d (an * bd - bn * ad) (ad * bd * n) w (by have := hRC.a0; omega) (by have := hRC.a1; omega) hRC.b0 (by have := hRC.b1; omega) (by omega) (by omega) (m5 n k0 k1).1 (by have := m5 n k0 k1; omega)
  obtain ⟨P1, hP1⟩ : ∃ P, siP (an * bd - bn * ad) (ad * bd) S.hi.n S.hi.d = P := ⟨_, rfl⟩
  obtain ⟨Q1, hQ1⟩ : ∃ P, siQ (an * bd - bn * ad) (ad * bd) S.lo.n S.lo.d = P := ⟨_, rfl⟩
  have HP1 := Lib.hid (show ∀ n, P1 n = !decide (sgn (S.hi.n * (ad * bd * n) - (an * bd - bn * ad) * S.hi.d) ≤ 0) from fun n => by
    rw [← hP1]
    unfold siP
    congr 2
    have := sgn_gt (S.hi.n * (ad * bd * n) - (an * bd - bn * ad) * S.hi.d)
    rw [eq_iff_iff]
    omega)
  have HQ1 := Lib.hid (show ∀ n, 0 < n → Q1 n = !decide (0 ≤ sgn (S.lo.n * (ad * bd * n) - (an * bd - bn * ad) * S.lo.d)) from fun n k => by
    rw [← hQ1]
    unfold siQ
    rw [show decide (0 < n) = true by simpa using k, Bool.true_and]
    congr 2
    have := sgn_lt (S.lo.n * (ad * bd * n) - (an * bd - bn * ad) * S.lo.d)
    rw [eq_iff_iff]
    omega)
  have HQ0 := Lib.hid (show ∀ n, ¬ 0 < n → Q1 n = true from fun n k => by
    rw [← hQ1]
    unfold siQ
    rw [show decide (0 < n) = false by simpa using k]
    rfl)
  rw [hP1, hQ1]
  obtain ⟨X, hXX⟩ : ∃ t, lastNot P1 24 0 2097152 = t := ⟨_, rfl⟩
  obtain ⟨Yv, hYY⟩ : ∃ t, firstNot Q1 24 0 (if x = y then 0 else 2097152) = t := ⟨_, rfl⟩
  rw [hXX, hYY]
  have HXX := Lib.hid hXX
  have HYY := Lib.hid hYY
  have HS := Lib.hid hs
  have HR := Lib.hid hR
  have HL := Lib.hid hL
  have GT := Lib.hid gT
  have GL := Lib.hid gL
  have GH := Lib.hid gHi
  have GLo := Lib.hid gLo
  have HH := Lib.hid gH
  clear gT gL gHi gLo gH hP1 hQ1 hXX hYY hs hR hL m1 m2 m3 m4 m5 ta1 ta2 ta3 ta4 tb1 tb2 tb3 tb4 han had hbn hbd hNN hDD w1 w2 v1 v2 D0 p1 hS e1 e2 hk B hRC Q1w Q2w hso s1 s2 s3 s4 hI hcan ho hF hE0 hC hh
  obtain ⟨ov, cv, rfl, mv⟩ := HF00.out.v.parts
  obtain ⟨lv, hlv⟩ : ∃ n, F.v.length = n := ⟨_, rfl⟩
  rw [hlv] at mv HF00 HF0 HB HZ0 HH GT ⊢
  clear hlv
  go_enter Tryz.func27, Tryz.ntmps27
  go_wp2_with (first | (refine ld_at rfl (T := 30) rfl rfl HB.out Tryz.underlying30 rfl (by kernel_rfl) ?_) | fail)
  refine (rCheck_any F _ _ _ HF0.out).mono ?_
  rw [HC.out]
  rintro e w1 ⟨rfl, hb⟩
  have HB1 := Lib.hid (HB.out.below hb)
  have HZ1 := Lib.hid (HZ0.out.below hb)
  have HW1 := Lib.hid (bafter (bafter hb))
  have HF1 := Lib.hid (HF0.out.below hb)
  have c0 := HB1.out.cell 0
  have cl := HB1.out.lt
  simp only [List.getElem?_cons_zero] at c0
  clear hb
  go_wp2_with fail
  refine (HH.out _ HF1.out.v).mono ?_
  rintro e w2 ⟨rfl, rfl⟩
  go_wp2_with (first | (refine ld_at rfl (T := 30) rfl rfl HB1.out Tryz.underlying30 rfl (by kernel_rfl) ?_) | fail)
  refine (rasked_any F _ _ 0 0 _ HF1.out).mono ?_
  rw [HE.out]
  rintro e W ⟨rfl, hb⟩
  have hBW := HB1.out.below hb
  have HBw := Lib.hid hBW
  have HFW := Lib.hid (HF1.out.below hb)
  have HZw := Lib.hid (HZ1.out.below hb)
  have HwW := Lib.hid (bthen HW1.out hb)
  have c0 := hBW.cell 0
  have c1 := hBW.cell 1
  have c2 := hBW.cell 2
  have c3 := hBW.cell 3
  have c4 := hBW.cell 4
  have c5 := hBW.cell 5
  have cl := hBW.lt
  simp only [List.getElem?_cons_zero, List.getElem?_cons_succ] at c0 c1 c2 c3 c4 c5
  clear hb hBW HB HZ0 HF0 HB1 HZ1 HW1 HF1
  go_upto_region 10 with fail
  go_cut [10, 11] from 51 to 57 (fun s p wx => ∃ xb, p = .pointer (some ⟨xb, 0, none⟩) ∧ W.heap.size ≤ xb ∧ s.ownBlock ≠ some xb ∧ Hid (Bk wx xb 129 (inC (rnR F (allL F)))) ∧ Hid (OwnRl wx W.heap.size s (linesL F (allL F))) ∧ Hid (Below W.heap.size W wx))
  case first =>
    refine WpK.begin (S := fun _ => True) (kp := fun _ => true) (f := 10) (up := #[false, false, false, false, false, false, false, false, false, false]) (by kernel_rfl) (by kernel_rfl) (by kernel_rfl) ?_
    refine WpK.weaken (S := fun x => Below W.heap.size W x) (kp := (fun i => decide (i < 9))) (fun _ => trivial) _ ?_
    have hS0 := (show Below W.heap.size W W.drew from (Below.refl _ _).drew)
    refine WpK.take (i := 0) (v := ?_) ((toArray_at _ _).trans rfl) (by kernel_rfl) (by kernel_rfl) (by kernel_rfl) (by kernel_rfl) (by kernel_rfl) (fun _ _ _ h => h) (Or.inl ⟨by rfl, ?_⟩) hS0 ?_
    rotate_left
    · (intro x hx; obtain ⟨hcx, hfx⟩ := bcell hx; go_simp <;> with_reducible rfl)
    try simp only [Act.put, puts]
    refine WpK.take (i := 1) (v := ?_) ((toArray_at _ _).trans rfl) (by kernel_rfl) (by kernel_rfl) (by kernel_rfl) (by kernel_rfl) (by kernel_rfl) (fun _ _ _ h => h) (Or.inl ⟨by rfl, ?_⟩) hS0 ?_
    rotate_left
    · (intro x hx; obtain ⟨hcx, hfx⟩ := bcell hx; go_simp <;> with_reducible rfl)
    try simp only [Act.put, puts]
    clear hS0 c0 c1 c2 c3 c4 c5
    refine WpK.two (i := 2) (k := 7) (by kernel_rfl) ((toArray_at _ _).trans rfl) ((toArray_at _ _).trans rfl) ?_ ?_
    all_goals
      intro K hK
      have HK := Lib.hid hK
      clear hK
    · go_simp
      refine (rAll_any F _ _ _ (HFW.out.below ((Below.drew (Below.refl _ _)))) hO.n).mono ?_
      rintro e W2 ⟨vI, rfl, hb2, hI2⟩
      have hW2 : Below W.heap.size W W2 := Below.trans (Below.drew (Below.refl _ _)) hb2
      refine HK.out _ _ (fun _ => hW2) (fun _ => ?_)
      clear HK K
      try simp only [puts]
      refine WpK.two (i := 3) (k := 7) (by kernel_rfl) ((toArray_at _ _).trans rfl) ((toArray_at _ _).trans rfl) ?_ ?_
      all_goals
        intro K hK
        have HK := Lib.hid hK
        clear hK
      · go_simp
        refine (Of_any F _ _ _ (allL F) _ (HFW.out.below hW2) hO (hI2) (allL_ok F) hlen).mono ?_
        rintro e W3 ⟨s, rfl, hb3, hS3⟩
        have hW3 : Below W.heap.size W W3 := hW2.trans (hb3.mono hW2.size)
        refine HK.out _ _ (fun _ => hW3) (fun _ => ?_)
        clear HK K
        try simp only [puts]
        have hS0 := hW3
        refine WpK.take (i := 4) (v := ?_) ((toArray_at _ _).trans rfl) (by kernel_rfl) (by kernel_rfl) (by kernel_rfl) (by kernel_rfl) (by kernel_rfl) (fun _ _ _ h => h) (Or.inl ⟨by rfl, ?_⟩) hS0 ?_
        rotate_left
        · (intro x hx; clear hx; go_simp <;> with_reducible rfl)
        try simp only [Act.put, puts]
        refine WpK.take (i := 5) (v := ?_) ((toArray_at _ _).trans rfl) (by kernel_rfl) (by kernel_rfl) (by kernel_rfl) (by kernel_rfl) (by kernel_rfl) (fun _ _ _ h => h) (Or.inl ⟨by rfl, ?_⟩) hS0 ?_
        rotate_left
        · (intro x hx; clear hx; go_simp <;> with_reducible rfl)
        try simp only [Act.put, puts]
        refine WpK.take (i := 6) (v := ?_) ((toArray_at _ _).trans rfl) (by kernel_rfl) (by kernel_rfl) (by kernel_rfl) (by kernel_rfl) (by kernel_rfl) (fun _ _ _ h => h) (Or.inl ⟨by rfl, ?_⟩) hS0 ?_
        rotate_left
        · (intro x hx; clear hx; go_simp <;> with_reducible rfl)
        try simp only [Act.put, puts]
        clear hS0
        refine WpK.one (i := 7) (by kernel_rfl) ((toArray_at _ _).trans rfl) ?_
        intro K hK
        have HK := Lib.hid hK
        clear hK
        go_simp
        have hX : Below W.heap.size W (W3.alloc (Obj.cells z7L.toArray 129)) := hW3.alloc hW3.size _
        refine HK.out _ _ (fun _ => hX) (fun _ => ?_)
        clear HK K
        try simp only [puts]
        have hBx := Bk.new W3 129 z7L
        have hOx := owns_below hS3 (ballo W3 (Obj.cells z7L.toArray 129))
        have hne : s.ownBlock ≠ some W3.heap.size := fun e => by have := (World.ownsRow.lt hS3 _ e).2; omega
        have hbk : W.heap.size ≤ W3.heap.size := hW3.size
        refine WpK.one (i := 8) (by kernel_rfl) ((toArray_at _ _).trans rfl) ?_
        intro K hK
        have HK := Lib.hid hK
        clear hK
        go_simp
        refine HK.out _ _ (fun _ => hX) (fun _ => ?_)
        clear HK K
        try simp only [puts]
        refine WpK.one (i := 9) (by kernel_rfl) ((toArray_at _ _).trans rfl) ?_
        intro K hK
        have HK := Lib.hid hK
        clear hK
        refine step_st rfl rfl rfl (cs := inC (rnR F (allL F))) rfl hBx (by kernel_rfl) rfl rfl ?_
        intro WX hkk hsk
        refine HK.out _ _ (fun h => absurd h (by decide)) (fun _ => ?_)
        clear HK K
        try simp only [puts]
        refine WpK.done (by kernel_rfl) ?_
        have hOs := owns_base (base' := W.heap.size) (owns_bes' hOx hsk hne) ((by have := hW2.size; omega))
        have hWX := bes_then hX hsk hbk hX.size
        have HKK := Lib.hid hkk
        have HOS := Lib.hid hOs
        have HWX := Lib.hid hWX
        have HNE := Lib.hid hne
        have HBKK := Lib.hid hbk
        clear hkk hOs hWX hne hsk hX hBx hOx
        go_wp2_with fail
        go_meet
        case rel => exact ⟨_, rfl, HBKK.out, HNE.out, HKK, HOS, HWX⟩
      · go_simp
        have hX2 : Below W.heap.size W (W2.alloc (Obj.cells z7L.toArray 129)) := hW2.alloc hW2.size _
        refine HK.out _ _ (fun _ => hX2) (fun _ => ?_)
        clear HK K
        try simp only [puts]
        refine WpK.one (i := 3) (by kernel_rfl) ((toArray_at _ _).trans rfl) ?_
        intro K hK
        have HK := Lib.hid hK
        clear hK
        go_simp
        refine (Of_any F _ _ _ (allL F) _ (HFW.out.below hX2) hO (hI2.alloc _) (allL_ok F) hlen).mono ?_
        rintro e W3 ⟨s, rfl, hb3, hS3⟩
        have hW3 : Below W.heap.size W W3 := hX2.trans (hb3.mono hX2.size)
        refine HK.out _ _ (fun _ => hW3) (fun _ => ?_)
        clear HK K
        try simp only [puts]
        have hS0 := hW3
        refine WpK.take (i := 4) (v := ?_) ((toArray_at _ _).trans rfl) (by kernel_rfl) (by kernel_rfl) (by kernel_rfl) (by kernel_rfl) (by kernel_rfl) (fun _ _ _ h => h) (Or.inl ⟨by rfl, ?_⟩) hS0 ?_
        rotate_left
        · (intro x hx; clear hx; go_simp <;> with_reducible rfl)
        try simp only [Act.put, puts]
        refine WpK.take (i := 5) (v := ?_) ((toArray_at _ _).trans rfl) (by kernel_rfl) (by kernel_rfl) (by kernel_rfl) (by kernel_rfl) (by kernel_rfl) (fun _ _ _ h => h) (Or.inl ⟨by rfl, ?_⟩) hS0 ?_
        rotate_left
        · (intro x hx; clear hx; go_simp <;> with_reducible rfl)
        try simp only [Act.put, puts]
        refine WpK.take (i := 6) (v := ?_) ((toArray_at _ _).trans rfl) (by kernel_rfl) (by kernel_rfl) (by kernel_rfl) (by kernel_rfl) (by kernel_rfl) (fun _ _ _ h => h) (Or.inl ⟨by rfl, ?_⟩) hS0 ?_
        rotate_left
        · (intro x hx; clear hx; go_simp <;> with_reducible rfl)
        try simp only [Act.put, puts]
        clear hS0
        have hX := hW3
        have hBx := (Bk.new W2 129 z7L).below hb3
        have hOx := hS3
        have hne : s.ownBlock ≠ some W2.heap.size := fun e => by have := (World.ownsRow.lt hS3 _ e).1; simp at this; omega
        have hbk : W.heap.size ≤ W2.heap.size := hW2.size
        refine WpK.one (i := 8) (by kernel_rfl) ((toArray_at _ _).trans rfl) ?_
        intro K hK
        have HK := Lib.hid hK
        clear hK
        go_simp
        refine HK.out _ _ (fun _ => hX) (fun _ => ?_)
        clear HK K
        try simp only [puts]
        refine WpK.one (i := 9) (by kernel_rfl) ((toArray_at _ _).trans rfl) ?_
        intro K hK
        have HK := Lib.hid hK
        clear hK
        refine step_st rfl rfl rfl (cs := inC (rnR F (allL F))) rfl hBx (by kernel_rfl) rfl rfl ?_
        intro WX hkk hsk
        refine HK.out _ _ (fun h => absurd h (by decide)) (fun _ => ?_)
        clear HK K
        try simp only [puts]
        refine WpK.done (by kernel_rfl) ?_
        have hOs := owns_base (base' := W.heap.size) (owns_bes' hOx hsk hne) ((by have := hX2.size; omega))
        have hWX := bes_then hX hsk hbk hX.size
        have HKK := Lib.hid hkk
        have HOS := Lib.hid hOs
        have HWX := Lib.hid hWX
        have HNE := Lib.hid hne
        have HBKK := Lib.hid hbk
        clear hkk hOs hWX hne hsk hX hBx hOx
        go_wp2_with fail
        go_meet
        case rel => exact ⟨_, rfl, HBKK.out, HNE.out, HKK, HOS, HWX⟩
    · go_simp
      have hX1 : Below W.heap.size W (W.drew.alloc (Obj.cells z7L.toArray 129)) := (Below.drew (Below.refl _ _)).alloc (Nat.le_refl _) _
      refine HK.out _ _ (fun _ => hX1) (fun _ => ?_)
      clear HK K
      try simp only [puts]
      refine WpK.one (i := 2) (by kernel_rfl) ((toArray_at _ _).trans rfl) ?_
      intro K hK
      have HK := Lib.hid hK
      clear hK
      go_simp
      refine (rAll_any F _ _ _ (HFW.out.below (hX1)) hO.n).mono ?_
      rintro e W2 ⟨vI, rfl, hb2, hI2⟩
      have hW2 : Below W.heap.size W W2 := hX1.trans (hb2.mono hX1.size)
      refine HK.out _ _ (fun _ => hW2) (fun _ => ?_)
      clear HK K
      try simp only [puts]
      refine WpK.one (i := 3) (by kernel_rfl) ((toArray_at _ _).trans rfl) ?_
      intro K hK
      have HK := Lib.hid hK
      clear hK
      go_simp
      refine (Of_any F _ _ _ (allL F) _ (HFW.out.below hW2) hO (hI2) (allL_ok F) hlen).mono ?_
      rintro e W3 ⟨s, rfl, hb3, hS3⟩
      have hW3 : Below W.heap.size W W3 := hW2.trans (hb3.mono hW2.size)
      refine HK.out _ _ (fun _ => hW3) (fun _ => ?_)
      clear HK K
      try simp only [puts]
      have hS0 := hW3
      refine WpK.take (i := 4) (v := ?_) ((toArray_at _ _).trans rfl) (by kernel_rfl) (by kernel_rfl) (by kernel_rfl) (by kernel_rfl) (by kernel_rfl) (fun _ _ _ h => h) (Or.inl ⟨by rfl, ?_⟩) hS0 ?_
      rotate_left
      · (intro x hx; clear hx; go_simp <;> with_reducible rfl)
      try simp only [Act.put, puts]
      refine WpK.take (i := 5) (v := ?_) ((toArray_at _ _).trans rfl) (by kernel_rfl) (by kernel_rfl) (by kernel_rfl) (by kernel_rfl) (by kernel_rfl) (fun _ _ _ h => h) (Or.inl ⟨by rfl, ?_⟩) hS0 ?_
      rotate_left
      · (intro x hx; clear hx; go_simp <;> with_reducible rfl)
      try simp only [Act.put, puts]
      refine WpK.take (i := 6) (v := ?_) ((toArray_at _ _).trans rfl) (by kernel_rfl) (by kernel_rfl) (by kernel_rfl) (by kernel_rfl) (by kernel_rfl) (fun _ _ _ h => h) (Or.inl ⟨by rfl, ?_⟩) hS0 ?_
      rotate_left
      · (intro x hx; clear hx; go_simp <;> with_reducible rfl)
      try simp only [Act.put, puts]
      clear hS0
      have hX := hW3
      have hBx : Bk W3 W.heap.size 129 z7L := ((Bk.new W.drew 129 z7L).below hb2).below hb3
      have hOx := hS3
      have hne : s.ownBlock ≠ some W.heap.size := fun e => by have := (World.ownsRow.lt hS3 _ e).1; have := hb2.size; simp at this; omega
      have hbk : W.heap.size ≤ W.heap.size := Nat.le_refl _
      refine WpK.one (i := 8) (by kernel_rfl) ((toArray_at _ _).trans rfl) ?_
      intro K hK
      have HK := Lib.hid hK
      clear hK
      go_simp
      refine HK.out _ _ (fun _ => hX) (fun _ => ?_)
      clear HK K
      try simp only [puts]
      refine WpK.one (i := 9) (by kernel_rfl) ((toArray_at _ _).trans rfl) ?_
      intro K hK
      have HK := Lib.hid hK
      clear hK
      refine step_st rfl rfl rfl (cs := inC (rnR F (allL F))) rfl hBx (by kernel_rfl) rfl rfl ?_
      intro WX hkk hsk
      refine HK.out _ _ (fun h => absurd h (by decide)) (fun _ => ?_)
      clear HK K
      try simp only [puts]
      refine WpK.done (by kernel_rfl) ?_
      have hOs := owns_base (base' := W.heap.size) (owns_bes' hOx hsk hne) ((by have := hW2.size; omega))
      have hWX := bes_then hX hsk hbk hX.size
      have HKK := Lib.hid hkk
      have HOS := Lib.hid hOs
      have HWX := Lib.hid hWX
      have HNE := Lib.hid hne
      have HBKK := Lib.hid hbk
      clear hkk hOs hWX hne hsk hX hBx hOx
      go_wp2_with fail
      go_meet
      case rel => exact ⟨_, rfl, HBKK.out, HNE.out, HKK, HOS, HWX⟩
  case rest =>
    rename World => WX
    obtain ⟨xb, rfl, hbk, hne, HKK, HOS, HWX⟩ := hcut
    clear c0 c1 c2 c3 c4 c5 hne
    have hRow := OwnRl.row HOS.out
    have HROW := Lib.hid hRow
    have HZ1 := Lib.hid (HZw.out.below HWX.out)
    have HB1 := Lib.hid (HBw.out.below HWX.out)
    have HF1 := Lib.hid (HFW.out.below HWX.out)
    have HwX := Lib.hid (HwW.out.trans (HWX.out.mono HwW.out.size))
    have HBK := Lib.hid (show w.heap.size + 1 < xb by have := HZw.out.lt; have := hbk; omega)
    clear hRow
    go_wp2_with (first | (refine ld_at rfl (T := 129) rfl rfl HKK.out Tryz.underlying129 rfl (by kernel_rfl) ?_) | fail)
    refine (Left_any (linesL F (allL F)) (rnR F (allL F)) _ WX HROW.out HL.out HR.out).mono ?_
    rw [HS.out]
    rintro e W4 ⟨rfl, hb4⟩
    have hK4 := HKK.out.below hb4
    have HZ3 := Lib.hid (HZ1.out.below hb4)
    have HB3 := Lib.hid (HB1.out.below hb4)
    have HwY := Lib.hid (HwX.out.trans (hb4.mono HwX.out.size))
    clear hb4
    go_wp2_with (refine st_at rfl (T := 129) rfl rfl (cs := inC S) rfl hK4 (by kernel_rfl) rfl rfl ?_; intro W5 hk5 hs5; have hB5 := HB3.out.bes hs5 (by have := HBK.out; omega); have c0 := hB5.cell 0; have cl := hB5.lt; simp only [List.getElem?_cons_zero] at c0)
    have HB5 := Lib.hid hB5
    have HZ5 := Lib.hid (HZ3.out.bes hs5 (by have := HBK.out; omega))
    have HwZ := Lib.hid (bes_then HwY.out hs5 (by have := HBK.out; omega) HwY.out.size)
    have HF5 := Lib.hid (HF00.out.below HwZ.out)
    have HX5 := Lib.hid hk5
    clear hk5 hs5 hK4 hB5
    refine (GT.out x W5 (by omega) (by omega) HF5.out.v).mono ?_
    rintro e W6 ⟨rfl, hb6⟩
    rw [XN.out, XD.out]
    have h67 : Below W5.heap.size W5 (W6.alloc (Obj.cells #[.int .i64 an, .int .i64 ad] 41)) := hb6.alloc hb6.size _
    have hB7 := HB5.out.below h67
    have c0 := hB7.cell 0
    have cl := hB7.lt
    simp only [List.getElem?_cons_zero] at c0
    have hA7 := Bk.new W6 41 [.int .i64 an, .int .i64 ad]
    have hX7 := HX5.out.below h67
    have hZ7 := HZ5.out.below h67
    have hW7 := HwZ.out.trans (h67.mono HwZ.out.size)
    have hF7 := HF00.out.below hW7
    obtain ⟨W7, hW7e⟩ : ∃ W7, W6.alloc (Obj.cells #[.int .i64 an, .int .i64 ad] 41) = W7 := ⟨_, rfl⟩
    obtain ⟨n12, hn12⟩ : ∃ n, W6.heap.size = n := ⟨_, rfl⟩
    rw [hW7e] at hB7 c0 cl hA7 hX7 hZ7 hW7 hF7
    rw [hn12] at hA7
    have HA7 := Lib.hid hA7
    have HX7 := Lib.hid hX7
    have HZ7 := Lib.hid hZ7
    have HW7 := Lib.hid hW7
    have HF7 := Lib.hid hF7
    clear h67 hb6 hB7 hA7 hX7 hZ7 hW7 hF7 HX5 HZ5 HB5
    go_wp2_with fail
    try rw [hW7e]
    try rw [hn12]
    clear hW7e hn12
    refine (GT.out y W7 (by omega) (by omega) HF7.out.v).mono ?_
    rintro e W8 ⟨rfl, hb8⟩
    rw [YN.out, YD.out]
    have h89 : Below W7.heap.size W7 ((W8.alloc (Obj.cells #[.int .i64 bn, .int .i64 bd] 41)).alloc (Obj.cells #[.int .i64 0, .int .i64 0] 27)) := (hb8.alloc hb8.size _).alloc (by have := hb8.size; simp; omega) _
    have hA9 := HA7.out.below h89
    have hX9 := HX7.out.below h89
    have hZ9 := HZ7.out.below h89
    have hW9 := HW7.out.trans (h89.mono HW7.out.size)
    have hY9 := (Bk.new W8 41 [.int .i64 bn, .int .i64 bd]).alloc (Obj.cells #[.int .i64 0, .int .i64 0] 27)
    have hO9 := Bk.new1 W8 (Obj.cells #[.int .i64 bn, .int .i64 bd] 41) 27 [.int .i64 0, .int .i64 0]
    have hlt1 : w.heap.size + 1 < W8.heap.size := by have := HZ7.out.lt; have := hb8.size; omega
    obtain ⟨V, hV⟩ : ∃ V, (W8.alloc (Obj.cells #[.int .i64 bn, .int .i64 bd] 41)).alloc (Obj.cells #[.int .i64 0, .int .i64 0] 27) = V := ⟨_, rfl⟩
    rw [hV] at hA9 hX9 hZ9 hW9 hY9 hO9
    have hq1 : w.heap.size + 1 ≠ W8.heap.size + 1 := by omega
    have hq2 : w.heap.size ≤ W8.heap.size + 1 := by omega
    have HQQ := Lib.hid (And.intro hq1 hq2)
    clear hq1 hq2
    have hnx : W8.heap.size + 1 ≠ xb := by have := HX7.out.lt; have := hb8.size; omega
    have hna : W8.heap.size + 1 ≠ n12 := by have := HA7.out.lt; have := hb8.size; omega
    have HA := Lib.hid hA9
    have HX := Lib.hid hX9
    have HZ := Lib.hid hZ9
    have HW := Lib.hid hW9
    have HY := Lib.hid hY9
    have HOo := Lib.hid hO9
    clear h89 hb8 hA9 hX9 hZ9 hW9 hY9 hO9 HA7 HX7 HZ7 HW7 HF7
    have HVV := Lib.hid hV
    clear hV
    go_wp2_with fail
    rw [HVV.out]
    clear HVV
    go_loopw [15, 16, 17] (fun u v _ wr => ∃ (lo hi : Int) (f : Nat), 0 ≤ lo ∧ lo ≤ hi ∧ hi ≤ 2097152 ∧ u = .int .i64 lo ∧ v = .int .i64 hi ∧ Hid (lastNot P1 f lo hi = X) ∧ Hid ((hi - lo).toNat < 2 ^ f) ∧ Hid (Below V.heap.size V wr)) (fun u v _ _ => (intOf v - intOf u).toNat)
    case atStart => exact ⟨0, 2097152, 24, by omega, by omega, by omega, rfl, rfl, HXX, Lib.hid (by omega), Lib.hid (Below.refl _ _)⟩
    case round =>
      obtain ⟨lo, hi, f, l0, l1, l2, rfl, rfl, hf, hp, hbl⟩ := hrel
      by_cases hlt : lo < hi
      · have hA := HA.out.below hbl.out
        have hX := HX.out.below hbl.out
        have hY := HY.out.below hbl.out
        have a0 := hA.cell 0
        have a1 := hA.cell 1
        have al := hA.lt
        have b0 := hY.cell 0
        have b1 := hY.cell 1
        have bl := hY.lt
        have x2 := hX.cell 2
        have x3 := hX.cell 3
        have xl := hX.lt
        simp only [inC, List.getElem?_cons_zero, List.getElem?_cons_succ] at a0 a1 b0 b1 x2 x3
        have e2 := Int.tdiv_eq_ediv_of_nonneg (show 0 ≤ lo + hi + 1 by omega) (b := 2)
        obtain ⟨n, hn⟩ : ∃ n, (lo + hi + 1) / 2 = n := ⟨_, rfl⟩
        have nb : lo < n ∧ n ≤ hi := by omega
        have hP1 : P1 n = !decide (sgn (S.hi.n * (ad * bd * n) - (an * bd - bn * ad) * S.hi.d) ≤ 0) := HP1.out n
        have k1 : ∀ i : More wr, _ := fun i => more_call (GL.out n i.x (by omega) (by omega))
        have k2 : ∀ i : More wr, _ := fun i => more_call (GH.out n i.x (by omega) (by omega))
        obtain ⟨sg, hsg⟩ : ∃ s, sgn (S.hi.n * (ad * bd * n) - (an * bd - bn * ad) * S.hi.d) = s := ⟨_, rfl⟩
        rw [hsg] at hP1 k2
        have mc := @more_cell wr
        have K1 := Lib.hid k1
        have K2 := Lib.hid k2
        clear k1 k2 hsg hA hX hY
        go_wp2_with fail
        refine wp_region_more (by kernel_rfl) (by kernel_rfl) ?_
        iterate 8 (try (first | go_big_quiet_step ((with_reducible first | exact K1.out _ | exact K2.out _)) | quiet_step ((with_reducible first | exact K1.out _ | exact K2.out _))))
        iterate 8 (try (first | go_big_quiet_step ((with_reducible first | exact K1.out _ | exact K2.out _)) | quiet_step ((with_reducible first | exact K1.out _ | exact K2.out _))))
        iterate 8 (try (first | go_big_quiet_step ((with_reducible first | exact K1.out _ | exact K2.out _)) | quiet_step ((with_reducible first | exact K1.out _ | exact K2.out _))))
        iterate 8 (try (first | go_big_quiet_step ((with_reducible first | exact K1.out _ | exact K2.out _)) | quiet_step ((with_reducible first | exact K1.out _ | exact K2.out _))))
        iterate 8 (try (first | go_big_quiet_step ((with_reducible first | exact K1.out _ | exact K2.out _)) | quiet_step ((with_reducible first | exact K1.out _ | exact K2.out _))))
        refine wpQuiet_nil ?_
        rintro ⟨wm, hbm⟩
        try dsimp only
        have HB3 := Lib.hid (hbl.out.trans (hbm.mono hbl.out.size))
        clear hbm a0 a1 b0 b1 x2 x3 mc K1 K2
        obtain ⟨f, rfl⟩ : ∃ f', f = f' + 1 := by
          cases f with
          | zero => have := hp.out; simp at this; omega
          | succ f => exact ⟨f, rfl⟩
        have hf2 := hf.out
        have hp2 := hp.out
        rw [Nat.pow_succ] at hp2
        rw [lastNot, if_pos hlt, hn] at hf2
        by_cases hs0 : sg ≤ 0
        · rw [hP1, if_neg (by simpa using hs0)] at hf2
          clear hP1
          have HF := Lib.hid hf2
          have HP := Lib.hid hp2
          clear hf2 hp2 hf hp
          go_wp2_with fail
          refine ⟨⟨n, hi, f, by omega, by omega, by omega, by first | rfl | go_num, by first | rfl | go_num, HF, Lib.hid (by have := HP.out; omega), HB3⟩, by simp [intOf]; omega⟩
        · rw [hP1, if_pos (by simpa using hs0)] at hf2
          clear hP1
          have HF := Lib.hid hf2
          have HP := Lib.hid hp2
          clear hf2 hp2 hf hp
          go_wp2_with fail
          refine ⟨⟨lo, n - 1, f, by omega, by omega, by omega, by first | rfl | go_num, by first | rfl | go_num, HF, Lib.hid (by have := HP.out; omega), HB3⟩, by simp [intOf]; omega⟩
      · have hX0 : lo = X := by
          have := lastNot_in P1 f lo hi l1
          have := hf.out
          omega
        subst hX0
        clear hf hp
        have hO2 := HOo.out.below hbl.out
        have o0 := hO2.cell 0
        have o1 := hO2.cell 1
        have og := hO2.frozen 0
        have ol := hO2.lt
        simp only [List.getElem?_cons_zero, List.getElem?_cons_succ] at o0 o1
        have hA := (HA.out.below hbl.out).far (p := ⟨W8.heap.size + 1, 0, none⟩) (by simp; omega) (.int .i64 lo)
        have hX := (HX.out.below hbl.out).far (p := ⟨W8.heap.size + 1, 0, none⟩) (by simp; omega) (.int .i64 lo)
        have hY := (HY.out.below hbl.out).far (p := ⟨W8.heap.size + 1, 0, none⟩) (by simp) (.int .i64 lo)
        have hZ := (HZ.out.below hbl.out).far (p := ⟨W8.heap.size + 1, 0, none⟩) (by simp; omega) (.int .i64 lo)
        have hO3 : Bk (wr.setCell ⟨W8.heap.size + 1, 0, none⟩ (.int .i64 lo)) (W8.heap.size + 1) 27 [.int .i64 lo, .int .i64 0] := hO2.set 0 (.int .i64 lo)
        have hW3 : Below w.heap.size w (wr.setCell ⟨W8.heap.size + 1, 0, none⟩ (.int .i64 lo)) := (HW.out.trans (hbl.out.mono HW.out.size)).setCell (by simp; omega) _
        obtain ⟨U, hU⟩ : ∃ U, wr.setCell ⟨W8.heap.size + 1, 0, none⟩ (.int .i64 lo) = U := ⟨_, rfl⟩
        rw [hU] at hA hX hY hZ hO3 hW3
        have UA := Lib.hid hA
        have UX := Lib.hid hX
        have UY := Lib.hid hY
        have UZ := Lib.hid hZ
        have UO := Lib.hid hO3
        have UW := Lib.hid hW3
        clear hA hX hY hZ hO3 hW3 HA HX HY HZ HOo HW hO2
        have hlo := Lib.hid l0
        by_cases hxy : x = y
        · have HYX := HYY.out
          rw [if_pos hxy] at HYX
          have hyv : Yv = 0 := by rw [← HYX]; simp [firstNot]
          have HYV := Lib.hid hyv
          subst hxy
          clear HYX hyv
          go_wp2_with fail
          try rw [hU]
          clear hU hbl o0 o1 og ol
          go_loopw [15, 16] (fun u v wr => u = .int .i64 0 ∧ v = .int .i64 0 ∧ wr = U) (fun _ _ _ => 0)
          case atStart => exact ⟨rfl, rfl, rfl⟩
          case round =>
            obtain ⟨rfl, rfl, rfl⟩ := hrel
            have hO2 := UO.out.below (Below.refl _ _)
            have o0 := hO2.cell 0
            have o1 := hO2.cell 1
            have og := hO2.frozen 1
            have ol := hO2.lt
            simp only [List.getElem?_cons_zero, List.getElem?_cons_succ] at o0 o1
            have hO3 : Bk (wr.setCell ⟨W8.heap.size + 1, 1, none⟩ (.int .i64 0)) (W8.heap.size + 1) 27 [.int .i64 lo, .int .i64 0] := hO2.set 1 (.int .i64 0)
            have hZ3 := (UZ.out.below (Below.refl _ _)).far (p := ⟨W8.heap.size + 1, 1, none⟩) HQQ.out.1 (.int .i64 0)
            have hW3 : Below w.heap.size w (wr.setCell ⟨W8.heap.size + 1, 1, none⟩ (.int .i64 0)) := (UW.out.trans ((Below.refl _ _).mono UW.out.size)).setCell HQQ.out.2 _
            have HO3 := Lib.hid hO3
            have HZ3 := Lib.hid hZ3
            have HW3 := Lib.hid hW3
            clear hO2 hO3 hZ3 hW3 hnx hna hlt1 hHt xn hlen y0 yx HP1 HQ1 HQ0 GT GL GH GLo HH HS HR HL HE HC XN XD YN YD UA UX UY UZ UO UW HXX HYY HwW HBw HZw HFW HOS HWX HKK HF00 hO hv
            go_wp2_with (first | (refine ld_at rfl (T := 27) rfl rfl HO3.out Tryz.underlying27 rfl (by kernel_rfl) ?_) | (refine st_at rfl (T := 27) rfl rfl (cs := [.int .i64 lo, .int .i64 0]) rfl HZ3.out (by kernel_rfl) rfl rfl ?_; intro wk hkk hsk))
            refine bodyPost_ret (ret_cell_tmp rfl _ _ rfl hkk Tryz.underlying27 rfl (by kernel_rfl)) rfl ⟨by rw [HYV.out]; rfl, ?_⟩
            exact bes_then HW3.out hsk (Nat.le_succ _) HW3.out.size
        · have HYX := HYY.out
          rw [if_neg hxy] at HYX
          have HYX := Lib.hid HYX
          have hne : (x == y) = false := by simpa using hxy
          go_wp2_with fail
          try rw [hU]
          clear hU hbl o0 o1 og ol hxy
          go_loopw [15, 16, 18] (fun u v _ wr => ∃ (lo hi : Int) (f : Nat), 0 ≤ lo ∧ lo ≤ hi ∧ hi ≤ 2097152 ∧ u = .int .i64 lo ∧ v = .int .i64 hi ∧ Hid (firstNot Q1 f lo hi = Yv) ∧ Hid ((hi - lo).toNat < 2 ^ f) ∧ Hid (Below U.heap.size U wr)) (fun u v _ _ => (intOf v - intOf u).toNat)
          case atStart => exact ⟨0, 2097152, 24, by omega, by omega, by omega, rfl, rfl, HYX, Lib.hid (by omega), Lib.hid (Below.refl _ _)⟩
          case round =>
            obtain ⟨lo2, hi, f, l0, l1, l2, rfl, rfl, hf, hp, hbl⟩ := hrel
            by_cases hlt : lo2 < hi
            · have e2 := Int.tdiv_eq_ediv_of_nonneg (show 0 ≤ lo2 + hi by omega) (b := 2)
              obtain ⟨n, hn⟩ : ∃ n, (lo2 + hi) / 2 = n := ⟨_, rfl⟩
              have nb : lo2 ≤ n ∧ n < hi := by omega
              have mc := @more_cell wr
              by_cases hn0 : 0 < n
              · have hA := UA.out.below hbl.out
                have hX := UX.out.below hbl.out
                have hY := UY.out.below hbl.out
                have a0 := hA.cell 0
                have a1 := hA.cell 1
                have al := hA.lt
                have b0 := hY.cell 0
                have b1 := hY.cell 1
                have bl := hY.lt
                have x0 := hX.cell 0
                have x1 := hX.cell 1
                have xl := hX.lt
                simp only [inC, List.getElem?_cons_zero, List.getElem?_cons_succ] at a0 a1 b0 b1 x0 x1
                have hP1 := HQ1.out n hn0
                have k1 : ∀ i : More wr, _ := fun i => more_call (GL.out n i.x (by omega) (by omega))
                have k2 : ∀ i : More wr, _ := fun i => more_call (GLo.out n i.x (by omega) (by omega))
                obtain ⟨sg, hsg⟩ : ∃ s, sgn (S.lo.n * (ad * bd * n) - (an * bd - bn * ad) * S.lo.d) = s := ⟨_, rfl⟩
                rw [hsg] at hP1 k2
                have K1 := Lib.hid k1
                have K2 := Lib.hid k2
                have HP1 := Lib.hid hP1
                clear k1 k2 hsg hA hX hY hP1
                go_wp2_with fail
                refine wp_region_more (by kernel_rfl) (by kernel_rfl) ?_
                iterate 8 (try (first | go_big_quiet_step ((with_reducible first | exact K1.out _ | exact K2.out _)) | quiet_step ((with_reducible first | exact K1.out _ | exact K2.out _))))
                iterate 8 (try (first | go_big_quiet_step ((with_reducible first | exact K1.out _ | exact K2.out _)) | quiet_step ((with_reducible first | exact K1.out _ | exact K2.out _))))
                iterate 8 (try (first | go_big_quiet_step ((with_reducible first | exact K1.out _ | exact K2.out _)) | quiet_step ((with_reducible first | exact K1.out _ | exact K2.out _))))
                iterate 8 (try (first | go_big_quiet_step ((with_reducible first | exact K1.out _ | exact K2.out _)) | quiet_step ((with_reducible first | exact K1.out _ | exact K2.out _))))
                iterate 8 (try (first | go_big_quiet_step ((with_reducible first | exact K1.out _ | exact K2.out _)) | quiet_step ((with_reducible first | exact K1.out _ | exact K2.out _))))
                refine wpQuiet_nil ?_
                rintro ⟨wm, hbm⟩
                try dsimp only
                have HB3 := Lib.hid (hbl.out.trans (hbm.mono hbl.out.size))
                clear hbm a0 a1 b0 b1 x0 x1 mc K1 K2
                obtain ⟨f, rfl⟩ : ∃ f', f = f' + 1 := by
                  cases f with
                  | zero => have := hp.out; simp at this; omega
                  | succ f => exact ⟨f, rfl⟩
                have hf2 := hf.out
                have hp2 := hp.out
                rw [Nat.pow_succ] at hp2
                rw [firstNot, if_pos hlt, hn] at hf2
                by_cases hs0 : 0 ≤ sg
                · rw [HP1.out, if_neg (by simpa using hs0)] at hf2
                  have HF := Lib.hid hf2
                  have HP := Lib.hid hp2
                  clear hf2 hp2 hf hp
                  go_wp2_with fail
                  refine ⟨⟨lo2, n, f, by omega, by omega, by omega, by first | rfl | go_num, by first | rfl | go_num, HF, Lib.hid (by have := HP.out; omega), HB3⟩, by simp [intOf]; omega⟩
                · rw [HP1.out, if_pos (by simpa using hs0)] at hf2
                  have HF := Lib.hid hf2
                  have HP := Lib.hid hp2
                  clear hf2 hp2 hf hp
                  go_wp2_with fail
                  refine ⟨⟨n + 1, hi, f, by omega, by omega, by omega, by first | rfl | go_num, by first | rfl | go_num, HF, Lib.hid (by have := HP.out; omega), HB3⟩, by simp [intOf]; omega⟩
              · have hP1 := Lib.hid (HQ0.out n (by omega))
                have hd0 : decide (0 < n) = false := by simp; omega
                have hd1 : decide (n ≤ 0) = true := by simp; omega
                go_wp2_with fail
                refine wp_region_more (by kernel_rfl) (by kernel_rfl) ?_
                iterate 8 (try (first | go_big_quiet_step ((fail)) | quiet_step ((fail))))
                iterate 8 (try (first | go_big_quiet_step ((fail)) | quiet_step ((fail))))
                iterate 8 (try (first | go_big_quiet_step ((fail)) | quiet_step ((fail))))
                iterate 8 (try (first | go_big_quiet_step ((fail)) | quiet_step ((fail))))
                iterate 8 (try (first | go_big_quiet_step ((fail)) | quiet_step ((fail))))
                refine wpQuiet_nil ?_
                rintro ⟨wm, hbm⟩
                try dsimp only
                have HB3 := Lib.hid (hbl.out.trans (hbm.mono hbl.out.size))
                clear hbm mc
                obtain ⟨f, rfl⟩ : ∃ f', f = f' + 1 := by
                  cases f with
                  | zero => have := hp.out; simp at this; omega
                  | succ f => exact ⟨f, rfl⟩
                have hf2 := hf.out
                have hp2 := hp.out
                rw [Nat.pow_succ] at hp2
                rw [firstNot, if_pos hlt, hn] at hf2
                rw [hP1.out, if_pos rfl] at hf2
                have HF := Lib.hid hf2
                have HP := Lib.hid hp2
                clear hf2 hp2 hf hp
                go_wp2_with fail
                refine ⟨⟨n + 1, hi, f, by omega, by omega, by omega, by first | rfl | go_num, by first | rfl | go_num, HF, Lib.hid (by have := HP.out; omega), HB3⟩, by simp [intOf]; omega⟩
            · have hX0 : lo2 = Yv := by
                have := firstNot_in Q1 f lo2 hi l1
                have := hf.out
                omega
              subst hX0
              clear hf hp
              have hO2 := UO.out.below (hbl.out)
              have o0 := hO2.cell 0
              have o1 := hO2.cell 1
              have og := hO2.frozen 1
              have ol := hO2.lt
              simp only [List.getElem?_cons_zero, List.getElem?_cons_succ] at o0 o1
              have hO3 : Bk (wr.setCell ⟨W8.heap.size + 1, 1, none⟩ (.int .i64 lo2)) (W8.heap.size + 1) 27 [.int .i64 lo, .int .i64 lo2] := hO2.set 1 (.int .i64 lo2)
              have hZ3 := (UZ.out.below (hbl.out)).far (p := ⟨W8.heap.size + 1, 1, none⟩) HQQ.out.1 (.int .i64 lo2)
              have hW3 : Below w.heap.size w (wr.setCell ⟨W8.heap.size + 1, 1, none⟩ (.int .i64 lo2)) := (UW.out.trans ((hbl.out).mono UW.out.size)).setCell HQQ.out.2 _
              have HO3 := Lib.hid hO3
              have HZ3 := Lib.hid hZ3
              have HW3 := Lib.hid hW3
              clear hO2 hO3 hZ3 hW3 hnx hna hlt1 hHt xn hlen y0 yx HP1 HQ1 HQ0 GT GL GH GLo HH HS HR HL HE HC XN XD YN YD UA UX UY UZ UO UW HXX HYY HwW HBw HZw HFW HOS HWX HKK HF00 hO hv
              go_wp2_with (first | (refine ld_at rfl (T := 27) rfl rfl HO3.out Tryz.underlying27 rfl (by kernel_rfl) ?_) | (refine st_at rfl (T := 27) rfl rfl (cs := [.int .i64 lo, .int .i64 lo2]) rfl HZ3.out (by kernel_rfl) rfl rfl ?_; intro wk hkk hsk))
              refine bodyPost_ret (ret_cell_tmp rfl _ _ rfl hkk Tryz.underlying27 rfl (by kernel_rfl)) rfl ⟨by rfl, ?_⟩
              exact bes_then HW3.out hsk (Nat.le_succ _) HW3.out.size
def skA (F : Fl) (x y : Int) : Int := if rdE F (skR F x y) = 0 then skLo F (knR F).hi x y else 0
def skB (F : Fl) (x y : Int) : Int := if rdE F (skR F x y) = 0 then skHi F (knR F).lo x y else 0
theorem skV_c (F : Fl) (x y : Int) : skV F x y = .tuple #[.agg #[.int .i64 (skA F x y), .int .i64 (skB F x y)], .int .i64 (rdE F (skR F x y))] := by
  unfold skV skA skB
  by_cases h : rdE F (skR F x y) = 0
  · rw [if_pos h, if_pos h, if_pos h, h]
  · rw [if_neg h, if_neg h, if_neg h]
theorem suV_c (F : Fl) (x m : Int) : suV F x m = .tuple #[.bool (suA F x m), .int .i64 (rdE F (asR F x m))] := by
  unfold suV suA
  by_cases h : rdE F (asR F x m) = 0
  · obtain ⟨_, _, hc⟩ := rdE_0' h
    rw [if_pos h, h, ovB_eq hc]
    rfl
  · rw [if_neg h, decide_eq_false h]
    rfl
theorem evV_c (F : Fl) (x m : Int) : evV F x m = .tuple #[.bool (evA F x m), .int .i64 (rdE F (asR F x m))] := by
  unfold evV evA
  by_cases h : rdE F (asR F x m) = 0
  · obtain ⟨_, _, hc⟩ := rdE_0' h
    rw [if_pos h, h, evB_eq hc]
    rfl
  · rw [if_neg h, decide_eq_false h]
    rfl
theorem rSinks_any (F : Fl) (vv vs : Value) (x y : Int) (w : World) (hF : FlIn w F vv vs) :
    Calls Tryz.prog 27 #[flV F vv vs, .int .i64 x, .int .i64 y] w fun e w' => e = .returned (.tuple #[.agg #[.int .i64 (skA F x y), .int .i64 (skB F x y)], .int .i64 (rdE F (skR F x y))]) ∧ Below w.heap.size w w' := by
  unfold skA skB
  by_cases h : rdE F (skR F x y) = 0
  · obtain ⟨ho, hR, hc⟩ := rdE_0' h
    unfold skR at hR
    simp only [Bool.and_eq_true, decide_eq_true_eq] at hR
    have h1 := inB_t hR.1.1
    have h2 := inB_t hR.1.2
    rw [if_pos h, if_pos h, h]
    exact rSinks_yes F vv vs x y w hF ho hc h2.1 hR.2 h1.2
  · rw [if_neg h, if_neg h]
    exact rSinks_no F vv vs x y _ w hF rfl h
end Go.Proofs.YtnfndiafabhhdaaGreat
