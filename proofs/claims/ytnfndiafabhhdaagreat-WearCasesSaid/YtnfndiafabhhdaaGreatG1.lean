/- Walks of the reference's small functions: a vessel's rings, its height, looks (Wear). -/
import Derived.Test.YtnfndiafabhhdaaGreatC1
import Derived.Test.YtnfndiafabhhdaaGreatC7
import Derived.Test.YtnfndiafabhhdaaGreatB7
namespace Go.Proofs.YtnfndiafabhhdaaGreat
open Go.ChangeShapes Go.WideShapes Go.ChangeAt Go.RowKit
theorem r2within_any (n lo hi : Int) (w : World) : Calls Tryz.prog 183 #[.int .i64 n, .int .i64 lo, .int .i64 hi] w fun e w' => e = .returned (.bool (inB n lo hi)) ∧ w = w' := by
  go_enter Tryz.func183, Tryz.ntmps183
  go_wp2
  all_goals (go_ret; simp [inB]; omega)
theorem r2isRing_any (r : Rg) (w : World) : Calls Tryz.prog 160 #[.agg #[.int .i64 r.h, .int .i64 r.v, .int .i64 r.d]] w fun e w' => e = .returned (.bool (okRg r)) ∧ Below w.heap.size w w' := by
  cases h1 : inB r.h 1 1000
  · go_enter Tryz.func160, Tryz.ntmps160
    go_wp2_with (go_at_call 183; (with_reducible refine (r2within_any _ _ _ _).mono ?_); rintro e w' ⟨rfl, rfl⟩)
    go_ret
    exact ⟨by simp only [inB] at h1; simp [okRg, h1], ballo _ _⟩
  cases h2 : inB r.v 1 100000
  · go_enter Tryz.func160, Tryz.ntmps160
    go_wp2_with (go_at_call 183; (with_reducible refine (r2within_any _ _ _ _).mono ?_); rintro e w' ⟨rfl, rfl⟩)
    go_ret
    exact ⟨by simp only [inB] at h1 h2; simp [okRg, h2], ballo _ _⟩
  · go_enter Tryz.func160, Tryz.ntmps160
    go_wp2_with (go_at_call 183; (with_reducible refine (r2within_any _ _ _ _).mono ?_); rintro e w' ⟨rfl, rfl⟩)
    go_ret
    exact ⟨by simp only [inB] at h1 h2; simp [okRg, inB, h1, h2], ballo _ _⟩
theorem r3look_any (l : Lk) (h : Int) (w : World) : Calls Tryz.prog 110 #[.agg #[.int .i64 l.lv, .int .i64 l.er], .int .i64 h] w fun e w' => e = .returned (.bool (okLk h l)) ∧ Below w.heap.size w w' := by
  go_enter Tryz.func110, Tryz.ntmps110
  go_wp2
  all_goals
    go_ret
    exact ⟨ret_bool (by rw [Bool.eq_iff_iff]; simp [okLk]; omega), ballo _ _⟩
theorem r3after_any (lo hi : Int) (w : World) : Calls Tryz.prog 111 #[.agg #[.int .i64 lo, .int .i64 hi]] w fun e w' => e = .returned (.bool (okSp lo hi 0 1048576)) ∧ Below w.heap.size w w' := by
  go_enter Tryz.func111, Tryz.ntmps111
  go_wp2
  all_goals
    go_ret
    exact ⟨ret_bool (by simp [okSp]; omega), ballo _ _⟩
set_option maxHeartbeats 1000000 in
theorem r2Check_any (l : List Rg) (v : Value) (w : World) (hR : RgR w v l) : Calls Tryz.prog 109 #[v] w fun e w' => e = .returned (.int .i64 (chkV l)) ∧ Below w.heap.size w w' := by
  obtain ⟨o, c, rfl, m⟩ := hR.parts
  obtain ⟨n, hn⟩ : ∃ n, l.length = n := ⟨_, rfl⟩
  have HR := Lib.hid hR; clear hR
  have HN := Lib.hid hn
  rw [hn] at m ⊢
  clear hn
  by_cases hb : 1 ≤ n ∧ n ≤ 24
  · obtain ⟨n1, n2⟩ := hb
    go_enter Tryz.func109, Tryz.ntmps109
    go_wp2_with fail
    go_loopw [3] (fun i wr => ∃ k : Nat, k ≤ n ∧ i = .int .i64 (k : Int) ∧ Hid (okFrom l k = true) ∧ Below w.heap.size w wr) (fun i _ => n - (intOf i).toNat)
    case atStart => exact ⟨0, Nat.zero_le _, rfl, rfl, Below.refl _ _⟩
    case round =>
      obtain ⟨k, hk, rfl, hok, hbl⟩ := hrel
      by_cases h0 : k < n
      · obtain ⟨b, off, rfl, hb, hc⟩ := HR.out.cells (by rw [HN.out]; omega)
        have d0 := (hbl.cell (p := ⟨b, off + k * 3, none⟩) hb).trans (hc k 0 (by rw [HN.out]; exact h0) (by omega))
        have d1 := (hbl.cell (p := ⟨b, off + k * 3 + 1, none⟩) hb).trans (hc k 1 (by rw [HN.out]; exact h0) (by omega))
        have d2 := (hbl.cell (p := ⟨b, off + k * 3 + 2, none⟩) hb).trans (hc k 2 (by rw [HN.out]; exact h0) (by omega))
        simp only [rgF] at d0 d1 d2
        obtain ⟨r, hr⟩ : ∃ r, rg l k = r := ⟨_, rfl⟩
        rw [hr] at d0 d1 d2
        have HRG := Lib.hid hr; clear hr
        have hbw : b < wr.heap.size := Nat.lt_of_lt_of_le hb hbl.size
        have mc := @more_cell wr
        have k1 : ∀ i : More wr, _ := fun i => more_call (r2isRing_any r i.x)
        rcases bool_ft (okRg r) with hrg | hrg
        · have HNO := Lib.hid (chkV_no HN.out (.inr (okFrom_no (k := k) h0 (by rw [HRG.out]; exact hrg))))
          rw [hrg] at k1
          have K1 := Lib.hid k1; clear k1 hc hrg
          go_wp2_with fail
          refine wp_region_more (by kernel_rfl) (by kernel_rfl) ?_
          iterate 8 (try (first | go_big_quiet_step ((with_reducible first | exact K1.out _)) | quiet_step ((with_reducible first | exact K1.out _))))
          iterate 8 (try (first | go_big_quiet_step ((with_reducible first | exact K1.out _)) | quiet_step ((with_reducible first | exact K1.out _))))
          iterate 8 (try (first | go_big_quiet_step ((with_reducible first | exact K1.out _)) | quiet_step ((with_reducible first | exact K1.out _))))
          iterate 8 (try (first | go_big_quiet_step ((with_reducible first | exact K1.out _)) | quiet_step ((with_reducible first | exact K1.out _))))
          iterate 8 (try (first | go_big_quiet_step ((with_reducible first | exact K1.out _)) | quiet_step ((with_reducible first | exact K1.out _))))
          refine wpQuiet_nil ?_
          rintro ⟨wm, hbm⟩
          try dsimp only
          go_wp2_with fail
          go_ret
          exact ⟨ret_int HNO.out.symm, hbl.trans (hbm.mono hbl.size)⟩
        · rw [hrg] at k1
          have HOK := Lib.hid hrg
          obtain ⟨r1, r2, r3⟩ := okRg_bd hrg
          by_cases hk0 : k = 0
          · subst hk0
            simp only [Nat.zero_mul, Nat.add_zero] at d0 d1 d2
            have hst : okFrom l (0 + 1) = true := by simp [okFrom, HRG.out, HOK.out]
            have HST := Lib.hid hst
            have K1 := Lib.hid k1; clear k1 hc hrg hst
            go_wp2_with fail
            refine wp_region_more (by kernel_rfl) (by kernel_rfl) ?_
            iterate 8 (try (first | go_big_quiet_step ((with_reducible first | exact K1.out _)) | quiet_step ((with_reducible first | exact K1.out _))))
            iterate 8 (try (first | go_big_quiet_step ((with_reducible first | exact K1.out _)) | quiet_step ((with_reducible first | exact K1.out _))))
            iterate 8 (try (first | go_big_quiet_step ((with_reducible first | exact K1.out _)) | quiet_step ((with_reducible first | exact K1.out _))))
            iterate 8 (try (first | go_big_quiet_step ((with_reducible first | exact K1.out _)) | quiet_step ((with_reducible first | exact K1.out _))))
            iterate 8 (try (first | go_big_quiet_step ((with_reducible first | exact K1.out _)) | quiet_step ((with_reducible first | exact K1.out _))))
            refine wpQuiet_nil ?_
            rintro ⟨wm, hbm⟩
            try dsimp only
            go_wp2_with fail
            exact ⟨⟨1, by omega, rfl, HST.out, hbl.trans (hbm.mono hbl.size)⟩, by simp [intOf]; omega⟩
          · have hkk : 0 < k := by omega
            have e1 := (hbl.cell (p := ⟨b, off + (k - 1) * 3 + 1, none⟩) hb).trans (hc (k - 1) 1 (by rw [HN.out]; omega) (by omega))
            have e2 := (hbl.cell (p := ⟨b, off + (k - 1) * 3 + 2, none⟩) hb).trans (hc (k - 1) 2 (by rw [HN.out]; omega) (by omega))
            simp only [rgF] at e1 e2
            obtain ⟨s1, s2, s3⟩ := okRg_bd (okFrom_at hok.out (k - 1) (by omega))
            obtain ⟨s, hs⟩ : ∃ r, rg l (k - 1) = r := ⟨_, rfl⟩
            rw [hs] at e1 e2 s1 s2 s3
            have HSG := Lib.hid hs; clear hs
            have m1 := mul_bd (a := r.v) (b := s.d) (A := 100000) (B := 20000) (by omega) (by omega) (by omega) (by omega)
            have m2 := mul_bd (a := s.v) (b := r.d) (A := 100000) (B := 20000) (by omega) (by omega) (by omega) (by omega)
            have hn1 : ((k : Int) - 1).toNat = k - 1 := by omega
            by_cases hlt : r.v * s.d < s.v * r.d
            · have HNO := Lib.hid (chkV_no HN.out (.inr (okFrom_no2 (k := k) h0 hk0 (by rw [HRG.out, HSG.out]; exact hlt))))
              have K1 := Lib.hid k1; clear k1 hc hrg
              go_wp2_with fail
              refine wp_region_more (by kernel_rfl) (by kernel_rfl) ?_
              iterate 8 (try (first | go_big_quiet_step ((with_reducible first | exact K1.out _)) | quiet_step ((with_reducible first | exact K1.out _))))
              iterate 8 (try (first | go_big_quiet_step ((with_reducible first | exact K1.out _)) | quiet_step ((with_reducible first | exact K1.out _))))
              iterate 8 (try (first | go_big_quiet_step ((with_reducible first | exact K1.out _)) | quiet_step ((with_reducible first | exact K1.out _))))
              iterate 8 (try (first | go_big_quiet_step ((with_reducible first | exact K1.out _)) | quiet_step ((with_reducible first | exact K1.out _))))
              iterate 8 (try (first | go_big_quiet_step ((with_reducible first | exact K1.out _)) | quiet_step ((with_reducible first | exact K1.out _))))
              refine wpQuiet_nil ?_
              rintro ⟨wm, hbm⟩
              try dsimp only
              go_wp2_with fail
              go_ret
              exact ⟨ret_int HNO.out.symm, hbl.trans (hbm.mono hbl.size)⟩
            · have hst : okFrom l (k + 1) = true := by
                simp only [okFrom, Bool.and_eq_true, Bool.or_eq_true, decide_eq_true_eq]
                rw [HRG.out, HSG.out]
                exact ⟨⟨hok.out, HOK.out⟩, .inr (by omega)⟩
              have HST := Lib.hid hst
              have K1 := Lib.hid k1; clear k1 hc hrg hst
              go_wp2_with fail
              refine wp_region_more (by kernel_rfl) (by kernel_rfl) ?_
              iterate 8 (try (first | go_big_quiet_step ((with_reducible first | exact K1.out _)) | quiet_step ((with_reducible first | exact K1.out _))))
              iterate 8 (try (first | go_big_quiet_step ((with_reducible first | exact K1.out _)) | quiet_step ((with_reducible first | exact K1.out _))))
              iterate 8 (try (first | go_big_quiet_step ((with_reducible first | exact K1.out _)) | quiet_step ((with_reducible first | exact K1.out _))))
              iterate 8 (try (first | go_big_quiet_step ((with_reducible first | exact K1.out _)) | quiet_step ((with_reducible first | exact K1.out _))))
              iterate 8 (try (first | go_big_quiet_step ((with_reducible first | exact K1.out _)) | quiet_step ((with_reducible first | exact K1.out _))))
              refine wpQuiet_nil ?_
              rintro ⟨wm, hbm⟩
              try dsimp only
              go_wp2_with fail
              exact ⟨⟨k + 1, by omega, by go_num, HST.out, hbl.trans (hbm.mono hbl.size)⟩, by simp [intOf]; omega⟩
      · obtain rfl : k = n := by omega
        have HYES := Lib.hid (chkV_yes HN.out ⟨n1, n2⟩ hok.out)
        go_wp2_with fail
        go_ret
        exact ⟨ret_int HYES.out.symm, hbl⟩
  · have HNO := Lib.hid (chkV_no HN.out (.inl hb))
    have hb2 : n < 1 ∨ 24 < n := by omega
    rcases hb2 with hb2 | hb2
    all_goals
      go_enter Tryz.func109, Tryz.ntmps109
      go_wp2_with fail
      all_goals try (exfalso; omega)
      go_ret
      exact ⟨ret_int HNO.out.symm, Below.refl _ _⟩
theorem Height_any (l : List Rg) (v : Value) (w : World) (hR : RgR w v l) (hv : OkV l) : Calls Tryz.prog 90 #[v] w fun e w' => e = .returned (.int .i64 (hgt l)) ∧ w' = w := by
  obtain ⟨o, c, rfl, m⟩ := hR.parts
  obtain ⟨n, hn⟩ : ∃ n, l.length = n := ⟨_, rfl⟩
  have n2 := hv.n2
  have HR := Lib.hid hR; clear hR
  have HN := Lib.hid hn
  have HV := Lib.hid hv
  rw [hn] at m n2 ⊢
  clear hn hv
  go_enter Tryz.func90, Tryz.ntmps90
  go_wp2_with fail
  go_loopw [3, 4] (fun s i wr => ∃ k : Nat, k ≤ n ∧ i = .int .i64 (k : Int) ∧ s = .int .i64 (vX l k) ∧ wr = w) (fun _ i _ => n - (intOf i).toNat)
  case atStart => exact ⟨0, Nat.zero_le _, rfl, rfl, rfl⟩
  case round =>
    obtain ⟨k, hk, rfl, rfl, rfl⟩ := hrel
    obtain ⟨⟨p1, p2⟩, _⟩ := pt_bd HV.out (k := k) (by rw [HN.out]; exact hk)
    by_cases h0 : k < n
    · obtain ⟨b, off, rfl, hb, hc⟩ := HR.out.cells (by rw [HN.out]; omega)
      have d0 := hc k 0 (by rw [HN.out]; exact h0) (by omega)
      simp only [rgF, Nat.add_zero] at d0
      have hx : vX l (k + 1) = vX l k + (rg l k).h := rfl
      have r1 := (okRg_bd (okFrom_at HV.out.f k (by rw [HN.out]; exact h0))).1
      obtain ⟨R, hR⟩ : ∃ r, (rg l k).h = r := ⟨_, rfl⟩
      obtain ⟨X, hX⟩ : ∃ r, vX l k = r := ⟨_, rfl⟩
      rw [hR] at d0 r1 hx
      rw [hX] at hx p1 p2 ⊢
      have HX := Lib.hid hx
      clear hc hR hX hx
      go_wp2_with fail
      exact ⟨⟨k + 1, by omega, by go_num, by rw [HX.out], trivial⟩, by simp [intOf]; omega⟩
    · obtain rfl : k = n := by omega
      go_wp2_with fail
      go_ret
      exact ⟨by unfold hgt; rw [HN.out]; rfl, rfl⟩
set_option maxHeartbeats 1000000 in
theorem Sums_any (l : List Rg) (v : Value) (n : Nat) (w : World) (hR : RgR w v l) (hv : OkV l) (hn : n ≤ l.length) :
    Calls Tryz.prog 177 #[v, .int .i64 (n : Int)] w fun e w' => e = .returned (.agg #[.int .i64 (vX l n), .int .i64 (vV l n), .int .i64 (vY l n)]) ∧ Below w.heap.size w w' := by
  obtain ⟨o, c, rfl, m⟩ := hR.parts
  have n2 := hv.n2
  have HR := Lib.hid hR; clear hR
  have HV := Lib.hid hv
  obtain ⟨L, hL⟩ : ∃ n, l.length = n := ⟨_, rfl⟩
  rw [hL] at m n2 hn ⊢
  have HL := Lib.hid hL
  clear hv hL
  go_enter Tryz.func177, Tryz.ntmps177
  go_wp2_with fail
  go_loopw [6] (fun i wr => ∃ k : Nat, k ≤ n ∧ i = .int .i64 (k : Int) ∧ Hid (Bk wr w.heap.size 169 [.int .i64 0, .int .i64 0, .int .i64 0]) ∧ Hid (Bk wr (w.heap.size + 1) 169 [.int .i64 (vX l k), .int .i64 (vV l k), .int .i64 (vY l k)]) ∧ Below w.heap.size w wr) (fun i _ => n - (intOf i).toNat)
  case atStart => exact ⟨0, Nat.zero_le _, rfl, (Bk.new w _ [_, _, _]).alloc _, Bk.new1 w _ _ [_, _, _], belw⟩
  case round =>
    obtain ⟨k, hk, rfl, hz, hs, hbl⟩ := hrel
    have kb := vXY_bd HV.out.f k (by rw [HL.out]; omega)
    obtain ⟨⟨b1, b2⟩, ⟨b3, b4⟩, b5, b6⟩ := kb
    have s0 := hs.out.cell 0
    have s1 := hs.out.cell 1
    have s2 := hs.out.cell 2
    have g0 := hs.out.frozen 0
    have g1 := hs.out.frozen 1
    have g2 := hs.out.frozen 2
    have sl := hs.out.lt
    simp only [List.getElem?_cons_zero, List.getElem?_cons_succ] at s0 s1 s2
    by_cases h0 : k < n
    · obtain ⟨b, off, rfl, hb, hc⟩ := HR.out.cells (by rw [HL.out]; omega)
      have d0 := (hbl.cell (p := ⟨b, off + k * 3, none⟩) hb).trans (hc k 0 (by rw [HL.out]; omega) (by omega))
      have d1 := (hbl.cell (p := ⟨b, off + k * 3 + 1, none⟩) hb).trans (hc k 1 (by rw [HL.out]; omega) (by omega))
      have d2 := (hbl.cell (p := ⟨b, off + k * 3 + 2, none⟩) hb).trans (hc k 2 (by rw [HL.out]; omega) (by omega))
      simp only [rgF] at d0 d1 d2
      have r1 := okRg_bd (okFrom_at HV.out.f k (by rw [HL.out]; omega))
      have hx : vX l (k + 1) = vX l k + (rg l k).h := rfl
      have hy : vY l (k + 1) = vY l k + (rg l k).d := rfl
      have hvv : vV l (k + 1) = vV l k + (rg l k).v := rfl
      obtain ⟨X, hX⟩ : ∃ r, vX l k = r := ⟨_, rfl⟩
      obtain ⟨Y, hY⟩ : ∃ r, vY l k = r := ⟨_, rfl⟩
      obtain ⟨Z, hZ⟩ : ∃ r, vV l k = r := ⟨_, rfl⟩
      obtain ⟨r, hr⟩ : ∃ r, rg l k = r := ⟨_, rfl⟩
      rw [hX] at b1 b2 s0 hx hs
      rw [hY] at b3 b4 s2 hy hs
      rw [hZ] at b5 b6 s1 hvv hs
      rw [hr] at d0 d1 d2 r1 hx hy hvv
      obtain ⟨⟨r1, r2⟩, ⟨r3, r4⟩, r5, r6⟩ := r1
      have HX := Lib.hid hx
      have HY := Lib.hid hy
      have HZ := Lib.hid hvv
      clear hx hy hvv hc hX hY hZ hr
      have hne : b ≠ w.heap.size + 1 := by omega
      have hbw : b < wr.heap.size := Nat.lt_of_lt_of_le hb hbl.size
      go_wp2_with fail
      go_region
      go_wp2_with fail
      go_region
      go_wp2_with fail
      go_region
      go_wp2_with fail
      refine ⟨⟨k + 1, by omega, by go_num, ?_, ?_, ?_⟩, by simp [intOf]; omega⟩
      · exact Lib.hid (((hz.out.far (by simp) _).far (by simp) _).far (by simp) _).drew.drew.drew
      · rw [HX.out, HZ.out, HY.out]
        exact Lib.hid (((hs.out.set 0 _).set 1 _).set 2 _).drew.drew.drew
      · exact belw
    · obtain rfl : k = n := by omega
      have z0 := hz.out.cell 0
      have z1 := hz.out.cell 1
      have z2 := hz.out.cell 2
      have zf0 := hz.out.frozen 0
      have zf1 := hz.out.frozen 1
      have zf2 := hz.out.frozen 2
      simp only [List.getElem?_cons_zero, List.getElem?_cons_succ] at z0 z1 z2
      go_wp2_with fail
      refine bodyPost_ret (v := .agg #[.int .i64 (vX l k), .int .i64 (vV l k), .int .i64 (vY l k)]) (results_cell_row rfl _ _ w.heap.size _ _ (0, 0) _ rfl (((hz.out.set 0 _).set 1 _).set 2 _) Tryz.underlying169 rfl (by kernel_rfl)) rfl ⟨rfl, ?_⟩
      exact belw
set_option maxRecDepth 100000 in
set_option maxHeartbeats 2000000 in
theorem r2Emptying_any (l : List Rg) (v : Value) (w : World) (hR : RgR w v l) (hv : OkV l) :
    Calls Tryz.prog 141 #[v] w fun e w' => ∃ pv, e = .returned (.tuple #[pv, .int .i64 0]) ∧ Below w.heap.size w w' ∧ PtR w' pv l := by
  have HC := r2Check_any l v w hR
  have hc : chkV l = 0 := by simp [chkV, (okv_iff l).2 hv]
  rw [hc] at HC
  obtain ⟨o, c, rfl, m⟩ := hR.parts
  have n2 := hv.n2
  have HR := Lib.hid hR; clear hR
  have HV := Lib.hid hv
  obtain ⟨n, hL⟩ : ∃ n, l.length = n := ⟨_, rfl⟩
  rw [hL] at m n2 HR HC ⊢
  have HL := Lib.hid hL
  have HC := Lib.hid HC
  clear hv hL hc
  go_enter Tryz.func141, Tryz.ntmps141
  go_wp2_with fail
  refine HC.out.mono ?_
  rintro e w1 ⟨rfl, hb1⟩
  have HB1 := Lib.hid hb1
  have HR1 := Lib.hid (HR.out.below hb1)
  clear hb1
  go_wp2_with fail
  go_loopw [5, 6] (fun p i wr => ∃ (k : Nat), k ≤ n + 1 ∧ i = .int .i64 (k : Int) ∧ Hid (OwnR wr w1.heap.size 219 2 p k (ptF l)) ∧ Hid (Below w1.heap.size w1 wr)) (fun _ i _ => (n + 1) - (intOf i).toNat)
  case atStart => exact ⟨0, Nat.zero_le _, rfl, OwnR.nil _ _ _ _ _, Below.refl _ _⟩
  case round =>
    obtain ⟨k, hk, rfl, hO, hbl⟩ := hrel
    by_cases h0 : k < n + 1
    · go_wp2_with fail
      refine (Sums_any l _ k wr (HR1.out.below hbl.out) HV.out (by rw [HL.out]; omega)).mono ?_
      rintro e w2 ⟨rfl, hb2⟩
      have HB2 := Lib.hid (hbl.out.trans (hb2.mono hbl.out.size))
      have HO := Lib.hid (owns_below hO.out hb2)
      clear hb2
      obtain ⟨X, hX⟩ : ∃ x, vX l k = x := ⟨_, rfl⟩
      obtain ⟨Y, hY⟩ : ∃ x, vY l k = x := ⟨_, rfl⟩
      obtain ⟨Z, hZ⟩ : ∃ x, vV l k = x := ⟨_, rfl⟩
      rw [hX, hY, hZ]
      have HX := Lib.hid hX; clear hX
      have HY := Lib.hid hY; clear hY
      have hsz := HB2.out.size
      clear hZ
      go_wp2_with (with_reducible refine list_own Tryz.underlying76 ptF_el (by decide) (by decide) rfl (.tmp 22) (.tmp 28) rfl w1.heap.size _ k (cellsL (ptF l) 2 k) rfl (owns_below (owns_below HO.out (ballo _ _)) (ballo _ _)) ⟨w2.heap.size + 1, 0, none⟩ _ [.int .i64 X, .int .i64 Y] rfl rfl (news_bk (Bk.new1 _ _ _ [_, _])) ?_ ?_ ?_ ?_)
      · intro u hu; simp at hu; rcases hu with rfl | rfl <;> rfl
      · omega
      · simp; omega
      intro g1 t2 q3 hO1 hP1 hG1 _
      go_wp2_with fail
      refine ⟨⟨k + 1, by omega, by go_num, ?_, ?_⟩, by simp [intOf]; omega⟩
      · have e : cellsL (ptF l) 2 (k + 1) = cellsL (ptF l) 2 k ++ [.int .i64 X, .int .i64 Y] := by
          rw [cellsL]; simp [ptF, List.range_succ, HX.out, HY.out]
        unfold OwnR
        rw [e]
        exact Lib.hid hO1
      · exact Lib.hid (Below.trans ((HB2.out.alloc hsz _).alloc (by simp; omega) _) hP1)
    · obtain rfl : k = n + 1 := by omega
      have hPt := hO.out.row
      rw [← HL.out] at hPt
      obtain ⟨op, cp, rfl, _⟩ := hPt.parts
      go_wp2_with fail
      go_ret2
      exact ⟨_, rfl, bthen HB1.out hbl.out, hPt⟩
set_option maxRecDepth 100000 in
set_option maxHeartbeats 2000000 in
theorem Valid_any (l : List Rg) (v : Value) (w : World) (hv : OkV l) (hP : PtR w v l) : Calls Tryz.prog 178 #[v] w fun e w' => e = .returned (.bool true) ∧ Below w.heap.size w w' := by
  obtain ⟨o, c, rfl, m⟩ := hP.parts
  have n1 := hv.n1
  have n2 := hv.n2
  have HP := Lib.hid hP; clear hP
  have HV := Lib.hid hv
  obtain ⟨n, hL⟩ : ∃ n, l.length = n := ⟨_, rfl⟩
  rw [hL] at m n1 n2 HP ⊢
  have HL := Lib.hid hL
  clear hv hL
  go_enter Tryz.func178, Tryz.ntmps178
  go_wp2_with fail
  go_loopw [3] (fun i wr => ∃ k : Nat, k ≤ n + 1 ∧ i = .int .i64 (k : Int) ∧ Hid (Below w.heap.size w wr)) (fun i _ => n + 1 - (intOf i).toNat)
  case atStart => exact ⟨0, Nat.zero_le _, rfl, Below.refl _ _⟩
  case round =>
    obtain ⟨k, hk, rfl, hbl⟩ := hrel
    by_cases h0 : k < n + 1
    · obtain ⟨b, off, rfl, hb, hc⟩ := HP.out.cells (by have := HL.out; omega)
      have d0 := (hbl.out.cell (p := ⟨b, off + k * 2, none⟩) hb).trans (hc k 0 (by rw [HL.out]; omega) (by omega))
      have d1 := (hbl.out.cell (p := ⟨b, off + k * 2 + 1, none⟩) hb).trans (hc k 1 (by rw [HL.out]; omega) (by omega))
      simp only [ptF] at d0 d1
      obtain ⟨⟨p1, p2⟩, p3, p4⟩ := pt_bd HV.out (k := k) (by rw [HL.out]; omega)
      by_cases hk0 : k = 0
      · subst hk0
        obtain ⟨X, hX⟩ : ∃ x, vX l 0 = x := ⟨_, rfl⟩
        obtain ⟨Y, hY⟩ : ∃ x, vY l 0 = x := ⟨_, rfl⟩
        rw [hX] at d0 p1 p2
        rw [hY] at d1 p3 p4
        simp only [Nat.zero_mul, Nat.add_zero] at d0 d1
        have HB := Lib.hid hbl.out
        clear hX hY hc hbl
        go_wp2_with fail
        refine wp_region_more (by kernel_rfl) (by kernel_rfl) ?_
        iterate 8 (try (first | go_big_quiet_step (fail) | quiet_step (fail)))
        iterate 8 (try (first | go_big_quiet_step (fail) | quiet_step (fail)))
        iterate 8 (try (first | go_big_quiet_step (fail) | quiet_step (fail)))
        iterate 8 (try (first | go_big_quiet_step (fail) | quiet_step (fail)))
        iterate 8 (try (first | go_big_quiet_step (fail) | quiet_step (fail)))
        refine wpQuiet_nil ?_
        rintro ⟨wm, hbm⟩
        try dsimp only
        go_wp2_with fail
        exact ⟨⟨1, by omega, rfl, Lib.hid (HB.out.trans (hbm.mono HB.out.size))⟩, by simp [intOf]⟩
      · have e0 := (hbl.out.cell (p := ⟨b, off + (k - 1) * 2, none⟩) hb).trans (hc (k - 1) 0 (by rw [HL.out]; omega) (by omega))
        have e1 := (hbl.out.cell (p := ⟨b, off + (k - 1) * 2 + 1, none⟩) hb).trans (hc (k - 1) 1 (by rw [HL.out]; omega) (by omega))
        simp only [ptF] at e0 e1
        obtain ⟨lx, ly⟩ := vX_lt HV.out.f (i := k - 1) (j := k) (by omega) (by rw [HL.out]; omega)
        have hn1 : ((k : Int) - 1).toNat = k - 1 := by omega
        have hkk : 0 < k := by omega
        have hw1 : IntKind.i64.wrap ((k : Int) - 1) = (k : Int) - 1 := IntWalk.i64_in _ (by omega)
        obtain ⟨X, hX⟩ : ∃ x, vX l k = x := ⟨_, rfl⟩
        obtain ⟨Y, hY⟩ : ∃ x, vY l k = x := ⟨_, rfl⟩
        obtain ⟨X0, hX0⟩ : ∃ x, vX l (k - 1) = x := ⟨_, rfl⟩
        obtain ⟨Y0, hY0⟩ : ∃ x, vY l (k - 1) = x := ⟨_, rfl⟩
        rw [hX] at d0 p1 p2 lx
        rw [hY] at d1 p3 p4 ly
        rw [hX0] at e0 lx
        rw [hY0] at e1 ly
        have hd1 : decide (X ≤ X0) = false := by simp; omega
        have hd2 : decide (Y ≤ Y0) = false := by simp; omega
        have HB := Lib.hid hbl.out
        have mc := @more_cell wr
        have hbw : b < wr.heap.size := Nat.lt_of_lt_of_le hb hbl.out.size
        clear hX hY hX0 hY0 hc hbl hk0
        go_wp2_with fail
        refine wp_region_more (by kernel_rfl) (by kernel_rfl) ?_
        iterate 8 (try (first | go_big_quiet_step (fail) | quiet_step (fail)))
        iterate 8 (try (first | go_big_quiet_step (fail) | quiet_step (fail)))
        iterate 8 (try (first | go_big_quiet_step (fail) | quiet_step (fail)))
        iterate 8 (try (first | go_big_quiet_step (fail) | quiet_step (fail)))
        iterate 8 (try (first | go_big_quiet_step (fail) | quiet_step (fail)))
        refine wpQuiet_nil ?_
        rintro ⟨wm, hbm⟩
        try dsimp only
        go_wp2_with fail
        exact ⟨⟨k + 1, by omega, by go_num, Lib.hid (HB.out.trans (hbm.mono HB.out.size))⟩, by simp [intOf]; omega⟩
    · obtain rfl : k = n + 1 := by omega
      go_wp2_with fail
      go_ret
      exact ⟨rfl, hbl.out⟩
theorem From_any (l : List Rg) (v : Value) (w : World) (hP : PtR w v l) : Calls Tryz.prog 190 #[v] w fun e w' => e = .returned (.int .i64 0) ∧ w = w' := by
  obtain ⟨o, c, rfl, m⟩ := hP.parts
  obtain ⟨b, off, rfl, hb, hc⟩ := hP.cells (by omega)
  have d0 := hc 0 0 (by omega) (by omega)
  simp only [ptF, Nat.add_zero, Nat.zero_mul, vX] at d0
  clear hc hP
  go_enter Tryz.func190, Tryz.ntmps190
  go_wp2_with fail
  go_ret
  simp
theorem To_any (l : List Rg) (v : Value) (w : World) (hP : PtR w v l) : Calls Tryz.prog 191 #[v] w fun e w' => e = .returned (.int .i64 (vX l l.length)) ∧ w = w' := by
  obtain ⟨o, c, rfl, m⟩ := hP.parts
  obtain ⟨b, off, rfl, hb, hc⟩ := hP.cells (by omega)
  have d0 := hc l.length 0 (by omega) (by omega)
  simp only [ptF, Nat.add_zero] at d0
  obtain ⟨n, hL⟩ : ∃ n, l.length = n := ⟨_, rfl⟩
  rw [hL] at d0 m ⊢
  obtain ⟨X, hX⟩ : ∃ x, vX l n = x := ⟨_, rfl⟩
  rw [hX] at d0 ⊢
  clear hc hP hX hL
  have t1 : ((n : Int) + 1 - 1).toNat = n := by omega
  go_enter Tryz.func191, Tryz.ntmps191
  go_wp2_with fail
  go_ret
  simp
theorem In_any (l : List Rg) (v : Value) (x : Int) (w : World) (hP : PtR w v l) (x0 : 0 ≤ x) (xn : x ≤ vX l l.length) : Calls Tryz.prog 179 #[v, .int .i64 x] w fun e w' => e = .returned (.bool true) ∧ w = w' := by
  have k1 := From_any l v w hP
  have k2 := To_any l v w hP
  obtain ⟨o, c, rfl, m⟩ := hP.parts
  obtain ⟨X, hX⟩ : ∃ X, vX l l.length = X := ⟨_, rfl⟩
  rw [hX] at xn k2
  obtain ⟨n, hL⟩ : ∃ n, l.length = n := ⟨_, rfl⟩
  rw [hL] at k1 k2 m ⊢
  have K1 := Lib.hid k1
  have K2 := Lib.hid k2
  clear k1 k2 hP hX hL
  go_enter Tryz.func179, Tryz.ntmps179
  go_wp2_with fail
  refine K1.out.mono ?_
  rintro e w1 ⟨rfl, rfl⟩
  go_wp2_with fail
  refine K2.out.mono ?_
  rintro e w1 ⟨rfl, rfl⟩
  go_wp2_with fail
  go_ret
  simp
set_option maxRecDepth 100000 in
theorem rline_any (l : List Rg) (v : Value) (x : Int) (w : World) (hv : OkV l) (hP : PtR w v l) (x0 : 0 ≤ x) (xn : x ≤ vX l l.length) :
    Calls Tryz.prog 192 #[v, .int .i64 x] w fun e w' => ∃ k : Nat, k < l.length ∧ vX l k ≤ x ∧ x ≤ vX l (k + 1) ∧ e = .returned (.int .i64 (k : Int)) ∧ w = w' := by
  obtain ⟨o, c, rfl, m⟩ := hP.parts
  have n1 := hv.n1
  have n2 := hv.n2
  have HP := Lib.hid hP; clear hP
  have HV := Lib.hid hv
  obtain ⟨n, hL⟩ : ∃ n, l.length = n := ⟨_, rfl⟩
  rw [hL] at m n1 n2 HP ⊢
  have HL := Lib.hid hL
  clear hv hL
  have XN := Lib.hid xn; clear xn
  rw [HL.out] at XN
  go_enter Tryz.func192, Tryz.ntmps192
  go_wp2_with fail
  go_loopw [5] (fun i wr => ∃ k : Nat, k + 1 ≤ n ∧ i = .int .i64 (k : Int) ∧ Hid (vX l k ≤ x) ∧ w = wr) (fun i _ => n - (intOf i).toNat)
  case atStart => exact ⟨0, n1, rfl, Lib.hid x0, rfl⟩
  case round =>
    obtain ⟨k, hk, rfl, hx, rfl⟩ := hrel
    by_cases h0 : k + 1 < n
    · obtain ⟨b, off, rfl, hb, hc⟩ := HP.out.cells (by have := HL.out; omega)
      have d0 := hc (k + 1) 0 (by rw [HL.out]; omega) (by omega)
      simp only [ptF, Nat.add_zero] at d0
      have hn1 : ((k : Int) + 1).toNat = k + 1 := by omega
      have i1 : (k : Int) < (n : Int) + 1 - 2 := by omega
      clear hc
      by_cases hle : vX l (k + 1) ≤ x
      · have HLE := Lib.hid hle
        obtain ⟨X, hX⟩ : ∃ x, vX l (k + 1) = x := ⟨_, rfl⟩
        rw [hX] at hle d0
        clear hX
        go_wp2_with fail
        exact ⟨⟨k + 1, by omega, by go_num, HLE, trivial⟩, by simp [intOf]; omega⟩
      · have HLE := Lib.hid (show x ≤ vX l (k + 1) by omega)
        obtain ⟨X, hX⟩ : ∃ x, vX l (k + 1) = x := ⟨_, rfl⟩
        rw [hX] at hle d0
        clear hX
        go_wp2_with fail
        go_ret
        exact ⟨k, by omega, hx.out, HLE.out, rfl, rfl⟩
    · obtain rfl : n = k + 1 := by omega
      have i1 : ¬ (k : Int) < ((k + 1 : Nat) : Int) + 1 - 2 := by omega
      go_wp2_with fail
      go_ret
      exact ⟨k, by omega, hx.out, XN.out, rfl, rfl⟩
set_option maxRecDepth 100000 in
set_option maxHeartbeats 2000000 in
theorem rat_any (l : List Rg) (v : Value) (x : Int) (w : World) (hv : OkV l) (hP : PtR w v l) (x0 : 0 ≤ x) (xn : x ≤ vX l l.length) :
    Calls Tryz.prog 180 #[v, .int .i64 x] w fun e w' => e = .returned (.agg #[.int .i64 (tmN l x), .int .i64 (tmD l x)]) ∧ Below w.heap.size w w' := by
  obtain ⟨o, c, rfl, m⟩ := hP.parts
  obtain ⟨tn, htn⟩ : ∃ n, tmN l x = n := ⟨_, rfl⟩
  obtain ⟨td, htd⟩ : ∃ n, tmD l x = n := ⟨_, rfl⟩
  rw [htn, htd]
  have hL := rline_any l _ x _ hv (hP.alloc (Obj.cells #[.int .i64 0, .int .i64 0] 41)) x0 xn
  have HP := Lib.hid hP; clear hP
  have HV := Lib.hid hv
  obtain ⟨n, hn⟩ : ∃ n, l.length = n := ⟨_, rfl⟩
  rw [hn] at m hL HP ⊢
  have HN := Lib.hid hn
  have HL := Lib.hid hL
  have HTN := Lib.hid htn
  have HTD := Lib.hid htd
  clear hL hv hn htn htd xn
  go_enter Tryz.func180, Tryz.ntmps180
  go_wp2_with fail
  refine HL.out.mono ?_
  rintro e w1 ⟨k, k1, k2, k3, rfl, rfl⟩
  have kl : k < l.length := by rw [HN.out]; exact k1
  obtain ⟨t1, t2⟩ := tm_at ((okv_iff l).2 HV.out) kl k2 k3
  obtain ⟨r1, _, r3⟩ := okRg_bd (okFrom_at HV.out.f k kl)
  obtain ⟨⟨p1, p2⟩, p3, p4⟩ := pt_bd HV.out (k := k) (by omega)
  obtain ⟨⟨q1, q2⟩, q3, q4⟩ := pt_bd HV.out (k := k + 1) (by omega)
  obtain ⟨b, off, rfl, hb, hc⟩ := HP.out.cells (by omega)
  have d0 := hc k 0 (by omega) (by omega)
  have d1 := hc k 1 (by omega) (by omega)
  have e0 := hc (k + 1) 0 (by omega) (by omega)
  have e1 := hc (k + 1) 1 (by omega) (by omega)
  simp only [ptF, Nat.add_zero] at d0 d1 e0 e1
  have hx : vX l (k + 1) = vX l k + (rg l k).h := rfl
  have hy : vY l (k + 1) = vY l k + (rg l k).d := rfl
  have nn := tN0_nn HV.out.f kl k2 k3
  unfold tN0 at t1 t2 nn
  have ex : (rg l k).h = vX l (k + 1) - vX l k := by omega
  have ey : (rg l k).d = vY l (k + 1) - vY l k := by omega
  rw [ex] at t1 t2 nn r1
  rw [ey] at t1 t2 nn r3
  have m1 := mul_bd (a := x - vX l k) (b := vY l (k + 1) - vY l k) (A := 1000) (B := 20000) (by omega) (by omega) (by omega) (by omega)
  have m2 := mul_bd (a := vY l k) (b := vX l (k + 1) - vX l k) (A := 480000) (B := 1000) (by omega) (by omega) (by omega) (by omega)
  have m3 := mul_bd (a := vY l (k + 1)) (b := vX l (k + 1) - vX l k) (A := 480000) (B := 1000) (by omega) (by omega) (by omega) (by omega)
  rw [HTN.out] at t1
  rw [HTD.out] at t2
  have T1 := Lib.hid t1
  have T2 := Lib.hid t2
  clear t1 t2 ex ey hx hy hc kl
  generalize vX l k = X at *
  generalize vY l k = Y at *
  generalize vX l (k + 1) = X1 at *
  generalize vY l (k + 1) = Y1 at *
  obtain ⟨B, hB⟩ : ∃ B, X1 - X = B := ⟨_, rfl⟩
  obtain ⟨H, hH⟩ : ∃ B, Y1 - Y = B := ⟨_, rfl⟩
  simp only [hB, hH] at m1 m2 m3 nn r1 r3 T1 T2
  obtain ⟨A, hA⟩ : ∃ A, (x - X) * H = A := ⟨_, rfl⟩
  obtain ⟨C, hC⟩ : ∃ A, Y * B = A := ⟨_, rfl⟩
  simp only [hA, hC] at m1 m2 nn T1 T2
  obtain ⟨nn1, nn2⟩ := nn
  obtain ⟨m31, m32⟩ := m3
  have nn3 : C + A ≤ 4611686018427387904 := by omega
  clear m31 m32 nn2
  have hn1 : ((k : Int) + 1).toNat = k + 1 := by omega
  have hbw : b < w.heap.size + 1 := by omega
  obtain ⟨W, hW⟩ : ∃ W, w.alloc (Obj.cells #[.int .i64 0, .int .i64 0] 41) = W := ⟨_, rfl⟩
  have hWB : Bk W w.heap.size 41 [.int .i64 0, .int .i64 0] := by rw [← hW]; exact Bk.new w _ [_, _]
  have hWW : Below w.heap.size w W := by rw [← hW]; exact ballo _ _
  have D0 : W.cell? ⟨b, off + k * 2, none⟩ = some (.int .i64 X) := (hWW.cell hb).trans d0
  have D1 : W.cell? ⟨b, off + k * 2 + 1, none⟩ = some (.int .i64 Y) := (hWW.cell hb).trans d1
  have E0 : W.cell? ⟨b, off + (k + 1) * 2, none⟩ = some (.int .i64 X1) := (hWW.cell hb).trans e0
  have E1 : W.cell? ⟨b, off + (k + 1) * 2 + 1, none⟩ = some (.int .i64 Y1) := (hWW.cell hb).trans e1
  have hbW : b < W.heap.size := Nat.lt_of_lt_of_le hb hWW.size
  rw [hW]
  have HWB := Lib.hid hWB
  have HWW := Lib.hid hWW
  clear hW d0 d1 e0 e1 hWB hWW
  go_wp2_with fail
  go_quiet (fail)
  go_wp2_with fail
  go_quiet (fail)
  generalize hV : World.drewN (World.drewN W _) _ = V
  have hVB : Below W.heap.size W V := by rw [← hV]; exact below_drewN (below_drewN (Below.refl _ _) _) _
  have D0' : V.cell? ⟨b, off + k * 2, none⟩ = some (.int .i64 X) := (hVB.cell hbW).trans D0
  have D1' : V.cell? ⟨b, off + k * 2 + 1, none⟩ = some (.int .i64 Y) := (hVB.cell hbW).trans D1
  have hbV : b < V.heap.size := Nat.lt_of_lt_of_le hbW hVB.size
  have HWB := Lib.hid (HWB.out.below hVB)
  have HWW := Lib.hid (HWW.out.trans (hVB.mono HWW.out.size))
  have mc := @more_cell V
  have g1 : ∀ i : More V, _ := fun i => more_call (r1lowest_any (C + A) B i.x (by omega) nn3 (by omega) (by omega))
  rw [T1.out, T2.out] at g1
  have G1 := Lib.hid g1
  clear g1 hV hVB D0 D1 E0 E1 T1 T2 hB hH hbW
  have hw1 : IntKind.i64.wrap (Y * B) = C := by rw [hC]; exact IntWalk.i64_in _ (by omega)
  have hw2 : IntKind.i64.wrap (C + A) = C + A := IntWalk.i64_in _ (by omega)
  go_wp2_with fail
  refine wp_head_more [0, 1, 2, 3, 4, 5, 6, 7, 8, 9, 10, 11, 12, 13, 14, 15, 16, 17, 18] [19] (by kernel_rfl) (by kernel_rfl) ?_
  simp only [hPick, List.getElem?_cons_zero, List.getElem?_cons_succ]
  iterate 8 (try (first | go_big_quiet_step ((with_reducible first | exact G1.out _)) | quiet_step ((with_reducible first | exact G1.out _))))
  iterate 8 (try (first | go_big_quiet_step ((with_reducible first | exact G1.out _)) | quiet_step ((with_reducible first | exact G1.out _))))
  iterate 8 (try (first | go_big_quiet_step ((with_reducible first | exact G1.out _)) | quiet_step ((with_reducible first | exact G1.out _))))
  iterate 8 (try (first | go_big_quiet_step ((with_reducible first | exact G1.out _)) | quiet_step ((with_reducible first | exact G1.out _))))
  iterate 8 (try (first | go_big_quiet_step ((with_reducible first | exact G1.out _)) | quiet_step ((with_reducible first | exact G1.out _))))
  refine wpQuiet_nil ?_
  rintro ⟨wm, hbm⟩
  try dsimp only
  have z := HWB.out.below hbm
  have z0 := z.cell 0
  have z1 := z.cell 1
  have f0 := z.frozen 0
  have f1 := z.frozen 1
  simp only [List.getElem?_cons_zero, List.getElem?_cons_succ] at z0 z1
  go_wp2_with fail
  refine bodyPost_ret (v := .agg #[.int .i64 tn, .int .i64 td]) (results_cell_row rfl _ _ w.heap.size _ _ (0, 0) _ rfl ((z.set 0 _).set 1 _) Tryz.underlying41 rfl (by kernel_rfl)) rfl ⟨rfl, ?_⟩
  exact ((HWW.out.trans (hbm.mono HWW.out.size)).setCell (Nat.le_refl _) _).setCell (Nat.le_refl _) _
set_option maxRecDepth 100000 in
theorem rExact_any (l : List Rg) (v : Value) (x : Int) (w : World) (hv : OkV l) (hP : PtR w v l) (x0 : 0 ≤ x) (xn : x ≤ vX l l.length) :
    Calls Tryz.prog 142 #[v, .int .i64 x] w fun e w' => e = .returned (.tuple #[.agg #[.int .i64 (tmN l x), .int .i64 (tmD l x)], .int .i64 0]) ∧ Below w.heap.size w w' := by
  have h1 := Valid_any l v _ hv (hP.alloc (Obj.cells #[.int .i64 0, .int .i64 0] 41))
  have h2 := fun w (hP : PtR w v l) => In_any l v x w hP x0 xn
  have h3 := fun w (hP : PtR w v l) => rat_any l v x w hv hP x0 xn
  obtain ⟨tn, htn⟩ : ∃ n, tmN l x = n := ⟨_, rfl⟩
  obtain ⟨td, htd⟩ : ∃ n, tmD l x = n := ⟨_, rfl⟩
  simp only [htn, htd] at h3 ⊢
  obtain ⟨o, c, rfl, m⟩ := hP.parts
  have HP := Lib.hid (hP.alloc (Obj.cells #[.int .i64 0, .int .i64 0] 41))
  have HB := Lib.hid (Bk.new w 41 [.int .i64 0, .int .i64 0])
  have H1 := Lib.hid h1
  have H2 := Lib.hid h2
  have H3 := Lib.hid h3
  clear h1 h2 h3 hP htn htd hv xn
  go_enter Tryz.func142, Tryz.ntmps142
  go_wp2_with fail
  refine H1.out.mono ?_
  rintro e w1 ⟨rfl, hb1⟩
  have HP1 := Lib.hid (HP.out.below hb1)
  have HB1 := Lib.hid (HB.out.below hb1)
  have HW1 := Lib.hid (bafter hb1)
  clear hb1
  go_wp2_with fail
  refine (H2.out _ HP1.out).mono ?_
  rintro e w2 ⟨rfl, rfl⟩
  go_wp2_with fail
  refine (H3.out _ HP1.out).mono ?_
  rintro e w2 ⟨rfl, hb2⟩
  have z := HB1.out.below hb2
  have z0 := z.cell 0
  have z1 := z.cell 1
  have f0 := z.frozen 0
  have f1 := z.frozen 1
  simp only [List.getElem?_cons_zero, List.getElem?_cons_succ] at z0 z1
  go_wp2_with fail
  refine bodyPost_ret (ret_cell_tmp rfl _ _ rfl ((z.set 0 (.int .i64 tn)).set 1 (.int .i64 td)) Tryz.underlying41 rfl (by kernel_rfl)) rfl ⟨rfl, ?_⟩
  exact ((bthen HW1.out hb2).setCell (Nat.le_refl _) _).setCell (Nat.le_refl _) _
set_option maxRecDepth 100000 in
theorem Time_any (l : List Rg) (v : Value) (x : Int) (w : World) (hR : RgR w v l) (hv : OkV l) (x0 : 0 ≤ x) (xn : x ≤ hgt l) :
    Calls Tryz.prog 74 #[v, .int .i64 x] w fun e w' => e = .returned (.agg #[.int .i64 (tmN l x), .int .i64 (tmD l x)]) ∧ Below w.heap.size w w' := by
  have h1 := r2Emptying_any l v _ (hR.alloc (Obj.cells #[.int .i64 0, .int .i64 0] 41)) hv
  have h3 := fun pv w (hP : PtR w pv l) => rExact_any l pv x w hv hP x0 xn
  obtain ⟨tn, htn⟩ : ∃ n, tmN l x = n := ⟨_, rfl⟩
  obtain ⟨td, htd⟩ : ∃ n, tmD l x = n := ⟨_, rfl⟩
  simp only [htn, htd] at h3 ⊢
  obtain ⟨o, c, rfl, m⟩ := hR.parts
  have HB := Lib.hid (Bk.new w 41 [.int .i64 0, .int .i64 0])
  have H1 := Lib.hid h1
  have H3 := Lib.hid h3
  clear h1 h3 hR htn htd hv xn
  go_enter Tryz.func74, Tryz.ntmps74
  go_wp2_with fail
  refine H1.out.mono ?_
  rintro e w1 ⟨pv, rfl, hb1, hP⟩
  have HP1 := Lib.hid hP
  have HB1 := Lib.hid (HB.out.below hb1)
  have HW1 := Lib.hid (bafter hb1)
  obtain ⟨op, cp, rfl, mp⟩ := hP.parts
  clear hb1 hP
  go_wp2_with fail
  refine (H3.out _ _ HP1.out).mono ?_
  rintro e w2 ⟨rfl, hb2⟩
  have z := HB1.out.below hb2
  have z0 := z.cell 0
  have z1 := z.cell 1
  have f0 := z.frozen 0
  have f1 := z.frozen 1
  have zl := z.lt
  have hW := bthen HW1.out hb2
  have hs := hW.size
  simp only [List.getElem?_cons_zero, List.getElem?_cons_succ] at z0 z1
  go_wp2_with fail
  refine bodyPost_ret (v := .agg #[.int .i64 tn, .int .i64 td]) (results_cell_row rfl _ _ w.heap.size _ _ (0, 0) _ rfl (((z.set 0 _).set 1 _).alloc _) Tryz.underlying41 rfl (by kernel_rfl)) rfl ⟨rfl, ?_⟩
  exact belw
theorem quiet_max {P : Program} {ops : Array Oper} {C : World → Prop} {Q : Act → Prop} {o : Oper} {rest : List Oper} {a : Act} {x y : Operand} {ts : Array TypeId} {m n : Int} (hw : Region.wanted o (yielded ops a.tmps) = true)
    (ho : o.op = .call { callee := .builtin .max, args := #[x, y], argTypes := ts }) (hx : a.eval x = .int .i64 m) (hy : a.eval y = .int .i64 n) (h : wpQuiet P ops C Q rest (a.put o.dst (.int .i64 (max m n)))) : wpQuiet P ops C Q (o :: rest) a := by
  refine BigFrame.wpQuiet_want hw fun K hK => ⟨.int .i64 (max m n), fun w _ => ?_, hK _ h⟩
  obtain ⟨d, op, t, p, af, g⟩ := o
  simp only at ho
  subst ho
  unfold Oper.quietAt
  have e : ∀ (ev : Operand → Value), ev x = .int .i64 m → ev y = .int .i64 n → (execOp ev { dst := d, op := .call { callee := .builtin .max, args := #[x, y], argTypes := ts }, type := t, pos := p, after := af, guard := g }).run P w = .ok (.value (.int .i64 (max m n))) w := by
    intro ev hx hy
    simp [go_sem, hx, hy, Builtin.max_, Builtin.max2]
    omega
  rw [e _ hx hy]
  exact ⟨rfl, rfl⟩
theorem quiet_min {P : Program} {ops : Array Oper} {C : World → Prop} {Q : Act → Prop} {o : Oper} {rest : List Oper} {a : Act} {x y : Operand} {ts : Array TypeId} {m n : Int} (hw : Region.wanted o (yielded ops a.tmps) = true)
    (ho : o.op = .call { callee := .builtin .min, args := #[x, y], argTypes := ts }) (hx : a.eval x = .int .i64 m) (hy : a.eval y = .int .i64 n) (h : wpQuiet P ops C Q rest (a.put o.dst (.int .i64 (min m n)))) : wpQuiet P ops C Q (o :: rest) a := by
  refine BigFrame.wpQuiet_want hw fun K hK => ⟨.int .i64 (min m n), fun w _ => ?_, hK _ h⟩
  obtain ⟨d, op, t, p, af, g⟩ := o
  simp only at ho
  subst ho
  unfold Oper.quietAt
  have e : ∀ (ev : Operand → Value), ev x = .int .i64 m → ev y = .int .i64 n → (execOp ev { dst := d, op := .call { callee := .builtin .min, args := #[x, y], argTypes := ts }, type := t, pos := p, after := af, guard := g }).run P w = .ok (.value (.int .i64 (min m n))) w := by
    intro ev hx hy
    simp [go_sem, hx, hy, Builtin.min_, Builtin.min2]
    omega
  rw [e _ hx hy]
  exact ⟨rfl, rfl⟩
set_option maxHeartbeats 4000000 in
theorem Ends_any (l : List Rg) (v : Value) (k : Lk) (w : World) (hR : RgR w v l) (hv : OkV l) (hk : okLk (hgt l) k = true) :
    Calls Tryz.prog 84 #[v, .agg #[.int .i64 k.lv, .int .i64 k.er]] w fun e w' => e = .returned (.tuple #[.int .i64 (endA k), .int .i64 (endB (hgt l) k)]) ∧ Below w.heap.size w w' := by
  have h1 := fun w (h : RgR w v l) => Height_any l v w h hv
  have hH := (pt_bd hv (Nat.le_refl _)).1
  have hh : hgt l = vX l l.length := rfl
  rw [← hh] at hH
  obtain ⟨H, hH'⟩ : ∃ H, hgt l = H := ⟨_, rfl⟩
  rw [hH'] at hk hH
  simp only [hH'] at h1 ⊢
  simp only [okLk, Bool.and_eq_true, decide_eq_true_eq] at hk
  obtain ⟨⟨k1, k2⟩, k3, k4⟩ := hk
  obtain ⟨o, c, rfl, m⟩ := hR.parts
  have hR0 := hR.alloc (Obj.cells #[.int .i64 k.lv, .int .i64 k.er] 25)
  have g1 : ∀ i : More (w.alloc (Obj.cells #[.int .i64 k.lv, .int .i64 k.er] 25)), _ := fun i => more_same ((h1 i.x (hR0.below i.h)).mono fun _ _ ⟨a, b⟩ => ⟨a, b.symm⟩)
  have mc := @more_cell (w.alloc (Obj.cells #[.int .i64 k.lv, .int .i64 k.er] 25))
  have G1 := Lib.hid g1
  clear g1 h1 hR hR0 hv hh hH'
  unfold endA endB
  go_enter Tryz.func84, Tryz.ntmps84
  go_wp2_with fail
  refine wp_region_more (by kernel_rfl) (by kernel_rfl) ?_
  iterate 5 (first | go_big_quiet_step (fail) | quiet_step (fail))
  refine quiet_max rfl rfl rfl rfl ?_
  simp only [Act.put, puts]
  iterate 7 (first | go_big_quiet_step (with_reducible exact G1.out _) | quiet_step (with_reducible exact G1.out _))
  refine quiet_min rfl rfl rfl rfl ?_
  simp only [Act.put, puts]
  iterate 2 (first | go_big_quiet_step (fail) | quiet_step (fail))
  refine wpQuiet_nil ?_
  rintro ⟨wm, hbm⟩
  try dsimp only
  go_wp2_with fail
  go_ret2
  exact ⟨rfl, bafter hbm⟩
end Go.Proofs.YtnfndiafabhhdaaGreat
