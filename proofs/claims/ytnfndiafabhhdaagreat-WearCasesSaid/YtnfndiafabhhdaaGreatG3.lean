/- Walks of the reference's Some and between (Wear). -/
import Derived.Test.YtnfndiafabhhdaaGreatG2
namespace Go.Proofs.YtnfndiafabhhdaaGreat
open Go.ChangeShapes Go.WideShapes Go.ChangeAt Go.RowKit
set_option maxRecDepth 100000 in
set_option maxHeartbeats 4000000 in
theorem rSome_any (x : Rn) (w : World) (h1 : BdR x.lo) (h2 : BdR x.hi) : Calls Tryz.prog 132 #[inV x] w fun e w' => e = .returned (.bool x.some) ∧ Below w.heap.size w w' := by
  obtain ⟨⟨ln, ld, ls⟩, ⟨hn, hd, hs⟩, re⟩ := x
  obtain ⟨x1, x2, x3, x4⟩ := h1
  obtain ⟨b1, b2, b3, b4⟩ := h2
  simp only at *
  cases re
  · have hO := fun w => order_any ln ld hn hd w (by omega) (by omega) (by omega) (by omega) (by omega) (by omega) (by omega) (by omega)
    rcases sgn_cases (ln * hd - hn * ld) with ⟨h, hx⟩ | ⟨h, hx⟩ | ⟨h, hx⟩
    · rw [h] at hO
      have HO := Lib.hid hO
      have HP := Lib.hid (show Rn.some ⟨⟨ln, ld, ls⟩, ⟨hn, hd, hs⟩, false⟩ = false by simp [Rn.some, show ¬ ln * hd < hn * ld by omega, show ¬ ln * hd = hn * ld by omega])
      clear hO h hx x1 x2 x3 x4 b1 b2 b3 b4
      go_enter Tryz.func132, Tryz.ntmps132
      go_wp2_with fail
      refine (HO.out _).mono ?_
      rintro e w1 ⟨rfl, hb⟩
      obtain ⟨hcm, hfm⟩ := bcell hb
      go_wp2_with fail
      go_ret
      exact ⟨ret_bool HP.out.symm, bafter hb⟩
    · rw [h] at hO
      have HO := Lib.hid hO
      have hP : Rn.some ⟨⟨ln, ld, ls⟩, ⟨hn, hd, hs⟩, false⟩ = (!ls && !hs) := by
        simp [Rn.some, show ln * hd = hn * ld by omega]
      clear hO h hx x1 x2 x3 x4 b1 b2 b3 b4
      cases ls
      · cases hs
        · have HP := Lib.hid hP; clear hP
          go_enter Tryz.func132, Tryz.ntmps132
          go_wp2_with fail
          refine (HO.out _).mono ?_
          rintro e w1 ⟨rfl, hb⟩
          obtain ⟨hcm, hfm⟩ := bcell hb
          go_wp2_with fail
          go_ret
          exact ⟨ret_bool HP.out.symm, bafter hb⟩
        · have HP := Lib.hid hP; clear hP
          go_enter Tryz.func132, Tryz.ntmps132
          go_wp2_with fail
          refine (HO.out _).mono ?_
          rintro e w1 ⟨rfl, hb⟩
          obtain ⟨hcm, hfm⟩ := bcell hb
          go_wp2_with fail
          go_ret
          exact ⟨ret_bool HP.out.symm, bafter hb⟩
      · have HP := Lib.hid hP; clear hP
        go_enter Tryz.func132, Tryz.ntmps132
        go_wp2_with fail
        refine (HO.out _).mono ?_
        rintro e w1 ⟨rfl, hb⟩
        obtain ⟨hcm, hfm⟩ := bcell hb
        go_wp2_with fail
        go_ret
        exact ⟨ret_bool HP.out.symm, bafter hb⟩
    · rw [h] at hO
      have HO := Lib.hid hO
      have HP := Lib.hid (show Rn.some ⟨⟨ln, ld, ls⟩, ⟨hn, hd, hs⟩, false⟩ = true by simp [Rn.some, show ln * hd < hn * ld by omega])
      clear hO h hx x1 x2 x3 x4 b1 b2 b3 b4
      go_enter Tryz.func132, Tryz.ntmps132
      go_wp2_with fail
      refine (HO.out _).mono ?_
      rintro e w1 ⟨rfl, hb⟩
      obtain ⟨hcm, hfm⟩ := bcell hb
      go_wp2_with fail
      go_ret
      exact ⟨ret_bool HP.out.symm, bafter hb⟩
  · go_enter Tryz.func132, Tryz.ntmps132
    go_wp2_with fail
    go_ret
    exact ⟨rfl, belw⟩
set_option maxRecDepth 100000 in
set_option maxHeartbeats 4000000 in
theorem between_any (r : Rn) (l u : Ln) (w : World) (h1 : BdR r.lo) (h2 : BdR r.hi) (hl : LnB l) (hu : LnB u) :
    Calls Tryz.prog 149 #[inV r, rlV (l, false), rlV (u, true)] w fun e w' => e = .returned (inV (pairR r l u)) ∧ Below w.heap.size w w' := by
  obtain ⟨⟨n1, n2⟩, d1, d2⟩ := ln_bd hl hu
  have kb : (-2097152 ≤ l.k - u.k ∧ l.k - u.k ≤ 2097152) ∧ (0 ≤ l.k ∧ l.k ≤ 2097152) ∧ (0 ≤ u.k ∧ u.k ≤ 2097152) := by
    have := hl.k0; have := hl.k1; have := hu.k0; have := hu.k1; omega
  have p1 := mul_bd hu.n0 hu.n1 (Int.le_of_lt hl.d0) hl.d1
  have p2 := mul_bd hl.n0 hl.n1 (Int.le_of_lt hu.d0) hu.d1
  have q1 := hl.n0
  have q2 := hl.n1
  have q3 := hu.n0
  have q4 := hu.n1
  have q5 := hl.d0
  have q6 := hl.d1
  have q7 := hu.d0
  have q8 := hu.d1
  have hP : pairR r l u = pairR r l u := rfl
  obtain ⟨r', hr'⟩ : ∃ r', pairR r l u = r' := ⟨_, rfl⟩
  have HP := Lib.hid hr'
  rw [hr']
  unfold pairR at hr'
  obtain ⟨lk, ln, ld, ls⟩ := l
  obtain ⟨uk, un, ud, us⟩ := u
  clear hP hl hu
  simp only [lnN, lnD] at *
  obtain ⟨⟨kb1, kb2⟩, ⟨kb3, kb4⟩, kb5, kb6⟩ := kb
  obtain ⟨st, hst⟩ : ∃ st, (ls || us) = st := ⟨_, rfl⟩
  rw [hst] at hr'
  obtain ⟨W, hW⟩ : ∃ W, (((w.alloc (Obj.cells #[.int .i64 r.lo.n, .int .i64 r.lo.d, .int .i64 r.hi.n, .int .i64 r.hi.d, .bool r.lo.s, .bool r.hi.s, .bool r.e] 129)).alloc (Obj.cells #[.int .i64 lk, .int .i64 ln, .int .i64 ld, .bool false, .bool ls] 139)).alloc (Obj.cells #[.int .i64 uk, .int .i64 un, .int .i64 ud, .bool true, .bool us] 139)).alloc (Obj.cells #[.int .i64 0, .int .i64 0, .int .i64 0, .int .i64 0, .bool false, .bool false, .bool false] 129) = W := ⟨_, rfl⟩
  have HR : Hid (Bk W (w.heap.size + 3) 129 [.int .i64 0, .int .i64 0, .int .i64 0, .int .i64 0, .bool false, .bool false, .bool false]) := by
    rw [← hW]
    have h := Bk.new1 ((w.alloc (Obj.cells #[.int .i64 r.lo.n, .int .i64 r.lo.d, .int .i64 r.hi.n, .int .i64 r.hi.d, .bool r.lo.s, .bool r.hi.s, .bool r.e] 129)).alloc (Obj.cells #[.int .i64 lk, .int .i64 ln, .int .i64 ld, .bool false, .bool ls] 139)) (Obj.cells #[.int .i64 uk, .int .i64 un, .int .i64 ud, .bool true, .bool us] 139) 129 [.int .i64 0, .int .i64 0, .int .i64 0, .int .i64 0, .bool false, .bool false, .bool false]
    rw [World.size_alloc, World.size_alloc] at h
    exact Lib.hid h
  have mc := @more_cell W
  rcases Int.lt_trichotomy (lk - uk) 0 with hk | hk | hk
  · rw [if_neg (by omega), if_pos hk] at hr'
    have m1 := mul_bd (a := ld * ud) (b := uk - lk) (A := 1000000) (B := 2097152) (by omega) d2 (by omega) (by omega)
    have m2 : 0 < ld * ud * (uk - lk) := Int.mul_pos d1 (by omega)
    have k1 : ∀ i : More W, _ := fun i => rless_any ln ld un ud (uk - lk) i.x (by omega) (by omega) (by omega) (by omega)
    have k2 : ∀ i : More W, _ := fun i => atLeast_any r ⟨ln * ud - un * ld, ld * ud * (uk - lk), st⟩ i.x h1 ⟨by simp only; omega, by simp only; omega, by simp only; omega, by simp only; omega⟩
    rw [show -(un * ld - ln * ud) = ln * ud - un * ld by omega, show -(lk - uk) = uk - lk by omega] at hr'
    rw [hr'] at k2
    clear m1 m2 hr' n1 n2 d1 d2 p1 p2 h1 h2 q1 q2 q3 q4 q5 q6 q7 q8
    have hkn : ¬ uk < lk := by omega
    have hkl : lk < uk := by omega
    cases ls
    · cases us
      · obtain rfl : st = false := hst.symm
        subst hW
        try simp only at *
        have K1 := Lib.hid (fun i => more_call (k1 i))
        have K2 := Lib.hid (fun i => more_call (k2 i))
        clear k1 k2
        go_enter Tryz.func149, Tryz.ntmps149
        go_wp2_with fail
        refine wp_head_more [0, 1, 2, 3, 4, 5, 6, 7, 8, 9, 10, 11, 12] [13] (by kernel_rfl) (by kernel_rfl) ?_
        simp only [hPick, List.getElem?_cons_zero, List.getElem?_cons_succ]
        iterate 8 (try (first | go_big_quiet_step ((with_reducible first | exact K1.out _ | exact K2.out _)) | quiet_step ((with_reducible first | exact K1.out _ | exact K2.out _))))
        iterate 8 (try (first | go_big_quiet_step ((with_reducible first | exact K1.out _ | exact K2.out _)) | quiet_step ((with_reducible first | exact K1.out _ | exact K2.out _))))
        iterate 8 (try (first | go_big_quiet_step ((with_reducible first | exact K1.out _ | exact K2.out _)) | quiet_step ((with_reducible first | exact K1.out _ | exact K2.out _))))
        iterate 8 (try (first | go_big_quiet_step ((with_reducible first | exact K1.out _ | exact K2.out _)) | quiet_step ((with_reducible first | exact K1.out _ | exact K2.out _))))
        iterate 8 (try (first | go_big_quiet_step ((with_reducible first | exact K1.out _ | exact K2.out _)) | quiet_step ((with_reducible first | exact K1.out _ | exact K2.out _))))
        refine wpQuiet_nil ?_
        rintro ⟨wm, hbm⟩
        try dsimp only
        have R1 := HR.out.below hbm
        go_wp2_with (refine st_at rfl (T := 129) rfl rfl (cs := inC r') rfl R1 (by kernel_rfl) rfl rfl ?_; intro wk hkk hsk)
        refine bodyPost_ret (v := inV r') (results_cell_row rfl _ _ (w.heap.size + 3) _ _ (0, 0) _ rfl hkk Tryz.underlying129 rfl (by kernel_rfl)) rfl ⟨rfl, ?_⟩
        exact bes_then (bafter (bafter (bafter (bafter hbm)))) hsk (by omega) (bafter (bafter (bafter (bafter hbm)))).size
      · obtain rfl : st = true := hst.symm
        subst hW
        try simp only at *
        have K1 := Lib.hid (fun i => more_call (k1 i))
        have K2 := Lib.hid (fun i => more_call (k2 i))
        clear k1 k2
        go_enter Tryz.func149, Tryz.ntmps149
        go_wp2_with fail
        refine wp_head_more [0, 1, 2, 3, 4, 5, 6, 7, 8, 9, 10, 11, 12] [13] (by kernel_rfl) (by kernel_rfl) ?_
        simp only [hPick, List.getElem?_cons_zero, List.getElem?_cons_succ]
        iterate 8 (try (first | go_big_quiet_step ((with_reducible first | exact K1.out _ | exact K2.out _)) | quiet_step ((with_reducible first | exact K1.out _ | exact K2.out _))))
        iterate 8 (try (first | go_big_quiet_step ((with_reducible first | exact K1.out _ | exact K2.out _)) | quiet_step ((with_reducible first | exact K1.out _ | exact K2.out _))))
        iterate 8 (try (first | go_big_quiet_step ((with_reducible first | exact K1.out _ | exact K2.out _)) | quiet_step ((with_reducible first | exact K1.out _ | exact K2.out _))))
        iterate 8 (try (first | go_big_quiet_step ((with_reducible first | exact K1.out _ | exact K2.out _)) | quiet_step ((with_reducible first | exact K1.out _ | exact K2.out _))))
        iterate 8 (try (first | go_big_quiet_step ((with_reducible first | exact K1.out _ | exact K2.out _)) | quiet_step ((with_reducible first | exact K1.out _ | exact K2.out _))))
        refine wpQuiet_nil ?_
        rintro ⟨wm, hbm⟩
        try dsimp only
        have R1 := HR.out.below hbm
        go_wp2_with (refine st_at rfl (T := 129) rfl rfl (cs := inC r') rfl R1 (by kernel_rfl) rfl rfl ?_; intro wk hkk hsk)
        refine bodyPost_ret (v := inV r') (results_cell_row rfl _ _ (w.heap.size + 3) _ _ (0, 0) _ rfl hkk Tryz.underlying129 rfl (by kernel_rfl)) rfl ⟨rfl, ?_⟩
        exact bes_then (bafter (bafter (bafter (bafter hbm)))) hsk (by omega) (bafter (bafter (bafter (bafter hbm)))).size
    · obtain rfl : st = true := by rw [← hst]; rfl
      subst hW
      try simp only at *
      have K1 := Lib.hid (fun i => more_call (k1 i))
      have K2 := Lib.hid (fun i => more_call (k2 i))
      clear k1 k2
      go_enter Tryz.func149, Tryz.ntmps149
      go_wp2_with fail
      refine wp_head_more [0, 1, 2, 3, 4, 5, 6, 7, 8, 9, 10, 11, 12] [13] (by kernel_rfl) (by kernel_rfl) ?_
      simp only [hPick, List.getElem?_cons_zero, List.getElem?_cons_succ]
      iterate 8 (try (first | go_big_quiet_step ((with_reducible first | exact K1.out _ | exact K2.out _)) | quiet_step ((with_reducible first | exact K1.out _ | exact K2.out _))))
      iterate 8 (try (first | go_big_quiet_step ((with_reducible first | exact K1.out _ | exact K2.out _)) | quiet_step ((with_reducible first | exact K1.out _ | exact K2.out _))))
      iterate 8 (try (first | go_big_quiet_step ((with_reducible first | exact K1.out _ | exact K2.out _)) | quiet_step ((with_reducible first | exact K1.out _ | exact K2.out _))))
      iterate 8 (try (first | go_big_quiet_step ((with_reducible first | exact K1.out _ | exact K2.out _)) | quiet_step ((with_reducible first | exact K1.out _ | exact K2.out _))))
      iterate 8 (try (first | go_big_quiet_step ((with_reducible first | exact K1.out _ | exact K2.out _)) | quiet_step ((with_reducible first | exact K1.out _ | exact K2.out _))))
      refine wpQuiet_nil ?_
      rintro ⟨wm, hbm⟩
      try dsimp only
      have R1 := HR.out.below hbm
      go_wp2_with (refine st_at rfl (T := 129) rfl rfl (cs := inC r') rfl R1 (by kernel_rfl) rfl rfl ?_; intro wk hkk hsk)
      refine bodyPost_ret (v := inV r') (results_cell_row rfl _ _ (w.heap.size + 3) _ _ (0, 0) _ rfl hkk Tryz.underlying129 rfl (by kernel_rfl)) rfl ⟨rfl, ?_⟩
      exact bes_then (bafter (bafter (bafter (bafter hbm)))) hsk (by omega) (bafter (bafter (bafter (bafter hbm)))).size
  · rw [if_neg (by omega), if_neg (by omega)] at hr'
    have hO := fun w => order_any ln ld un ud w (by omega) (by omega) (by omega) (by omega) (by omega) (by omega) (by omega) (by omega)
    obtain rfl : uk = lk := by omega
    have hkn : ¬ uk < uk := by omega
    have HBK := Lib.hid (Bk.new w 129 (inC r))
    rcases sgn_cases (ln * ud - un * ld) with ⟨h, hx⟩ | ⟨h, hx⟩ | ⟨h, hx⟩
    · rw [h] at hO
      have hr2 : Rn.mk r.lo r.hi true = r' := by rw [← hr']; simp [show un * ld - ln * ud < 0 by omega]
      clear n1 n2 d1 d2 p1 p2 h1 h2 q1 q2 q3 q4 q5 q6 q7 q8 h hx
      have HO := Lib.hid hO; clear hO
      cases ls
      · cases us
        · obtain rfl : st = false := hst.symm
          subst hW
          try simp only at *
          obtain ⟨⟨xn, xd, xs⟩, ⟨yn, yd, ys⟩, ze⟩ := r
          try simp only at hr2 HBK HR
          cases ze
          · have hr3 : Rn.mk ⟨xn, xd, xs⟩ ⟨yn, yd, ys⟩ true = r' := hr2
            clear hr2 hr'
            subst hr3
            clear HP
            go_enter Tryz.func149, Tryz.ntmps149
            go_wp2_with fail
            refine (HO.out _).mono ?_
            rintro e w1 ⟨rfl, hb⟩
            have z := (((HBK.out.alloc _).alloc _).alloc _).below hb
            have R1 := HR.out.below hb
            obtain ⟨hcm, hfm⟩ := bcell hb
            have HB := Lib.hid (bafter (bafter (bafter (bafter hb))))
            have hZ : Bk (w1.setCell ⟨w.heap.size, 6, none⟩ (.bool true)) w.heap.size 129 [.int .i64 xn, .int .i64 xd, .int .i64 yn, .int .i64 yd, .bool xs, .bool ys, .bool true] := z.set 6 _
            have hR : Bk (w1.setCell ⟨w.heap.size, 6, none⟩ (.bool true)) (w.heap.size + 3) 129 [.int .i64 0, .int .i64 0, .int .i64 0, .int .i64 0, .bool false, .bool false, .bool false] := R1.far (by simp) _
            have hW : Below w.heap.size w (w1.setCell ⟨w.heap.size, 6, none⟩ (.bool true)) := HB.out.setCell (Nat.le_refl _) _
            have z6 := z.cell 6
            have f6 := z.frozen 6
            have zl := z.lt
            simp only [List.getElem?_cons_zero, List.getElem?_cons_succ] at z6
            have HZ := Lib.hid hZ
            have HRR := Lib.hid hR
            have HW := Lib.hid hW
            clear hZ hR hW z R1 hb
            go_wp2_with (first | (refine ld_at rfl (T := 129) rfl rfl HZ.out Tryz.underlying129 rfl (by kernel_rfl) ?_) | (refine st_at rfl (T := 129) rfl rfl (cs := [.int .i64 xn, .int .i64 xd, .int .i64 yn, .int .i64 yd, .bool xs, .bool ys, .bool true]) rfl HRR.out (by kernel_rfl) rfl rfl ?_; intro wk hkk hsk))
            refine bodyPost_ret (v := inV ⟨⟨xn, xd, xs⟩, ⟨yn, yd, ys⟩, true⟩) (results_cell_row rfl _ _ (w.heap.size + 3) _ _ (0, 0) _ rfl hkk Tryz.underlying129 rfl (by kernel_rfl)) rfl ⟨rfl, ?_⟩
            exact bes_then HW.out hsk (by omega) HW.out.size
          · have hr3 : Rn.mk ⟨xn, xd, xs⟩ ⟨yn, yd, ys⟩ true = r' := hr2
            clear hr2 hr'
            subst hr3
            clear HP
            go_enter Tryz.func149, Tryz.ntmps149
            go_wp2_with fail
            refine (HO.out _).mono ?_
            rintro e w1 ⟨rfl, hb⟩
            have z := (((HBK.out.alloc _).alloc _).alloc _).below hb
            have R1 := HR.out.below hb
            obtain ⟨hcm, hfm⟩ := bcell hb
            have HB := Lib.hid (bafter (bafter (bafter (bafter hb))))
            have hZ : Bk (w1.setCell ⟨w.heap.size, 6, none⟩ (.bool true)) w.heap.size 129 [.int .i64 xn, .int .i64 xd, .int .i64 yn, .int .i64 yd, .bool xs, .bool ys, .bool true] := z.set 6 _
            have hR : Bk (w1.setCell ⟨w.heap.size, 6, none⟩ (.bool true)) (w.heap.size + 3) 129 [.int .i64 0, .int .i64 0, .int .i64 0, .int .i64 0, .bool false, .bool false, .bool false] := R1.far (by simp) _
            have hW : Below w.heap.size w (w1.setCell ⟨w.heap.size, 6, none⟩ (.bool true)) := HB.out.setCell (Nat.le_refl _) _
            have z6 := z.cell 6
            have f6 := z.frozen 6
            have zl := z.lt
            simp only [List.getElem?_cons_zero, List.getElem?_cons_succ] at z6
            have HZ := Lib.hid hZ
            have HRR := Lib.hid hR
            have HW := Lib.hid hW
            clear hZ hR hW z R1 hb
            go_wp2_with (first | (refine ld_at rfl (T := 129) rfl rfl HZ.out Tryz.underlying129 rfl (by kernel_rfl) ?_) | (refine st_at rfl (T := 129) rfl rfl (cs := [.int .i64 xn, .int .i64 xd, .int .i64 yn, .int .i64 yd, .bool xs, .bool ys, .bool true]) rfl HRR.out (by kernel_rfl) rfl rfl ?_; intro wk hkk hsk))
            refine bodyPost_ret (v := inV ⟨⟨xn, xd, xs⟩, ⟨yn, yd, ys⟩, true⟩) (results_cell_row rfl _ _ (w.heap.size + 3) _ _ (0, 0) _ rfl hkk Tryz.underlying129 rfl (by kernel_rfl)) rfl ⟨rfl, ?_⟩
            exact bes_then HW.out hsk (by omega) HW.out.size
        · obtain rfl : st = true := hst.symm
          subst hW
          try simp only at *
          obtain ⟨⟨xn, xd, xs⟩, ⟨yn, yd, ys⟩, ze⟩ := r
          try simp only at hr2 HBK HR
          cases ze
          · have hr3 : Rn.mk ⟨xn, xd, xs⟩ ⟨yn, yd, ys⟩ true = r' := hr2
            clear hr2 hr'
            subst hr3
            clear HP
            go_enter Tryz.func149, Tryz.ntmps149
            go_wp2_with fail
            refine (HO.out _).mono ?_
            rintro e w1 ⟨rfl, hb⟩
            have z := (((HBK.out.alloc _).alloc _).alloc _).below hb
            have R1 := HR.out.below hb
            obtain ⟨hcm, hfm⟩ := bcell hb
            have HB := Lib.hid (bafter (bafter (bafter (bafter hb))))
            have hZ : Bk (w1.setCell ⟨w.heap.size, 6, none⟩ (.bool true)) w.heap.size 129 [.int .i64 xn, .int .i64 xd, .int .i64 yn, .int .i64 yd, .bool xs, .bool ys, .bool true] := z.set 6 _
            have hR : Bk (w1.setCell ⟨w.heap.size, 6, none⟩ (.bool true)) (w.heap.size + 3) 129 [.int .i64 0, .int .i64 0, .int .i64 0, .int .i64 0, .bool false, .bool false, .bool false] := R1.far (by simp) _
            have hW : Below w.heap.size w (w1.setCell ⟨w.heap.size, 6, none⟩ (.bool true)) := HB.out.setCell (Nat.le_refl _) _
            have z6 := z.cell 6
            have f6 := z.frozen 6
            have zl := z.lt
            simp only [List.getElem?_cons_zero, List.getElem?_cons_succ] at z6
            have HZ := Lib.hid hZ
            have HRR := Lib.hid hR
            have HW := Lib.hid hW
            clear hZ hR hW z R1 hb
            go_wp2_with (first | (refine ld_at rfl (T := 129) rfl rfl HZ.out Tryz.underlying129 rfl (by kernel_rfl) ?_) | (refine st_at rfl (T := 129) rfl rfl (cs := [.int .i64 xn, .int .i64 xd, .int .i64 yn, .int .i64 yd, .bool xs, .bool ys, .bool true]) rfl HRR.out (by kernel_rfl) rfl rfl ?_; intro wk hkk hsk))
            refine bodyPost_ret (v := inV ⟨⟨xn, xd, xs⟩, ⟨yn, yd, ys⟩, true⟩) (results_cell_row rfl _ _ (w.heap.size + 3) _ _ (0, 0) _ rfl hkk Tryz.underlying129 rfl (by kernel_rfl)) rfl ⟨rfl, ?_⟩
            exact bes_then HW.out hsk (by omega) HW.out.size
          · have hr3 : Rn.mk ⟨xn, xd, xs⟩ ⟨yn, yd, ys⟩ true = r' := hr2
            clear hr2 hr'
            subst hr3
            clear HP
            go_enter Tryz.func149, Tryz.ntmps149
            go_wp2_with fail
            refine (HO.out _).mono ?_
            rintro e w1 ⟨rfl, hb⟩
            have z := (((HBK.out.alloc _).alloc _).alloc _).below hb
            have R1 := HR.out.below hb
            obtain ⟨hcm, hfm⟩ := bcell hb
            have HB := Lib.hid (bafter (bafter (bafter (bafter hb))))
            have hZ : Bk (w1.setCell ⟨w.heap.size, 6, none⟩ (.bool true)) w.heap.size 129 [.int .i64 xn, .int .i64 xd, .int .i64 yn, .int .i64 yd, .bool xs, .bool ys, .bool true] := z.set 6 _
            have hR : Bk (w1.setCell ⟨w.heap.size, 6, none⟩ (.bool true)) (w.heap.size + 3) 129 [.int .i64 0, .int .i64 0, .int .i64 0, .int .i64 0, .bool false, .bool false, .bool false] := R1.far (by simp) _
            have hW : Below w.heap.size w (w1.setCell ⟨w.heap.size, 6, none⟩ (.bool true)) := HB.out.setCell (Nat.le_refl _) _
            have z6 := z.cell 6
            have f6 := z.frozen 6
            have zl := z.lt
            simp only [List.getElem?_cons_zero, List.getElem?_cons_succ] at z6
            have HZ := Lib.hid hZ
            have HRR := Lib.hid hR
            have HW := Lib.hid hW
            clear hZ hR hW z R1 hb
            go_wp2_with (first | (refine ld_at rfl (T := 129) rfl rfl HZ.out Tryz.underlying129 rfl (by kernel_rfl) ?_) | (refine st_at rfl (T := 129) rfl rfl (cs := [.int .i64 xn, .int .i64 xd, .int .i64 yn, .int .i64 yd, .bool xs, .bool ys, .bool true]) rfl HRR.out (by kernel_rfl) rfl rfl ?_; intro wk hkk hsk))
            refine bodyPost_ret (v := inV ⟨⟨xn, xd, xs⟩, ⟨yn, yd, ys⟩, true⟩) (results_cell_row rfl _ _ (w.heap.size + 3) _ _ (0, 0) _ rfl hkk Tryz.underlying129 rfl (by kernel_rfl)) rfl ⟨rfl, ?_⟩
            exact bes_then HW.out hsk (by omega) HW.out.size
      · obtain rfl : st = true := by rw [← hst]; rfl
        subst hW
        try simp only at *
        obtain ⟨⟨xn, xd, xs⟩, ⟨yn, yd, ys⟩, ze⟩ := r
        try simp only at hr2 HBK HR
        cases ze
        · have hr3 : Rn.mk ⟨xn, xd, xs⟩ ⟨yn, yd, ys⟩ true = r' := hr2
          clear hr2 hr'
          subst hr3
          clear HP
          go_enter Tryz.func149, Tryz.ntmps149
          go_wp2_with fail
          refine (HO.out _).mono ?_
          rintro e w1 ⟨rfl, hb⟩
          have z := (((HBK.out.alloc _).alloc _).alloc _).below hb
          have R1 := HR.out.below hb
          obtain ⟨hcm, hfm⟩ := bcell hb
          have HB := Lib.hid (bafter (bafter (bafter (bafter hb))))
          have hZ : Bk (w1.setCell ⟨w.heap.size, 6, none⟩ (.bool true)) w.heap.size 129 [.int .i64 xn, .int .i64 xd, .int .i64 yn, .int .i64 yd, .bool xs, .bool ys, .bool true] := z.set 6 _
          have hR : Bk (w1.setCell ⟨w.heap.size, 6, none⟩ (.bool true)) (w.heap.size + 3) 129 [.int .i64 0, .int .i64 0, .int .i64 0, .int .i64 0, .bool false, .bool false, .bool false] := R1.far (by simp) _
          have hW : Below w.heap.size w (w1.setCell ⟨w.heap.size, 6, none⟩ (.bool true)) := HB.out.setCell (Nat.le_refl _) _
          have z6 := z.cell 6
          have f6 := z.frozen 6
          have zl := z.lt
          simp only [List.getElem?_cons_zero, List.getElem?_cons_succ] at z6
          have HZ := Lib.hid hZ
          have HRR := Lib.hid hR
          have HW := Lib.hid hW
          clear hZ hR hW z R1 hb
          go_wp2_with (first | (refine ld_at rfl (T := 129) rfl rfl HZ.out Tryz.underlying129 rfl (by kernel_rfl) ?_) | (refine st_at rfl (T := 129) rfl rfl (cs := [.int .i64 xn, .int .i64 xd, .int .i64 yn, .int .i64 yd, .bool xs, .bool ys, .bool true]) rfl HRR.out (by kernel_rfl) rfl rfl ?_; intro wk hkk hsk))
          refine bodyPost_ret (v := inV ⟨⟨xn, xd, xs⟩, ⟨yn, yd, ys⟩, true⟩) (results_cell_row rfl _ _ (w.heap.size + 3) _ _ (0, 0) _ rfl hkk Tryz.underlying129 rfl (by kernel_rfl)) rfl ⟨rfl, ?_⟩
          exact bes_then HW.out hsk (by omega) HW.out.size
        · have hr3 : Rn.mk ⟨xn, xd, xs⟩ ⟨yn, yd, ys⟩ true = r' := hr2
          clear hr2 hr'
          subst hr3
          clear HP
          go_enter Tryz.func149, Tryz.ntmps149
          go_wp2_with fail
          refine (HO.out _).mono ?_
          rintro e w1 ⟨rfl, hb⟩
          have z := (((HBK.out.alloc _).alloc _).alloc _).below hb
          have R1 := HR.out.below hb
          obtain ⟨hcm, hfm⟩ := bcell hb
          have HB := Lib.hid (bafter (bafter (bafter (bafter hb))))
          have hZ : Bk (w1.setCell ⟨w.heap.size, 6, none⟩ (.bool true)) w.heap.size 129 [.int .i64 xn, .int .i64 xd, .int .i64 yn, .int .i64 yd, .bool xs, .bool ys, .bool true] := z.set 6 _
          have hR : Bk (w1.setCell ⟨w.heap.size, 6, none⟩ (.bool true)) (w.heap.size + 3) 129 [.int .i64 0, .int .i64 0, .int .i64 0, .int .i64 0, .bool false, .bool false, .bool false] := R1.far (by simp) _
          have hW : Below w.heap.size w (w1.setCell ⟨w.heap.size, 6, none⟩ (.bool true)) := HB.out.setCell (Nat.le_refl _) _
          have z6 := z.cell 6
          have f6 := z.frozen 6
          have zl := z.lt
          simp only [List.getElem?_cons_zero, List.getElem?_cons_succ] at z6
          have HZ := Lib.hid hZ
          have HRR := Lib.hid hR
          have HW := Lib.hid hW
          clear hZ hR hW z R1 hb
          go_wp2_with (first | (refine ld_at rfl (T := 129) rfl rfl HZ.out Tryz.underlying129 rfl (by kernel_rfl) ?_) | (refine st_at rfl (T := 129) rfl rfl (cs := [.int .i64 xn, .int .i64 xd, .int .i64 yn, .int .i64 yd, .bool xs, .bool ys, .bool true]) rfl HRR.out (by kernel_rfl) rfl rfl ?_; intro wk hkk hsk))
          refine bodyPost_ret (v := inV ⟨⟨xn, xd, xs⟩, ⟨yn, yd, ys⟩, true⟩) (results_cell_row rfl _ _ (w.heap.size + 3) _ _ (0, 0) _ rfl hkk Tryz.underlying129 rfl (by kernel_rfl)) rfl ⟨rfl, ?_⟩
          exact bes_then HW.out hsk (by omega) HW.out.size
    · rw [h] at hO
      have hr2 : Rn.mk r.lo r.hi (r.e || st) = r' := by rw [← hr']; simp [show un * ld - ln * ud = 0 by omega]
      clear n1 n2 d1 d2 p1 p2 h1 h2 q1 q2 q3 q4 q5 q6 q7 q8 h hx
      have HO := Lib.hid hO; clear hO
      cases ls
      · cases us
        · obtain rfl : st = false := hst.symm
          subst hW
          try simp only at *
          obtain ⟨⟨xn, xd, xs⟩, ⟨yn, yd, ys⟩, ze⟩ := r
          try simp only at hr2 HBK HR
          cases ze
          · have hr3 : Rn.mk ⟨xn, xd, xs⟩ ⟨yn, yd, ys⟩ false = r' := hr2
            clear hr2 hr'
            subst hr3
            clear HP
            go_enter Tryz.func149, Tryz.ntmps149
            go_wp2_with fail
            refine (HO.out _).mono ?_
            rintro e w1 ⟨rfl, hb⟩
            have z := (((HBK.out.alloc _).alloc _).alloc _).below hb
            have R1 := HR.out.below hb
            obtain ⟨hcm, hfm⟩ := bcell hb
            have HB := Lib.hid (bafter (bafter (bafter (bafter hb))))
            have hZ : Bk (w1.setCell ⟨w.heap.size, 6, none⟩ (.bool false)) w.heap.size 129 [.int .i64 xn, .int .i64 xd, .int .i64 yn, .int .i64 yd, .bool xs, .bool ys, .bool false] := z.set 6 _
            have hR : Bk (w1.setCell ⟨w.heap.size, 6, none⟩ (.bool false)) (w.heap.size + 3) 129 [.int .i64 0, .int .i64 0, .int .i64 0, .int .i64 0, .bool false, .bool false, .bool false] := R1.far (by simp) _
            have hW : Below w.heap.size w (w1.setCell ⟨w.heap.size, 6, none⟩ (.bool false)) := HB.out.setCell (Nat.le_refl _) _
            have z6 := z.cell 6
            have f6 := z.frozen 6
            have zl := z.lt
            simp only [List.getElem?_cons_zero, List.getElem?_cons_succ] at z6
            have HZ := Lib.hid hZ
            have HRR := Lib.hid hR
            have HW := Lib.hid hW
            clear hZ hR hW z R1 hb
            go_wp2_with (first | (refine ld_at rfl (T := 129) rfl rfl HZ.out Tryz.underlying129 rfl (by kernel_rfl) ?_) | (refine st_at rfl (T := 129) rfl rfl (cs := [.int .i64 xn, .int .i64 xd, .int .i64 yn, .int .i64 yd, .bool xs, .bool ys, .bool false]) rfl HRR.out (by kernel_rfl) rfl rfl ?_; intro wk hkk hsk))
            refine bodyPost_ret (v := inV ⟨⟨xn, xd, xs⟩, ⟨yn, yd, ys⟩, false⟩) (results_cell_row rfl _ _ (w.heap.size + 3) _ _ (0, 0) _ rfl hkk Tryz.underlying129 rfl (by kernel_rfl)) rfl ⟨rfl, ?_⟩
            exact bes_then HW.out hsk (by omega) HW.out.size
          · have hr3 : Rn.mk ⟨xn, xd, xs⟩ ⟨yn, yd, ys⟩ true = r' := hr2
            clear hr2 hr'
            subst hr3
            clear HP
            go_enter Tryz.func149, Tryz.ntmps149
            go_wp2_with fail
            refine (HO.out _).mono ?_
            rintro e w1 ⟨rfl, hb⟩
            have z := (((HBK.out.alloc _).alloc _).alloc _).below hb
            have R1 := HR.out.below hb
            obtain ⟨hcm, hfm⟩ := bcell hb
            have HB := Lib.hid (bafter (bafter (bafter (bafter hb))))
            have hZ : Bk (w1.setCell ⟨w.heap.size, 6, none⟩ (.bool true)) w.heap.size 129 [.int .i64 xn, .int .i64 xd, .int .i64 yn, .int .i64 yd, .bool xs, .bool ys, .bool true] := z.set 6 _
            have hR : Bk (w1.setCell ⟨w.heap.size, 6, none⟩ (.bool true)) (w.heap.size + 3) 129 [.int .i64 0, .int .i64 0, .int .i64 0, .int .i64 0, .bool false, .bool false, .bool false] := R1.far (by simp) _
            have hW : Below w.heap.size w (w1.setCell ⟨w.heap.size, 6, none⟩ (.bool true)) := HB.out.setCell (Nat.le_refl _) _
            have z6 := z.cell 6
            have f6 := z.frozen 6
            have zl := z.lt
            simp only [List.getElem?_cons_zero, List.getElem?_cons_succ] at z6
            have HZ := Lib.hid hZ
            have HRR := Lib.hid hR
            have HW := Lib.hid hW
            clear hZ hR hW z R1 hb
            go_wp2_with (first | (refine ld_at rfl (T := 129) rfl rfl HZ.out Tryz.underlying129 rfl (by kernel_rfl) ?_) | (refine st_at rfl (T := 129) rfl rfl (cs := [.int .i64 xn, .int .i64 xd, .int .i64 yn, .int .i64 yd, .bool xs, .bool ys, .bool true]) rfl HRR.out (by kernel_rfl) rfl rfl ?_; intro wk hkk hsk))
            refine bodyPost_ret (v := inV ⟨⟨xn, xd, xs⟩, ⟨yn, yd, ys⟩, true⟩) (results_cell_row rfl _ _ (w.heap.size + 3) _ _ (0, 0) _ rfl hkk Tryz.underlying129 rfl (by kernel_rfl)) rfl ⟨rfl, ?_⟩
            exact bes_then HW.out hsk (by omega) HW.out.size
        · obtain rfl : st = true := hst.symm
          subst hW
          try simp only at *
          obtain ⟨⟨xn, xd, xs⟩, ⟨yn, yd, ys⟩, ze⟩ := r
          try simp only at hr2 HBK HR
          cases ze
          · have hr3 : Rn.mk ⟨xn, xd, xs⟩ ⟨yn, yd, ys⟩ true = r' := hr2
            clear hr2 hr'
            subst hr3
            clear HP
            go_enter Tryz.func149, Tryz.ntmps149
            go_wp2_with fail
            refine (HO.out _).mono ?_
            rintro e w1 ⟨rfl, hb⟩
            have z := (((HBK.out.alloc _).alloc _).alloc _).below hb
            have R1 := HR.out.below hb
            obtain ⟨hcm, hfm⟩ := bcell hb
            have HB := Lib.hid (bafter (bafter (bafter (bafter hb))))
            have hZ : Bk (w1.setCell ⟨w.heap.size, 6, none⟩ (.bool true)) w.heap.size 129 [.int .i64 xn, .int .i64 xd, .int .i64 yn, .int .i64 yd, .bool xs, .bool ys, .bool true] := z.set 6 _
            have hR : Bk (w1.setCell ⟨w.heap.size, 6, none⟩ (.bool true)) (w.heap.size + 3) 129 [.int .i64 0, .int .i64 0, .int .i64 0, .int .i64 0, .bool false, .bool false, .bool false] := R1.far (by simp) _
            have hW : Below w.heap.size w (w1.setCell ⟨w.heap.size, 6, none⟩ (.bool true)) := HB.out.setCell (Nat.le_refl _) _
            have z6 := z.cell 6
            have f6 := z.frozen 6
            have zl := z.lt
            simp only [List.getElem?_cons_zero, List.getElem?_cons_succ] at z6
            have HZ := Lib.hid hZ
            have HRR := Lib.hid hR
            have HW := Lib.hid hW
            clear hZ hR hW z R1 hb
            go_wp2_with (first | (refine ld_at rfl (T := 129) rfl rfl HZ.out Tryz.underlying129 rfl (by kernel_rfl) ?_) | (refine st_at rfl (T := 129) rfl rfl (cs := [.int .i64 xn, .int .i64 xd, .int .i64 yn, .int .i64 yd, .bool xs, .bool ys, .bool true]) rfl HRR.out (by kernel_rfl) rfl rfl ?_; intro wk hkk hsk))
            refine bodyPost_ret (v := inV ⟨⟨xn, xd, xs⟩, ⟨yn, yd, ys⟩, true⟩) (results_cell_row rfl _ _ (w.heap.size + 3) _ _ (0, 0) _ rfl hkk Tryz.underlying129 rfl (by kernel_rfl)) rfl ⟨rfl, ?_⟩
            exact bes_then HW.out hsk (by omega) HW.out.size
          · have hr3 : Rn.mk ⟨xn, xd, xs⟩ ⟨yn, yd, ys⟩ true = r' := hr2
            clear hr2 hr'
            subst hr3
            clear HP
            go_enter Tryz.func149, Tryz.ntmps149
            go_wp2_with fail
            refine (HO.out _).mono ?_
            rintro e w1 ⟨rfl, hb⟩
            have z := (((HBK.out.alloc _).alloc _).alloc _).below hb
            have R1 := HR.out.below hb
            obtain ⟨hcm, hfm⟩ := bcell hb
            have HB := Lib.hid (bafter (bafter (bafter (bafter hb))))
            have hZ : Bk (w1.setCell ⟨w.heap.size, 6, none⟩ (.bool true)) w.heap.size 129 [.int .i64 xn, .int .i64 xd, .int .i64 yn, .int .i64 yd, .bool xs, .bool ys, .bool true] := z.set 6 _
            have hR : Bk (w1.setCell ⟨w.heap.size, 6, none⟩ (.bool true)) (w.heap.size + 3) 129 [.int .i64 0, .int .i64 0, .int .i64 0, .int .i64 0, .bool false, .bool false, .bool false] := R1.far (by simp) _
            have hW : Below w.heap.size w (w1.setCell ⟨w.heap.size, 6, none⟩ (.bool true)) := HB.out.setCell (Nat.le_refl _) _
            have z6 := z.cell 6
            have f6 := z.frozen 6
            have zl := z.lt
            simp only [List.getElem?_cons_zero, List.getElem?_cons_succ] at z6
            have HZ := Lib.hid hZ
            have HRR := Lib.hid hR
            have HW := Lib.hid hW
            clear hZ hR hW z R1 hb
            go_wp2_with (first | (refine ld_at rfl (T := 129) rfl rfl HZ.out Tryz.underlying129 rfl (by kernel_rfl) ?_) | (refine st_at rfl (T := 129) rfl rfl (cs := [.int .i64 xn, .int .i64 xd, .int .i64 yn, .int .i64 yd, .bool xs, .bool ys, .bool true]) rfl HRR.out (by kernel_rfl) rfl rfl ?_; intro wk hkk hsk))
            refine bodyPost_ret (v := inV ⟨⟨xn, xd, xs⟩, ⟨yn, yd, ys⟩, true⟩) (results_cell_row rfl _ _ (w.heap.size + 3) _ _ (0, 0) _ rfl hkk Tryz.underlying129 rfl (by kernel_rfl)) rfl ⟨rfl, ?_⟩
            exact bes_then HW.out hsk (by omega) HW.out.size
      · obtain rfl : st = true := by rw [← hst]; rfl
        subst hW
        try simp only at *
        obtain ⟨⟨xn, xd, xs⟩, ⟨yn, yd, ys⟩, ze⟩ := r
        try simp only at hr2 HBK HR
        cases ze
        · have hr3 : Rn.mk ⟨xn, xd, xs⟩ ⟨yn, yd, ys⟩ true = r' := hr2
          clear hr2 hr'
          subst hr3
          clear HP
          go_enter Tryz.func149, Tryz.ntmps149
          go_wp2_with fail
          refine (HO.out _).mono ?_
          rintro e w1 ⟨rfl, hb⟩
          have z := (((HBK.out.alloc _).alloc _).alloc _).below hb
          have R1 := HR.out.below hb
          obtain ⟨hcm, hfm⟩ := bcell hb
          have HB := Lib.hid (bafter (bafter (bafter (bafter hb))))
          have hZ : Bk (w1.setCell ⟨w.heap.size, 6, none⟩ (.bool true)) w.heap.size 129 [.int .i64 xn, .int .i64 xd, .int .i64 yn, .int .i64 yd, .bool xs, .bool ys, .bool true] := z.set 6 _
          have hR : Bk (w1.setCell ⟨w.heap.size, 6, none⟩ (.bool true)) (w.heap.size + 3) 129 [.int .i64 0, .int .i64 0, .int .i64 0, .int .i64 0, .bool false, .bool false, .bool false] := R1.far (by simp) _
          have hW : Below w.heap.size w (w1.setCell ⟨w.heap.size, 6, none⟩ (.bool true)) := HB.out.setCell (Nat.le_refl _) _
          have z6 := z.cell 6
          have f6 := z.frozen 6
          have zl := z.lt
          simp only [List.getElem?_cons_zero, List.getElem?_cons_succ] at z6
          have HZ := Lib.hid hZ
          have HRR := Lib.hid hR
          have HW := Lib.hid hW
          clear hZ hR hW z R1 hb
          go_wp2_with (first | (refine ld_at rfl (T := 129) rfl rfl HZ.out Tryz.underlying129 rfl (by kernel_rfl) ?_) | (refine st_at rfl (T := 129) rfl rfl (cs := [.int .i64 xn, .int .i64 xd, .int .i64 yn, .int .i64 yd, .bool xs, .bool ys, .bool true]) rfl HRR.out (by kernel_rfl) rfl rfl ?_; intro wk hkk hsk))
          refine bodyPost_ret (v := inV ⟨⟨xn, xd, xs⟩, ⟨yn, yd, ys⟩, true⟩) (results_cell_row rfl _ _ (w.heap.size + 3) _ _ (0, 0) _ rfl hkk Tryz.underlying129 rfl (by kernel_rfl)) rfl ⟨rfl, ?_⟩
          exact bes_then HW.out hsk (by omega) HW.out.size
        · have hr3 : Rn.mk ⟨xn, xd, xs⟩ ⟨yn, yd, ys⟩ true = r' := hr2
          clear hr2 hr'
          subst hr3
          clear HP
          go_enter Tryz.func149, Tryz.ntmps149
          go_wp2_with fail
          refine (HO.out _).mono ?_
          rintro e w1 ⟨rfl, hb⟩
          have z := (((HBK.out.alloc _).alloc _).alloc _).below hb
          have R1 := HR.out.below hb
          obtain ⟨hcm, hfm⟩ := bcell hb
          have HB := Lib.hid (bafter (bafter (bafter (bafter hb))))
          have hZ : Bk (w1.setCell ⟨w.heap.size, 6, none⟩ (.bool true)) w.heap.size 129 [.int .i64 xn, .int .i64 xd, .int .i64 yn, .int .i64 yd, .bool xs, .bool ys, .bool true] := z.set 6 _
          have hR : Bk (w1.setCell ⟨w.heap.size, 6, none⟩ (.bool true)) (w.heap.size + 3) 129 [.int .i64 0, .int .i64 0, .int .i64 0, .int .i64 0, .bool false, .bool false, .bool false] := R1.far (by simp) _
          have hW : Below w.heap.size w (w1.setCell ⟨w.heap.size, 6, none⟩ (.bool true)) := HB.out.setCell (Nat.le_refl _) _
          have z6 := z.cell 6
          have f6 := z.frozen 6
          have zl := z.lt
          simp only [List.getElem?_cons_zero, List.getElem?_cons_succ] at z6
          have HZ := Lib.hid hZ
          have HRR := Lib.hid hR
          have HW := Lib.hid hW
          clear hZ hR hW z R1 hb
          go_wp2_with (first | (refine ld_at rfl (T := 129) rfl rfl HZ.out Tryz.underlying129 rfl (by kernel_rfl) ?_) | (refine st_at rfl (T := 129) rfl rfl (cs := [.int .i64 xn, .int .i64 xd, .int .i64 yn, .int .i64 yd, .bool xs, .bool ys, .bool true]) rfl HRR.out (by kernel_rfl) rfl rfl ?_; intro wk hkk hsk))
          refine bodyPost_ret (v := inV ⟨⟨xn, xd, xs⟩, ⟨yn, yd, ys⟩, true⟩) (results_cell_row rfl _ _ (w.heap.size + 3) _ _ (0, 0) _ rfl hkk Tryz.underlying129 rfl (by kernel_rfl)) rfl ⟨rfl, ?_⟩
          exact bes_then HW.out hsk (by omega) HW.out.size
    · rw [h] at hO
      have hr2 : Rn.mk r.lo r.hi r.e = r' := by rw [← hr']; simp [show ¬ un * ld - ln * ud < 0 by omega, show ¬ un * ld - ln * ud = 0 by omega]
      clear n1 n2 d1 d2 p1 p2 h1 h2 q1 q2 q3 q4 q5 q6 q7 q8 h hx
      have HO := Lib.hid hO; clear hO
      cases ls
      · cases us
        · obtain rfl : st = false := hst.symm
          subst hW
          try simp only at *
          obtain ⟨⟨xn, xd, xs⟩, ⟨yn, yd, ys⟩, ze⟩ := r
          try simp only at hr2 HBK HR
          cases ze
          · have hr3 : Rn.mk ⟨xn, xd, xs⟩ ⟨yn, yd, ys⟩ false = r' := hr2
            clear hr2 hr'
            subst hr3
            clear HP
            go_enter Tryz.func149, Tryz.ntmps149
            go_wp2_with fail
            refine (HO.out _).mono ?_
            rintro e w1 ⟨rfl, hb⟩
            have z := (((HBK.out.alloc _).alloc _).alloc _).below hb
            have R1 := HR.out.below hb
            obtain ⟨hcm, hfm⟩ := bcell hb
            have HB := Lib.hid (bafter (bafter (bafter (bafter hb))))
            have hZ : Bk (w1.setCell ⟨w.heap.size, 6, none⟩ (.bool false)) w.heap.size 129 [.int .i64 xn, .int .i64 xd, .int .i64 yn, .int .i64 yd, .bool xs, .bool ys, .bool false] := z.set 6 _
            have hR : Bk (w1.setCell ⟨w.heap.size, 6, none⟩ (.bool false)) (w.heap.size + 3) 129 [.int .i64 0, .int .i64 0, .int .i64 0, .int .i64 0, .bool false, .bool false, .bool false] := R1.far (by simp) _
            have hW : Below w.heap.size w (w1.setCell ⟨w.heap.size, 6, none⟩ (.bool false)) := HB.out.setCell (Nat.le_refl _) _
            have z6 := z.cell 6
            have f6 := z.frozen 6
            have zl := z.lt
            simp only [List.getElem?_cons_zero, List.getElem?_cons_succ] at z6
            have HZ := Lib.hid hZ
            have HRR := Lib.hid hR
            have HW := Lib.hid hW
            clear hZ hR hW z R1 hb
            go_wp2_with (first | (refine ld_at rfl (T := 129) rfl rfl HZ.out Tryz.underlying129 rfl (by kernel_rfl) ?_) | (refine st_at rfl (T := 129) rfl rfl (cs := [.int .i64 xn, .int .i64 xd, .int .i64 yn, .int .i64 yd, .bool xs, .bool ys, .bool false]) rfl HRR.out (by kernel_rfl) rfl rfl ?_; intro wk hkk hsk))
            refine bodyPost_ret (v := inV ⟨⟨xn, xd, xs⟩, ⟨yn, yd, ys⟩, false⟩) (results_cell_row rfl _ _ (w.heap.size + 3) _ _ (0, 0) _ rfl hkk Tryz.underlying129 rfl (by kernel_rfl)) rfl ⟨rfl, ?_⟩
            exact bes_then HW.out hsk (by omega) HW.out.size
          · have hr3 : Rn.mk ⟨xn, xd, xs⟩ ⟨yn, yd, ys⟩ true = r' := hr2
            clear hr2 hr'
            subst hr3
            clear HP
            go_enter Tryz.func149, Tryz.ntmps149
            go_wp2_with fail
            refine (HO.out _).mono ?_
            rintro e w1 ⟨rfl, hb⟩
            have z := (((HBK.out.alloc _).alloc _).alloc _).below hb
            have R1 := HR.out.below hb
            obtain ⟨hcm, hfm⟩ := bcell hb
            have HB := Lib.hid (bafter (bafter (bafter (bafter hb))))
            have hZ : Bk (w1.setCell ⟨w.heap.size, 6, none⟩ (.bool true)) w.heap.size 129 [.int .i64 xn, .int .i64 xd, .int .i64 yn, .int .i64 yd, .bool xs, .bool ys, .bool true] := z.set 6 _
            have hR : Bk (w1.setCell ⟨w.heap.size, 6, none⟩ (.bool true)) (w.heap.size + 3) 129 [.int .i64 0, .int .i64 0, .int .i64 0, .int .i64 0, .bool false, .bool false, .bool false] := R1.far (by simp) _
            have hW : Below w.heap.size w (w1.setCell ⟨w.heap.size, 6, none⟩ (.bool true)) := HB.out.setCell (Nat.le_refl _) _
            have z6 := z.cell 6
            have f6 := z.frozen 6
            have zl := z.lt
            simp only [List.getElem?_cons_zero, List.getElem?_cons_succ] at z6
            have HZ := Lib.hid hZ
            have HRR := Lib.hid hR
            have HW := Lib.hid hW
            clear hZ hR hW z R1 hb
            go_wp2_with (first | (refine ld_at rfl (T := 129) rfl rfl HZ.out Tryz.underlying129 rfl (by kernel_rfl) ?_) | (refine st_at rfl (T := 129) rfl rfl (cs := [.int .i64 xn, .int .i64 xd, .int .i64 yn, .int .i64 yd, .bool xs, .bool ys, .bool true]) rfl HRR.out (by kernel_rfl) rfl rfl ?_; intro wk hkk hsk))
            refine bodyPost_ret (v := inV ⟨⟨xn, xd, xs⟩, ⟨yn, yd, ys⟩, true⟩) (results_cell_row rfl _ _ (w.heap.size + 3) _ _ (0, 0) _ rfl hkk Tryz.underlying129 rfl (by kernel_rfl)) rfl ⟨rfl, ?_⟩
            exact bes_then HW.out hsk (by omega) HW.out.size
        · obtain rfl : st = true := hst.symm
          subst hW
          try simp only at *
          obtain ⟨⟨xn, xd, xs⟩, ⟨yn, yd, ys⟩, ze⟩ := r
          try simp only at hr2 HBK HR
          cases ze
          · have hr3 : Rn.mk ⟨xn, xd, xs⟩ ⟨yn, yd, ys⟩ false = r' := hr2
            clear hr2 hr'
            subst hr3
            clear HP
            go_enter Tryz.func149, Tryz.ntmps149
            go_wp2_with fail
            refine (HO.out _).mono ?_
            rintro e w1 ⟨rfl, hb⟩
            have z := (((HBK.out.alloc _).alloc _).alloc _).below hb
            have R1 := HR.out.below hb
            obtain ⟨hcm, hfm⟩ := bcell hb
            have HB := Lib.hid (bafter (bafter (bafter (bafter hb))))
            have hZ : Bk (w1.setCell ⟨w.heap.size, 6, none⟩ (.bool false)) w.heap.size 129 [.int .i64 xn, .int .i64 xd, .int .i64 yn, .int .i64 yd, .bool xs, .bool ys, .bool false] := z.set 6 _
            have hR : Bk (w1.setCell ⟨w.heap.size, 6, none⟩ (.bool false)) (w.heap.size + 3) 129 [.int .i64 0, .int .i64 0, .int .i64 0, .int .i64 0, .bool false, .bool false, .bool false] := R1.far (by simp) _
            have hW : Below w.heap.size w (w1.setCell ⟨w.heap.size, 6, none⟩ (.bool false)) := HB.out.setCell (Nat.le_refl _) _
            have z6 := z.cell 6
            have f6 := z.frozen 6
            have zl := z.lt
            simp only [List.getElem?_cons_zero, List.getElem?_cons_succ] at z6
            have HZ := Lib.hid hZ
            have HRR := Lib.hid hR
            have HW := Lib.hid hW
            clear hZ hR hW z R1 hb
            go_wp2_with (first | (refine ld_at rfl (T := 129) rfl rfl HZ.out Tryz.underlying129 rfl (by kernel_rfl) ?_) | (refine st_at rfl (T := 129) rfl rfl (cs := [.int .i64 xn, .int .i64 xd, .int .i64 yn, .int .i64 yd, .bool xs, .bool ys, .bool false]) rfl HRR.out (by kernel_rfl) rfl rfl ?_; intro wk hkk hsk))
            refine bodyPost_ret (v := inV ⟨⟨xn, xd, xs⟩, ⟨yn, yd, ys⟩, false⟩) (results_cell_row rfl _ _ (w.heap.size + 3) _ _ (0, 0) _ rfl hkk Tryz.underlying129 rfl (by kernel_rfl)) rfl ⟨rfl, ?_⟩
            exact bes_then HW.out hsk (by omega) HW.out.size
          · have hr3 : Rn.mk ⟨xn, xd, xs⟩ ⟨yn, yd, ys⟩ true = r' := hr2
            clear hr2 hr'
            subst hr3
            clear HP
            go_enter Tryz.func149, Tryz.ntmps149
            go_wp2_with fail
            refine (HO.out _).mono ?_
            rintro e w1 ⟨rfl, hb⟩
            have z := (((HBK.out.alloc _).alloc _).alloc _).below hb
            have R1 := HR.out.below hb
            obtain ⟨hcm, hfm⟩ := bcell hb
            have HB := Lib.hid (bafter (bafter (bafter (bafter hb))))
            have hZ : Bk (w1.setCell ⟨w.heap.size, 6, none⟩ (.bool true)) w.heap.size 129 [.int .i64 xn, .int .i64 xd, .int .i64 yn, .int .i64 yd, .bool xs, .bool ys, .bool true] := z.set 6 _
            have hR : Bk (w1.setCell ⟨w.heap.size, 6, none⟩ (.bool true)) (w.heap.size + 3) 129 [.int .i64 0, .int .i64 0, .int .i64 0, .int .i64 0, .bool false, .bool false, .bool false] := R1.far (by simp) _
            have hW : Below w.heap.size w (w1.setCell ⟨w.heap.size, 6, none⟩ (.bool true)) := HB.out.setCell (Nat.le_refl _) _
            have z6 := z.cell 6
            have f6 := z.frozen 6
            have zl := z.lt
            simp only [List.getElem?_cons_zero, List.getElem?_cons_succ] at z6
            have HZ := Lib.hid hZ
            have HRR := Lib.hid hR
            have HW := Lib.hid hW
            clear hZ hR hW z R1 hb
            go_wp2_with (first | (refine ld_at rfl (T := 129) rfl rfl HZ.out Tryz.underlying129 rfl (by kernel_rfl) ?_) | (refine st_at rfl (T := 129) rfl rfl (cs := [.int .i64 xn, .int .i64 xd, .int .i64 yn, .int .i64 yd, .bool xs, .bool ys, .bool true]) rfl HRR.out (by kernel_rfl) rfl rfl ?_; intro wk hkk hsk))
            refine bodyPost_ret (v := inV ⟨⟨xn, xd, xs⟩, ⟨yn, yd, ys⟩, true⟩) (results_cell_row rfl _ _ (w.heap.size + 3) _ _ (0, 0) _ rfl hkk Tryz.underlying129 rfl (by kernel_rfl)) rfl ⟨rfl, ?_⟩
            exact bes_then HW.out hsk (by omega) HW.out.size
      · obtain rfl : st = true := by rw [← hst]; rfl
        subst hW
        try simp only at *
        obtain ⟨⟨xn, xd, xs⟩, ⟨yn, yd, ys⟩, ze⟩ := r
        try simp only at hr2 HBK HR
        cases ze
        · have hr3 : Rn.mk ⟨xn, xd, xs⟩ ⟨yn, yd, ys⟩ false = r' := hr2
          clear hr2 hr'
          subst hr3
          clear HP
          go_enter Tryz.func149, Tryz.ntmps149
          go_wp2_with fail
          refine (HO.out _).mono ?_
          rintro e w1 ⟨rfl, hb⟩
          have z := (((HBK.out.alloc _).alloc _).alloc _).below hb
          have R1 := HR.out.below hb
          obtain ⟨hcm, hfm⟩ := bcell hb
          have HB := Lib.hid (bafter (bafter (bafter (bafter hb))))
          have hZ : Bk (w1.setCell ⟨w.heap.size, 6, none⟩ (.bool false)) w.heap.size 129 [.int .i64 xn, .int .i64 xd, .int .i64 yn, .int .i64 yd, .bool xs, .bool ys, .bool false] := z.set 6 _
          have hR : Bk (w1.setCell ⟨w.heap.size, 6, none⟩ (.bool false)) (w.heap.size + 3) 129 [.int .i64 0, .int .i64 0, .int .i64 0, .int .i64 0, .bool false, .bool false, .bool false] := R1.far (by simp) _
          have hW : Below w.heap.size w (w1.setCell ⟨w.heap.size, 6, none⟩ (.bool false)) := HB.out.setCell (Nat.le_refl _) _
          have z6 := z.cell 6
          have f6 := z.frozen 6
          have zl := z.lt
          simp only [List.getElem?_cons_zero, List.getElem?_cons_succ] at z6
          have HZ := Lib.hid hZ
          have HRR := Lib.hid hR
          have HW := Lib.hid hW
          clear hZ hR hW z R1 hb
          go_wp2_with (first | (refine ld_at rfl (T := 129) rfl rfl HZ.out Tryz.underlying129 rfl (by kernel_rfl) ?_) | (refine st_at rfl (T := 129) rfl rfl (cs := [.int .i64 xn, .int .i64 xd, .int .i64 yn, .int .i64 yd, .bool xs, .bool ys, .bool false]) rfl HRR.out (by kernel_rfl) rfl rfl ?_; intro wk hkk hsk))
          refine bodyPost_ret (v := inV ⟨⟨xn, xd, xs⟩, ⟨yn, yd, ys⟩, false⟩) (results_cell_row rfl _ _ (w.heap.size + 3) _ _ (0, 0) _ rfl hkk Tryz.underlying129 rfl (by kernel_rfl)) rfl ⟨rfl, ?_⟩
          exact bes_then HW.out hsk (by omega) HW.out.size
        · have hr3 : Rn.mk ⟨xn, xd, xs⟩ ⟨yn, yd, ys⟩ true = r' := hr2
          clear hr2 hr'
          subst hr3
          clear HP
          go_enter Tryz.func149, Tryz.ntmps149
          go_wp2_with fail
          refine (HO.out _).mono ?_
          rintro e w1 ⟨rfl, hb⟩
          have z := (((HBK.out.alloc _).alloc _).alloc _).below hb
          have R1 := HR.out.below hb
          obtain ⟨hcm, hfm⟩ := bcell hb
          have HB := Lib.hid (bafter (bafter (bafter (bafter hb))))
          have hZ : Bk (w1.setCell ⟨w.heap.size, 6, none⟩ (.bool true)) w.heap.size 129 [.int .i64 xn, .int .i64 xd, .int .i64 yn, .int .i64 yd, .bool xs, .bool ys, .bool true] := z.set 6 _
          have hR : Bk (w1.setCell ⟨w.heap.size, 6, none⟩ (.bool true)) (w.heap.size + 3) 129 [.int .i64 0, .int .i64 0, .int .i64 0, .int .i64 0, .bool false, .bool false, .bool false] := R1.far (by simp) _
          have hW : Below w.heap.size w (w1.setCell ⟨w.heap.size, 6, none⟩ (.bool true)) := HB.out.setCell (Nat.le_refl _) _
          have z6 := z.cell 6
          have f6 := z.frozen 6
          have zl := z.lt
          simp only [List.getElem?_cons_zero, List.getElem?_cons_succ] at z6
          have HZ := Lib.hid hZ
          have HRR := Lib.hid hR
          have HW := Lib.hid hW
          clear hZ hR hW z R1 hb
          go_wp2_with (first | (refine ld_at rfl (T := 129) rfl rfl HZ.out Tryz.underlying129 rfl (by kernel_rfl) ?_) | (refine st_at rfl (T := 129) rfl rfl (cs := [.int .i64 xn, .int .i64 xd, .int .i64 yn, .int .i64 yd, .bool xs, .bool ys, .bool true]) rfl HRR.out (by kernel_rfl) rfl rfl ?_; intro wk hkk hsk))
          refine bodyPost_ret (v := inV ⟨⟨xn, xd, xs⟩, ⟨yn, yd, ys⟩, true⟩) (results_cell_row rfl _ _ (w.heap.size + 3) _ _ (0, 0) _ rfl hkk Tryz.underlying129 rfl (by kernel_rfl)) rfl ⟨rfl, ?_⟩
          exact bes_then HW.out hsk (by omega) HW.out.size
  · rw [if_pos hk] at hr'
    have m1 := mul_bd (a := ud * ld) (b := lk - uk) (A := 1000000) (B := 2097152) (by rw [Int.mul_comm]; omega) (by rw [Int.mul_comm]; exact d2) (by omega) (by omega)
    have m2 : 0 < ud * ld * (lk - uk) := Int.mul_pos (by rw [Int.mul_comm]; exact d1) (by omega)
    have m3 : ud * ld = ld * ud := Int.mul_comm _ _
    have k1 : ∀ i : More W, _ := fun i => rless_any un ud ln ld (lk - uk) i.x (by omega) (by omega) (by omega) (by omega)
    have k2 : ∀ i : More W, _ := fun i => atMost_any r ⟨un * ld - ln * ud, ud * ld * (lk - uk), st⟩ i.x h2 ⟨by simp only; omega, by simp only; omega, by simp only; omega, by simp only; omega⟩
    rw [← m3] at hr'
    rw [hr'] at k2
    clear m1 m2 m3 hr' n1 n2 d1 d2 p1 p2 h1 h2 q1 q2 q3 q4 q5 q6 q7 q8
    have hkn : uk < lk := by omega
    cases ls
    · cases us
      · obtain rfl : st = false := hst.symm
        subst hW
        try simp only at *
        have K1 := Lib.hid (fun i => more_call (k1 i))
        have K2 := Lib.hid (fun i => more_call (k2 i))
        clear k1 k2
        go_enter Tryz.func149, Tryz.ntmps149
        go_wp2_with fail
        refine wp_head_more [0, 1, 2, 3, 4, 5, 6, 7, 8, 9, 10, 11, 12] [13] (by kernel_rfl) (by kernel_rfl) ?_
        simp only [hPick, List.getElem?_cons_zero, List.getElem?_cons_succ]
        iterate 8 (try (first | go_big_quiet_step ((with_reducible first | exact K1.out _ | exact K2.out _)) | quiet_step ((with_reducible first | exact K1.out _ | exact K2.out _))))
        iterate 8 (try (first | go_big_quiet_step ((with_reducible first | exact K1.out _ | exact K2.out _)) | quiet_step ((with_reducible first | exact K1.out _ | exact K2.out _))))
        iterate 8 (try (first | go_big_quiet_step ((with_reducible first | exact K1.out _ | exact K2.out _)) | quiet_step ((with_reducible first | exact K1.out _ | exact K2.out _))))
        iterate 8 (try (first | go_big_quiet_step ((with_reducible first | exact K1.out _ | exact K2.out _)) | quiet_step ((with_reducible first | exact K1.out _ | exact K2.out _))))
        iterate 8 (try (first | go_big_quiet_step ((with_reducible first | exact K1.out _ | exact K2.out _)) | quiet_step ((with_reducible first | exact K1.out _ | exact K2.out _))))
        refine wpQuiet_nil ?_
        rintro ⟨wm, hbm⟩
        try dsimp only
        have R1 := HR.out.below hbm
        go_wp2_with (refine st_at rfl (T := 129) rfl rfl (cs := inC r') rfl R1 (by kernel_rfl) rfl rfl ?_; intro wk hkk hsk)
        refine bodyPost_ret (v := inV r') (results_cell_row rfl _ _ (w.heap.size + 3) _ _ (0, 0) _ rfl hkk Tryz.underlying129 rfl (by kernel_rfl)) rfl ⟨rfl, ?_⟩
        exact bes_then (bafter (bafter (bafter (bafter hbm)))) hsk (by omega) (bafter (bafter (bafter (bafter hbm)))).size
      · obtain rfl : st = true := hst.symm
        subst hW
        try simp only at *
        have K1 := Lib.hid (fun i => more_call (k1 i))
        have K2 := Lib.hid (fun i => more_call (k2 i))
        clear k1 k2
        go_enter Tryz.func149, Tryz.ntmps149
        go_wp2_with fail
        refine wp_head_more [0, 1, 2, 3, 4, 5, 6, 7, 8, 9, 10, 11, 12] [13] (by kernel_rfl) (by kernel_rfl) ?_
        simp only [hPick, List.getElem?_cons_zero, List.getElem?_cons_succ]
        iterate 8 (try (first | go_big_quiet_step ((with_reducible first | exact K1.out _ | exact K2.out _)) | quiet_step ((with_reducible first | exact K1.out _ | exact K2.out _))))
        iterate 8 (try (first | go_big_quiet_step ((with_reducible first | exact K1.out _ | exact K2.out _)) | quiet_step ((with_reducible first | exact K1.out _ | exact K2.out _))))
        iterate 8 (try (first | go_big_quiet_step ((with_reducible first | exact K1.out _ | exact K2.out _)) | quiet_step ((with_reducible first | exact K1.out _ | exact K2.out _))))
        iterate 8 (try (first | go_big_quiet_step ((with_reducible first | exact K1.out _ | exact K2.out _)) | quiet_step ((with_reducible first | exact K1.out _ | exact K2.out _))))
        iterate 8 (try (first | go_big_quiet_step ((with_reducible first | exact K1.out _ | exact K2.out _)) | quiet_step ((with_reducible first | exact K1.out _ | exact K2.out _))))
        refine wpQuiet_nil ?_
        rintro ⟨wm, hbm⟩
        try dsimp only
        have R1 := HR.out.below hbm
        go_wp2_with (refine st_at rfl (T := 129) rfl rfl (cs := inC r') rfl R1 (by kernel_rfl) rfl rfl ?_; intro wk hkk hsk)
        refine bodyPost_ret (v := inV r') (results_cell_row rfl _ _ (w.heap.size + 3) _ _ (0, 0) _ rfl hkk Tryz.underlying129 rfl (by kernel_rfl)) rfl ⟨rfl, ?_⟩
        exact bes_then (bafter (bafter (bafter (bafter hbm)))) hsk (by omega) (bafter (bafter (bafter (bafter hbm)))).size
    · obtain rfl : st = true := by rw [← hst]; rfl
      subst hW
      try simp only at *
      have K1 := Lib.hid (fun i => more_call (k1 i))
      have K2 := Lib.hid (fun i => more_call (k2 i))
      clear k1 k2
      go_enter Tryz.func149, Tryz.ntmps149
      go_wp2_with fail
      refine wp_head_more [0, 1, 2, 3, 4, 5, 6, 7, 8, 9, 10, 11, 12] [13] (by kernel_rfl) (by kernel_rfl) ?_
      simp only [hPick, List.getElem?_cons_zero, List.getElem?_cons_succ]
      iterate 8 (try (first | go_big_quiet_step ((with_reducible first | exact K1.out _ | exact K2.out _)) | quiet_step ((with_reducible first | exact K1.out _ | exact K2.out _))))
      iterate 8 (try (first | go_big_quiet_step ((with_reducible first | exact K1.out _ | exact K2.out _)) | quiet_step ((with_reducible first | exact K1.out _ | exact K2.out _))))
      iterate 8 (try (first | go_big_quiet_step ((with_reducible first | exact K1.out _ | exact K2.out _)) | quiet_step ((with_reducible first | exact K1.out _ | exact K2.out _))))
      iterate 8 (try (first | go_big_quiet_step ((with_reducible first | exact K1.out _ | exact K2.out _)) | quiet_step ((with_reducible first | exact K1.out _ | exact K2.out _))))
      iterate 8 (try (first | go_big_quiet_step ((with_reducible first | exact K1.out _ | exact K2.out _)) | quiet_step ((with_reducible first | exact K1.out _ | exact K2.out _))))
      refine wpQuiet_nil ?_
      rintro ⟨wm, hbm⟩
      try dsimp only
      have R1 := HR.out.below hbm
      go_wp2_with (refine st_at rfl (T := 129) rfl rfl (cs := inC r') rfl R1 (by kernel_rfl) rfl rfl ?_; intro wk hkk hsk)
      refine bodyPost_ret (v := inV r') (results_cell_row rfl _ _ (w.heap.size + 3) _ _ (0, 0) _ rfl hkk Tryz.underlying129 rfl (by kernel_rfl)) rfl ⟨rfl, ?_⟩
      exact bes_then (bafter (bafter (bafter (bafter hbm)))) hsk (by omega) (bafter (bafter (bafter (bafter hbm)))).size
end Go.Proofs.YtnfndiafabhhdaaGreat
