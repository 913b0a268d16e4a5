/- Walk of CheckCase, up to its lines (Wear). -/
import Derived.Test.YtnfndiafabhhdaaGreatE6
namespace Go.Proofs.YtnfndiafabhhdaaGreat
open Go.ChangeShapes Go.WideShapes Go.ChangeAt Go.RowKit
def ccL (F : Fl) (N D b : Int) : Bool := ((lows (linesL F (allL F))).all fun l => decide (atS l (knownL F b) N D ≤ 0)) && ((ups (linesL F (allL F))).all fun u => decide (atS (knownL F b) u N D ≤ 0))
def ccB (F : Fl) (N D b : Int) : Bool := (decide (F.wlo * D ≤ N) && decide (N ≤ F.whi * D)) && ccL F N D b
def ccR (F : Fl) (N D b : Int) : Bool := (inB N 1 1125899906842624 && inB D 1 1125899906842624) && inB b (-1) ((F.s.length : Int) - 1)
def ccV (F : Fl) (N D b : Int) : Int := if okFl F then if ccR F N D b then if ccB F N D b then 0 else 31 else 1 else 30
theorem ccB_iff {F : Fl} (h : OkF F) {N D b : Int} : ccB F N D b = true ↔ CaseOk F (allL F) N D b := by
  have A := lowsP h (I := allL F) allL_in
  have B := upsP h (I := allL F) allL_in
  have X := known_pos (F := F) h (b := b)
  unfold ccB ccL CaseOk
  simp only [Bool.and_eq_true, decide_eq_true_eq, List.all_eq_true]
  refine and_congr Iff.rfl (and_congr (forall_congr' fun l => forall_congr' fun hl => ?_) (forall_congr' fun u => forall_congr' fun hu => ?_))
  · have := atS_fit (l := l) (u := knownL F b) (N := N) (D := D) (A l hl).2 X.2
    constructor
    · intro k; exact Classical.byContradiction fun c => by have := this.2 c; omega
    · intro k; rcases Int.lt_or_le 0 (atS l (knownL F b) N D) with j | j
      · exact absurd k (this.1 j)
      · exact j
  · have := atS_fit (l := knownL F b) (u := u) (N := N) (D := D) X.2 (B u hu).2
    constructor
    · intro k; exact Classical.byContradiction fun c => by have := this.2 c; omega
    · intro k; rcases Int.lt_or_le 0 (atS (knownL F b) u N D) with j | j
      · exact absurd k (this.1 j)
      · exact j
theorem known_B {F : Fl} (h : OkF F) {b : Int} (b0 : -1 ≤ b) (b1 : b < F.s.length) : LnB (knownL F b) := by
  unfold knownL
  split
  · have e := end_in h.f
    exact lnB_T h e.1.1 (by omega) (by decide) (by decide) _
  · have e := end_in (sn_okk h b1)
    have hm : b.toNat < F.s.length := by omega
    have := h.s _ (List.getElem_mem hm)
    simp only [okSn, Bool.and_eq_true, decide_eq_true_eq] at this
    unfold sn
    rw [List.getElem?_eq_getElem hm]
    unfold sn at e
    rw [List.getElem?_eq_getElem hm] at e
    simp only [Option.getD_some] at e ⊢
    exact lnB_T h e.1.1 (by omega) this.1.1.1 (by omega) _
set_option maxRecDepth 100000 in
set_option maxHeartbeats 4000000 in
theorem CheckCase_any (F : Fl) (vv vs : Value) (N D n : Int) (w : World) (hF : FlIn w F vv vs) : Calls Tryz.prog 33 #[flV F vv vs, .agg #[.int .i64 N, .int .i64 D], .int .i64 n] w fun e w' => e = .returned (.int .i64 (ccV F N D n)) ∧ Below w.heap.size w w' := by
  have hO := opened_any F vv vs _ ((hF.alloc (flO F vv vs)).alloc (Obj.cells #[.int .i64 N, .int .i64 D] 41))
  have b2 := Bk.new1 w (flO F vv vs) 41 [.int .i64 N, .int .i64 D]
  obtain ⟨os, cs, rfl, ms⟩ := hF.s.parts
  obtain ⟨ov, cv, rfl, mv⟩ := hF.v.parts
  have HO := Lib.hid hO
  have B2 := Lib.hid b2
  clear hO hF b2
  go_enter Tryz.func33, Tryz.ntmps33
  go_wp2_with fail
  refine HO.out.mono ?_
  rintro e w1 (⟨h0, rfl, hb1⟩ | ⟨b, pv, rfl, hb1, hS⟩)
  · go_wp2_with fail
    go_ret
    refine ⟨?_, belw⟩
    rw [ccV, h0]; rfl
  · have hok : okFl F = true := (okFl_iff F).2 hS.o
    have hv : ccV F N D n = if ccR F N D n then if ccB F N D n then 0 else 31 else 1 := by unfold ccV; rw [hok]; rfl
    have n24 := hS.o.n
    have c0 := hS.k.cell 5
    have c3 := hS.k.cell 3
    have c4 := hS.k.cell 4
    simp only [styC, List.getElem?_cons_zero, List.getElem?_cons_succ] at c0 c3 c4
    have hlt := hS.k.lt
    have hb2 := B2.out.below hb1
    have z0 := hb2.cell 0
    have z1 := hb2.cell 1
    have z2 := hb2.lt
    simp only [List.getElem?_cons_zero, List.getElem?_cons_succ] at z0 z1
    have hs1 := hb1.size
    simp only [World.size_alloc] at hs1
    have hbw : Below w.heap.size w w1 := Below.trans (Below.alloc (Below.alloc (Below.refl _ _) (Nat.le_refl _) _) (by simp) _) (hb1.mono (by simp; omega))
    obtain ⟨L, hL⟩ : ∃ k, F.s.length = k := ⟨_, rfl⟩
    have HSY := Lib.hid hS
    have HB2 := Lib.hid hb2
    have HBW := Lib.hid hbw
    unfold ccR at hv
    rw [hL] at hv
    cases h1 : inB N 1 1125899906842624 with
    | false =>
      rw [h1] at hv
      have HV := Lib.hid (show ccV F N D n = 1 from hv)
      rw [hL] at c0 n24 ⊢
      clear hv hS hb1 hb2 hbw HO
      go_wp2_with (go_at_call 78; (with_reducible refine (from_any _ _ _ _).mono ?_); rintro e w' ⟨rfl, rfl⟩)
      go_ret
      exact ⟨by rw [HV.out]; rfl, HBW.out⟩
    | true =>
      cases h2 : inB D 1 1125899906842624 with
      | false =>
        rw [h1, h2] at hv
        have HV := Lib.hid (show ccV F N D n = 1 from hv)
        rw [hL] at c0 n24 ⊢
        clear hv hS hb1 hb2 hbw HO
        go_wp2_with (go_at_call 78; (with_reducible refine (from_any _ _ _ _).mono ?_); rintro e w' ⟨rfl, rfl⟩)
        go_ret
        exact ⟨by rw [HV.out]; rfl, HBW.out⟩
      | true =>
        cases h3 : inB n (-1) ((L : Int) - 1) with
        | false =>
          rw [h1, h2, h3] at hv
          have HV := Lib.hid (show ccV F N D n = 1 from hv)
          rw [hL] at c0 n24 ⊢
          clear hv hS hb1 hb2 hbw HO
          go_wp2_with (go_at_call 78; (with_reducible refine (from_any _ _ _ _).mono ?_); rintro e w' ⟨rfl, rfl⟩)
          go_ret
          exact ⟨by rw [HV.out]; rfl, HBW.out⟩
        | true =>
          rw [h1, h2, h3] at hv
          have HV := Lib.hid (show ccV F N D n = if ccB F N D n then 0 else 31 from hv)
          obtain ⟨N0, N1⟩ := inB_t h1
          obtain ⟨D0, D1⟩ := inB_t h2
          obtain ⟨n0, n1⟩ := inB_t h3
          rw [hL] at c0 n24 ⊢
          clear hv hS hb1 hb2 hbw HO
          go_wp2_with (go_at_call 78; (with_reducible refine (from_any _ _ _ _).mono ?_); rintro e w' ⟨rfl, rfl⟩)
          refine (all_any F b _ _ pv w1 HSY.out).mono ?_
          rintro e w3 ⟨v3, rfl, hb3, hi3⟩
          obtain ⟨oi, ni, ci, rfl, hli, mi⟩ := hi3.parts
          go_wp2_with fail
          have hnn : (allL F).length ≤ 1000 := by rw [all_len]; have := HSY.out.o.n; omega
          refine (region_any F b _ _ pv _ (allL F) w3 (HSY.out.below hb3) hi3 (allL_ok F) hnn).mono ?_
          rintro e w4 ⟨va, vb, rfl, hb4, ⟨hA4, hcA⟩, hB4, hcB⟩
          have hb34 := bthen hb3 hb4
          obtain ⟨oa, ca, rfl, ma⟩ := hA4.parts
          obtain ⟨ob, cb, rfl, mb⟩ := hB4.parts
          have hok := HSY.out.o
          have w1_ := hok.w1
          have w2_ := hok.w2
          have w3_ := hok.w3
          have HA4 := Lib.hid hA4
          have HB4 := Lib.hid hB4
          obtain ⟨kr, hkr⟩ : ∃ r, rnW F (allL F) = r := ⟨_, rfl⟩
          rw [hkr]
          have c3 := (hb34.cell (p := ⟨b, 3, none⟩) hlt).trans c3
          have c4 := (hb34.cell (p := ⟨b, 4, none⟩) hlt).trans c4
          have z0 := (hb34.cell (p := ⟨w.heap.size + 1, 0, none⟩) z2).trans z0
          have z1 := (hb34.cell (p := ⟨w.heap.size + 1, 1, none⟩) z2).trans z1
          have hlt := Nat.lt_of_lt_of_le hlt hb34.size
          have z2 := Nat.lt_of_lt_of_le z2 hb34.size
          have HSY := Lib.hid (HSY.out.below hb34)
          have HBW := Lib.hid (HBW.out.trans (hb34.mono HBW.out.size))
          have HB2 := Lib.hid (HB2.out.below hb34)
          clear hli mi hi3 hnn hA4 hB4 hkr hb3 hb4 hb34 c0 hok
          clear hs1
          obtain ⟨nA, hnA⟩ : ∃ k, (lows (linesL F (allL F))).length = k := ⟨_, rfl⟩
          obtain ⟨nB, hnB⟩ : ∃ k, (ups (linesL F (allL F))).length = k := ⟨_, rfl⟩
          rw [hnA, hnB]
          go_wp2_with fail
          obtain ⟨W, hWW⟩ : ∃ W, w4.alloc (Obj.cells #[.int .i64 kr.lo.n, .int .i64 kr.lo.d, .bool kr.lo.s, .int .i64 kr.hi.n, .int .i64 kr.hi.d, .bool kr.hi.s, .slice oa nA ca, .slice ob nB cb, .bool kr.e] 100) = W := ⟨_, rfl⟩
          have hW : Below w4.heap.size w4 W := by rw [← hWW]; exact ballo _ _
          have hRW : Bk W w4.heap.size 100 [.int .i64 kr.lo.n, .int .i64 kr.lo.d, .bool kr.lo.s, .int .i64 kr.hi.n, .int .i64 kr.hi.d, .bool kr.hi.s, .slice oa nA ca, .slice ob nB cb, .bool kr.e] := by rw [← hWW]; exact Bk.new w4 _ [_, _, _, _, _, _, _, _, _]
          try rw [hWW]
          clear hWW
          have m1 := mul_bd (show 0 ≤ F.wlo by omega) (show F.wlo ≤ 4000 by omega) (show 0 ≤ D by omega) D1
          have m2 := mul_bd (show 0 ≤ F.whi by omega) (show F.whi ≤ 4000 by omega) (show 0 ≤ D by omega) D1
          have v1 : ∀ i : More W, i.x.cell? ⟨b, 3, none⟩ = some (.int .i64 F.wlo) := fun i => ((hW.trans (i.h.mono hW.size)).cell (p := ⟨b, 3, none⟩) hlt).trans c3
          have v2 : ∀ i : More W, i.x.cell? ⟨b, 4, none⟩ = some (.int .i64 F.whi) := fun i => ((hW.trans (i.h.mono hW.size)).cell (p := ⟨b, 4, none⟩) hlt).trans c4
          have v3 : ∀ i : More W, i.x.cell? ⟨w.heap.size + 1, 0, none⟩ = some (.int .i64 N) := fun i => ((hW.trans (i.h.mono hW.size)).cell (p := ⟨w.heap.size + 1, 0, none⟩) z2).trans z0
          have v4 : ∀ i : More W, i.x.cell? ⟨w.heap.size + 1, 1, none⟩ = some (.int .i64 D) := fun i => ((hW.trans (i.h.mono hW.size)).cell (p := ⟨w.heap.size + 1, 1, none⟩) z2).trans z1
          have K1 := Lib.hid (fun i : More W => more_call (times_any F.wlo D i.x (by omega) (by omega) (by omega) (by omega)))
          have K2 := Lib.hid (fun i : More W => more_call (times_any F.whi D i.x (by omega) (by omega) (by omega) (by omega)))
          have k3 := fun i : More W => more_call (times_any N 1 i.x (by omega) (by omega) (by omega) (by omega))
          have k4 := fun i : More W => more_call (wcompare_any (F.wlo * D) (N * 1) i.x)
          have k5 := fun i : More W => more_call (wcompare_any (F.whi * D) (N * 1) i.x)
          simp only [Int.mul_one] at k3 k4 k5
          have K3 := Lib.hid k3
          have t1 : 0 < sgn (F.wlo * D - N) ↔ N < F.wlo * D := by rw [sgn_gt]; omega
          have t2 : sgn (F.whi * D - N) < 0 ↔ F.whi * D < N := by rw [sgn_lt]; omega
          have t3 := sgn_bd (F.wlo * D - N)
          have t4 := sgn_bd (F.whi * D - N)
          obtain ⟨r1, hr1⟩ : ∃ x, sgn (F.wlo * D - N) = x := ⟨_, rfl⟩
          obtain ⟨r2, hr2⟩ : ∃ x, sgn (F.whi * D - N) = x := ⟨_, rfl⟩
          rw [hr1] at t1 t3
          rw [hr2] at t2 t4
          simp only [hr1] at k4
          simp only [hr2] at k5
          have K4 := Lib.hid k4
          have K5 := Lib.hid k5
          have HW := Lib.hid hW
          have HRW := Lib.hid hRW
          clear hr1 hr2 k3 k4 k5 hW hRW
          have hvB : ccB F N D n = ((decide (F.wlo * D ≤ N) && decide (N ≤ F.whi * D)) && ccL F N D n) := rfl
          by_cases q1 : N < F.wlo * D
          · have g1 := t1.2 q1
            have HV := Lib.hid (show ccV F N D n = 31 by rw [HV.out, hvB, show decide (F.wlo * D ≤ N) = false by simp; omega]; rfl)
            clear t1 t2 q1 m1 m2 hvB
            refine wp_region_more (by kernel_rfl) (by kernel_rfl) ?_
            iterate 8 (try (first | go_big_quiet_step ((with_reducible first | exact K1.out _ | exact K3.out _ | exact K4.out _)) | quiet_step ((with_reducible first | exact K1.out _ | exact K3.out _ | exact K4.out _))))
            iterate 8 (try (first | go_big_quiet_step ((with_reducible first | exact K1.out _ | exact K3.out _ | exact K4.out _)) | quiet_step ((with_reducible first | exact K1.out _ | exact K3.out _ | exact K4.out _))))
            iterate 8 (try (first | go_big_quiet_step ((with_reducible first | exact K1.out _ | exact K3.out _ | exact K4.out _)) | quiet_step ((with_reducible first | exact K1.out _ | exact K3.out _ | exact K4.out _))))
            iterate 8 (try (first | go_big_quiet_step ((with_reducible first | exact K1.out _ | exact K3.out _ | exact K4.out _)) | quiet_step ((with_reducible first | exact K1.out _ | exact K3.out _ | exact K4.out _))))
            iterate 8 (try (first | go_big_quiet_step ((with_reducible first | exact K1.out _ | exact K3.out _ | exact K4.out _)) | quiet_step ((with_reducible first | exact K1.out _ | exact K3.out _ | exact K4.out _))))
            refine wpQuiet_nil ?_
            rintro ⟨wm, hbm⟩
            try dsimp only
            go_wp2_with fail
            go_ret
            exact ⟨by rw [HV.out]; rfl, (HBW.out.trans (HW.out.mono HBW.out.size)).trans (hbm.mono (Nat.le_trans HBW.out.size HW.out.size))⟩
          · have g1 : ¬ 0 < r1 := fun h => q1 (t1.1 h)
            by_cases q2 : F.whi * D < N
            · have g2 := t2.2 q2
              have HV := Lib.hid (show ccV F N D n = 31 by rw [HV.out, hvB, show decide (N ≤ F.whi * D) = false by simp; omega, Bool.and_false, Bool.false_and]; rfl)
              clear t1 t2 q1 q2 m1 m2 hvB
              refine wp_region_more (by kernel_rfl) (by kernel_rfl) ?_
              iterate 8 (try (first | go_big_quiet_step ((with_reducible first | exact K1.out _ | exact K2.out _ | exact K3.out _ | exact K4.out _ | exact K5.out _)) | quiet_step ((with_reducible first | exact K1.out _ | exact K2.out _ | exact K3.out _ | exact K4.out _ | exact K5.out _))))
              iterate 8 (try (first | go_big_quiet_step ((with_reducible first | exact K1.out _ | exact K2.out _ | exact K3.out _ | exact K4.out _ | exact K5.out _)) | quiet_step ((with_reducible first | exact K1.out _ | exact K2.out _ | exact K3.out _ | exact K4.out _ | exact K5.out _))))
              iterate 8 (try (first | go_big_quiet_step ((with_reducible first | exact K1.out _ | exact K2.out _ | exact K3.out _ | exact K4.out _ | exact K5.out _)) | quiet_step ((with_reducible first | exact K1.out _ | exact K2.out _ | exact K3.out _ | exact K4.out _ | exact K5.out _))))
              iterate 8 (try (first | go_big_quiet_step ((with_reducible first | exact K1.out _ | exact K2.out _ | exact K3.out _ | exact K4.out _ | exact K5.out _)) | quiet_step ((with_reducible first | exact K1.out _ | exact K2.out _ | exact K3.out _ | exact K4.out _ | exact K5.out _))))
              iterate 8 (try (first | go_big_quiet_step ((with_reducible first | exact K1.out _ | exact K2.out _ | exact K3.out _ | exact K4.out _ | exact K5.out _)) | quiet_step ((with_reducible first | exact K1.out _ | exact K2.out _ | exact K3.out _ | exact K4.out _ | exact K5.out _))))
              refine wpQuiet_nil ?_
              rintro ⟨wm, hbm⟩
              try dsimp only
              go_wp2_with fail
              go_ret
              exact ⟨by rw [HV.out]; rfl, (HBW.out.trans (HW.out.mono HBW.out.size)).trans (hbm.mono (Nat.le_trans HBW.out.size HW.out.size))⟩
            · have g2 : ¬ r2 < 0 := fun h => q2 (t2.1 h)
              have HV := Lib.hid (show ccV F N D n = if ccL F N D n then 0 else 31 by rw [HV.out, hvB, show decide (F.wlo * D ≤ N) = true by simp; omega, show decide (N ≤ F.whi * D) = true by simp; omega, Bool.true_and, Bool.true_and])
              clear t1 t2 q1 q2 m1 m2 hvB
              refine wp_region_more (by kernel_rfl) (by kernel_rfl) ?_
              iterate 8 (try (first | go_big_quiet_step ((with_reducible first | exact K1.out _ | exact K2.out _ | exact K3.out _ | exact K4.out _ | exact K5.out _)) | quiet_step ((with_reducible first | exact K1.out _ | exact K2.out _ | exact K3.out _ | exact K4.out _ | exact K5.out _))))
              iterate 8 (try (first | go_big_quiet_step ((with_reducible first | exact K1.out _ | exact K2.out _ | exact K3.out _ | exact K4.out _ | exact K5.out _)) | quiet_step ((with_reducible first | exact K1.out _ | exact K2.out _ | exact K3.out _ | exact K4.out _ | exact K5.out _))))
              iterate 8 (try (first | go_big_quiet_step ((with_reducible first | exact K1.out _ | exact K2.out _ | exact K3.out _ | exact K4.out _ | exact K5.out _)) | quiet_step ((with_reducible first | exact K1.out _ | exact K2.out _ | exact K3.out _ | exact K4.out _ | exact K5.out _))))
              iterate 8 (try (first | go_big_quiet_step ((with_reducible first | exact K1.out _ | exact K2.out _ | exact K3.out _ | exact K4.out _ | exact K5.out _)) | quiet_step ((with_reducible first | exact K1.out _ | exact K2.out _ | exact K3.out _ | exact K4.out _ | exact K5.out _))))
              iterate 8 (try (first | go_big_quiet_step ((with_reducible first | exact K1.out _ | exact K2.out _ | exact K3.out _ | exact K4.out _ | exact K5.out _)) | quiet_step ((with_reducible first | exact K1.out _ | exact K2.out _ | exact K3.out _ | exact K4.out _ | exact K5.out _))))
              refine wpQuiet_nil ?_
              rintro ⟨wm, hbm⟩
              try dsimp only
              clear K1 K2 K3 K4 K5 v1 v2 v3 v4 g1 g2 t3 t4
              have hWm : Below w4.heap.size w4 wm := HW.out.trans (hbm.mono HW.out.size)
              have HSYm := Lib.hid (HSY.out.below hWm)
              have HAm := Lib.hid (HA4.out.below hWm)
              have HBm := Lib.hid (HB4.out.below hWm)
              have HRm := Lib.hid (HRW.out.below hbm)
              have HB2m := Lib.hid (HB2.out.below hWm)
              have HBWm := Lib.hid (HBW.out.trans (hWm.mono HBW.out.size))
              clear hbm hWm HW HRW HA4 HB4 c3 c4 z0 z1
              go_wp2_with fail
              refine (first_any F b _ _ pv n _ HSYm.out n0 (by omega)).mono ?_
              rintro e w6 ⟨rfl, hb6⟩
              have hxB := known_B HSYm.out.o n0 (show n < F.s.length by omega)
              have hcc : ccL F N D n = (((lows (linesL F (allL F))).all fun l => decide (atS l (knownL F n) N D ≤ 0)) && ((ups (linesL F (allL F))).all fun u => decide (atS (knownL F n) u N D ≤ 0))) := rfl
              rw [hcc] at HV
              clear hcc
              have hLB := lines_B HSYm.out.o (allL_ok F)
              generalize lows (linesL F (allL F)) = A at *
              generalize ups (linesL F (allL F)) = B at *
              generalize knownL F n = x at *
              have hX6 := Bk.new w6 142 [.int .i64 x.k, .int .i64 x.n, .int .i64 x.d, .bool x.s]
              have hR6 := (HRm.out.below hb6).alloc (Obj.cells #[.int .i64 x.k, .int .i64 x.n, .int .i64 x.d, .bool x.s] 142)
              have hN6 := (HB2m.out.below hb6).alloc (Obj.cells #[.int .i64 x.k, .int .i64 x.n, .int .i64 x.d, .bool x.s] 142)
              have hA6 := (HAm.out.below hb6).alloc (Obj.cells #[.int .i64 x.k, .int .i64 x.n, .int .i64 x.d, .bool x.s] 142)
              have hB6 := (HBm.out.below hb6).alloc (Obj.cells #[.int .i64 x.k, .int .i64 x.n, .int .i64 x.d, .bool x.s] 142)
              have hW6 := (HBWm.out.trans (hb6.mono HBWm.out.size)).alloc (Nat.le_trans HBWm.out.size hb6.size) (Obj.cells #[.int .i64 x.k, .int .i64 x.n, .int .i64 x.d, .bool x.s] 142)
              have r6 := (HRm.out.below hb6).cell 6
              have r7 := (HRm.out.below hb6).lt
              simp only [List.getElem?_cons_zero, List.getElem?_cons_succ] at r6
              have HX := Lib.hid hX6
              have HR := Lib.hid hR6
              have HN := Lib.hid hN6
              have HA := Lib.hid hA6
              have HB := Lib.hid hB6
              have HWW := Lib.hid hW6
              have HXB := Lib.hid hxB
              have HLB := Lib.hid hLB
              clear hX6 hR6 hN6 hA6 hB6 hW6 hxB hLB HRm HB2m HAm HBm HSYm HBWm HSY HBW HB2 hb6
              go_wp2_with fail
              obtain ⟨V, hVV⟩ : ∃ W, w6.alloc (Obj.cells #[.int .i64 x.k, .int .i64 x.n, .int .i64 x.d, .bool x.s] 142) = W := ⟨_, rfl⟩
              rw [show w6.alloc (Obj.cells [.int .i64 x.k, .int .i64 x.n, .int .i64 x.d, .bool x.s].toArray 142) = V from hVV] at HX
              rw [hVV] at HR HN HA HB HWW
              try rw [hVV]
              clear hVV r6 r7
              go_loopw [85] (fun i wr => ∃ k : Nat, k ≤ nA ∧ i = .int .i64 (k : Int) ∧ Below V.heap.size V wr ∧ Hid ((A.take k).all (fun l => decide (atS l x N D ≤ 0)) = true)) (fun i _ => nA - (intOf i).toNat)
              case atStart => exact ⟨0, Nat.zero_le _, rfl, Below.refl _ _, rfl⟩
              case round =>
                obtain ⟨k, hk, rfl, hbl, hall⟩ := hrel
                have hsz := hbl.size
                by_cases h0 : k < nA
                · obtain ⟨ba, fa, rfl, hba, hca⟩ := HA.out.cells (by omega)
                  have d0 := (hbl.cell (p := ⟨ba, fa + k * 4, none⟩) hba).trans (hca k 0 (by omega) (by omega))
                  have d1 := (hbl.cell (p := ⟨ba, fa + k * 4 + 1, none⟩) hba).trans (hca k 1 (by omega) (by omega))
                  have d2 := (hbl.cell (p := ⟨ba, fa + k * 4 + 2, none⟩) hba).trans (hca k 2 (by omega) (by omega))
                  have d3 := (hbl.cell (p := ⟨ba, fa + k * 4 + 3, none⟩) hba).trans (hca k 3 (by omega) (by omega))
                  simp only [lnF] at d0 d1 d2 d3
                  clear hca
                  have hmem := lnAt_mem (L := A) (i := k) (by omega)
                  have hlB := HLB.out.1 _ hmem
                  have htk := lnAt_take (L := A) (i := k) (by omega)
                  obtain ⟨l, hl⟩ : ∃ l, lnAt A k = l := ⟨_, rfl⟩
                  rw [hl] at d0 d1 d2 d3 hlB htk hmem
                  have HTK := Lib.hid htk
                  have HMEM := Lib.hid hmem
                  have q := HX.out.below hbl
                  have p0 := q.cell 0
                  have p1 := q.cell 1
                  have p2 := q.cell 2
                  have p3 := q.cell 3
                  have p4 := q.lt
                  have q' := HN.out.below hbl
                  have o0 := q'.cell 0
                  have o1 := q'.cell 1
                  have o2 := q'.lt
                  simp only [List.getElem?_cons_zero, List.getElem?_cons_succ] at p0 p1 p2 p3 o0 o1
                  have HAT := Lib.hid (fun W => wat_any l x N D W hlB HXB.out N0 N1 D0 D1)
                  obtain ⟨r, hr⟩ : ∃ r, atS l x N D = r := ⟨_, rfl⟩
                  rw [hr] at HAT
                  have HRR := Lib.hid hr
                  clear htk hl q q' hr hlB hmem
                  by_cases hp : 0 < r
                  · have HV := Lib.hid (show ccV F N D n = 31 by
                      rw [HV.out, if_neg]
                      intro hc
                      have hc := (Bool.and_eq_true_iff.1 hc).1
                      have := List.all_eq_true.1 hc l HMEM.out
                      rw [HRR.out, decide_eq_true_eq] at this
                      omega)
                    go_wp2_with fail
                    refine (HAT.out _).mono ?_
                    rintro e w8 ⟨rfl, hb8⟩
                    have hfin := Lib.hid ((HWW.out.trans (hbl.mono HWW.out.size)).trans ((bafter hb8).mono (Nat.le_trans HWW.out.size hsz)))
                    clear hb8
                    go_wp2_with fail
                    go_ret
                    exact ⟨by rw [HV.out]; rfl, hfin.out⟩
                  · go_wp2_with fail
                    refine (HAT.out _).mono ?_
                    rintro e w8 ⟨rfl, hb8⟩
                    have hb9 := Lib.hid (bthen hbl (bafter hb8))
                    clear hb8
                    go_wp2_with fail
                    refine ⟨⟨k + 1, by omega, by go_num, hb9.out, ?_⟩, by simp [intOf]; omega⟩
                    refine Lib.hid ?_
                    rw [HTK.out, List.all_append, hall.out, Bool.true_and]
                    have hr0 := HRR.out
                    simp only [List.all_cons, List.all_nil, Bool.and_true, decide_eq_true_eq]
                    rw [hr0]
                    omega
                · obtain rfl : k = nA := by omega
                  have hall := hall.out
                  rw [show A.take k = A by rw [← hnA]; exact List.take_length] at hall
                  have s := HR.out.below hbl
                  have s7 := s.cell 7
                  have sl := s.lt
                  simp only [List.getElem?_cons_zero, List.getElem?_cons_succ] at s7
                  have HALL := Lib.hid hall
                  clear s hall
                  go_wp2_with fail
                  go_loopw [98] (fun i wr => ∃ k : Nat, k ≤ nB ∧ i = .int .i64 (k : Int) ∧ Below V.heap.size V wr ∧ Hid ((B.take k).all (fun l => decide (atS x l N D ≤ 0)) = true)) (fun i _ => nB - (intOf i).toNat)
                  case atStart => exact ⟨0, Nat.zero_le _, rfl, hbl, rfl⟩
                  case round =>
                    obtain ⟨k2, hk2, rfl, hbl2, hall2⟩ := hrel
                    have hsz2 := hbl2.size
                    by_cases h0 : k2 < nB
                    · obtain ⟨ba, fa, rfl, hba, hca⟩ := HB.out.cells (by omega)
                      have d0 := (hbl2.cell (p := ⟨ba, fa + k2 * 4, none⟩) hba).trans (hca k2 0 (by omega) (by omega))
                      have d1 := (hbl2.cell (p := ⟨ba, fa + k2 * 4 + 1, none⟩) hba).trans (hca k2 1 (by omega) (by omega))
                      have d2 := (hbl2.cell (p := ⟨ba, fa + k2 * 4 + 2, none⟩) hba).trans (hca k2 2 (by omega) (by omega))
                      have d3 := (hbl2.cell (p := ⟨ba, fa + k2 * 4 + 3, none⟩) hba).trans (hca k2 3 (by omega) (by omega))
                      simp only [lnF] at d0 d1 d2 d3
                      clear hca
                      have hmem := lnAt_mem (L := B) (i := k2) (by omega)
                      have hlB := HLB.out.2 _ hmem
                      have htk := lnAt_take (L := B) (i := k2) (by omega)
                      obtain ⟨l, hl⟩ : ∃ l, lnAt B k2 = l := ⟨_, rfl⟩
                      rw [hl] at d0 d1 d2 d3 hlB htk hmem
                      have HTK := Lib.hid htk
                      have HMEM := Lib.hid hmem
                      have q := HX.out.below hbl2
                      have p0 := q.cell 0
                      have p1 := q.cell 1
                      have p2 := q.cell 2
                      have p3 := q.cell 3
                      have p4 := q.lt
                      have q' := HN.out.below hbl2
                      have o0 := q'.cell 0
                      have o1 := q'.cell 1
                      have o2 := q'.lt
                      simp only [List.getElem?_cons_zero, List.getElem?_cons_succ] at p0 p1 p2 p3 o0 o1
                      have HAT := Lib.hid (fun W => wat_any x l N D W HXB.out hlB N0 N1 D0 D1)
                      obtain ⟨r, hr⟩ : ∃ r, atS x l N D = r := ⟨_, rfl⟩
                      rw [hr] at HAT
                      have HRR := Lib.hid hr
                      clear htk hl q q' hr hlB hmem
                      by_cases hp : 0 < r
                      · have HV := Lib.hid (show ccV F N D n = 31 by
                          rw [HV.out, if_neg]
                          intro hc
                          have hc := (Bool.and_eq_true_iff.1 hc).2
                          have := List.all_eq_true.1 hc l HMEM.out
                          rw [HRR.out, decide_eq_true_eq] at this
                          omega)
                        go_wp2_with fail
                        refine (HAT.out _).mono ?_
                        rintro e w8 ⟨rfl, hb8⟩
                        have hfin := Lib.hid ((HWW.out.trans (hbl2.mono HWW.out.size)).trans ((bafter hb8).mono (Nat.le_trans HWW.out.size hsz2)))
                        clear hb8
                        go_wp2_with fail
                        go_ret
                        exact ⟨by rw [HV.out]; rfl, hfin.out⟩
                      · go_wp2_with fail
                        refine (HAT.out _).mono ?_
                        rintro e w8 ⟨rfl, hb8⟩
                        have hb9 := Lib.hid (bthen hbl2 (bafter hb8))
                        clear hb8
                        go_wp2_with fail
                        refine ⟨⟨k2 + 1, by omega, by go_num, hb9.out, ?_⟩, by simp [intOf]; omega⟩
                        refine Lib.hid ?_
                        rw [HTK.out, List.all_append, hall2.out, Bool.true_and]
                        have hr0 := HRR.out
                        simp only [List.all_cons, List.all_nil, Bool.and_true, decide_eq_true_eq]
                        rw [hr0]
                        omega
                    · obtain rfl : k2 = nB := by omega
                      have hall2 := hall2.out
                      rw [show B.take k2 = B by rw [← hnB]; exact List.take_length] at hall2
                      have HV := Lib.hid (show ccV F N D n = 0 by rw [HV.out, HALL.out, hall2]; rfl)
                      have hfin := Lib.hid (HWW.out.trans (hbl2.mono HWW.out.size))
                      clear hall2
                      go_wp2_with fail
                      go_ret
                      exact ⟨by rw [HV.out]; rfl, hfin.out⟩
end Go.Proofs.YtnfndiafabhhdaaGreat
