/- Walks of the reference's Check, Possible, asked (Wear). -/
import Derived.Test.YtnfndiafabhhdaaGreatG6
import Derived.Test.YtnfndiafabhhdaaGreatC7
import Derived.Test.YtnfndiafabhhdaaGreatE4
import Derived.Test.YtnfndiafabhhdaaGreatD2
namespace Go.Proofs.YtnfndiafabhhdaaGreat
open Go.ChangeShapes Go.WideShapes Go.ChangeAt Go.RowKit
theorem chkF_30 {F : Fl} (h : okFl F = false) : chkF F = 30 := by unfold chkF; rw [if_neg (by rw [h]; decide)]
set_option maxRecDepth 100000 in
set_option maxHeartbeats 4000000 in
theorem rCheck_any (F : Fl) (vv vs : Value) (w : World) (hF : FlIn w F vv vs) : Calls Tryz.prog 38 #[flV F vv vs] w fun e w' => e = .returned (.int .i64 (chkF F)) ∧ Below w.heap.size w w' := by
  obtain ⟨os, cs, rfl, ms⟩ := hF.s.parts
  have HF0 := Lib.hid (hF.alloc (flO F vv (.slice os F.s.length cs)))
  have HB := Lib.hid (Bk.new w 30 [vv, .int .i64 F.f.lv, .int .i64 F.f.er, .int .i64 F.wlo, .int .i64 F.whi, .slice os F.s.length cs])
  have hSz := fun w (h : RgR w vv F.v) => r2Check_any F.v vv w h
  rcases bool_ft (okVs F.v) with hv | hv
  · have HNO := Lib.hid (chkF_30 (okFl_no (.inl hv)))
    have hc : chkV F.v = 20 := by simp [chkV, hv]
    rw [hc] at hSz
    have HS := Lib.hid hSz
    clear hSz hv hc hF HB
    go_enter Tryz.func38, Tryz.ntmps38
    go_wp2_with fail
    refine (HS.out _ HF0.out.v).mono ?_
    rintro e w1 ⟨rfl, hb1⟩
    go_wp2_with fail
    go_ret
    exact ⟨ret_int HNO.out.symm, bafter hb1⟩
  have hc : chkV F.v = 0 := by simp [chkV, hv]
  simp only [hc] at hSz
  have HHH := Lib.hid (show ∀ w, RgR w vv F.v → Calls Tryz.prog 90 #[vv] w fun e w' => e = .returned (.int .i64 (hgt F.v)) ∧ w' = w from fun w h => Height_any F.v vv w h ((okv_iff F.v).1 hv))
  obtain ⟨H, hH⟩ : ∃ x, hgt F.v = x := ⟨_, rfl⟩
  rw [hH] at HHH
  have HS := Lib.hid hSz
  have HV0 := Lib.hid hv
  have HH := Lib.hid hH
  clear hSz hc hv hF hH
  rcases bool_ft (okLk H F.f) with hl | hl
  · have HNO := Lib.hid (chkF_30 (okFl_no (.inr (.inl (by rw [HH.out]; exact hl)))))
    have HL := Lib.hid hl; clear hl
    go_enter Tryz.func38, Tryz.ntmps38
    go_wp2_with fail
    refine (HS.out _ HF0.out.v).mono ?_
    rintro e w1 ⟨rfl, hb1⟩
    have HB1 := HB.out.below hb1
    have HF1 := HF0.out.below hb1
    have c0 := HB1.cell 0
    have c1 := HB1.cell 1
    have c2 := HB1.cell 2
    have c3 := HB1.cell 3
    have c4 := HB1.cell 4
    have c5 := HB1.cell 5
    have cl := HB1.lt
    simp only [List.getElem?_cons_zero, List.getElem?_cons_succ] at c0 c1 c2 c3 c4 c5
    have HW1 := Lib.hid (bafter hb1)
    have HHt := Lib.hid (HHH.out _ HF1.v)
    have HBK := Lib.hid HB1
    have HFK := Lib.hid HF1
    clear hb1 HB1 HF1
    go_wp2_with fail
    refine HHt.out.mono ?_
    rintro e w2 ⟨rfl, rfl⟩
    go_wp2_with fail
    refine (r3look_any F.f H _).mono ?_
    rintro e w3 ⟨rfl, hb3⟩
    rw [HL.out]
    go_wp2_with fail
    go_ret
    exact ⟨ret_int HNO.out.symm, bthen HW1.out hb3⟩
  have HL := Lib.hid hl; clear hl
  obtain ⟨n, hn⟩ : ∃ n, F.s.length = n := ⟨_, rfl⟩
  have HN := Lib.hid hn
  rw [hn] at ms HF0 HB ⊢
  clear hn
  rcases bool_ft (okSp F.wlo F.whi 1 4000) with hw | hw
  · have HNO := Lib.hid (chkF_30 (okFl_no (.inr (.inr (.inl hw)))))
    have hw3 : F.wlo < 1 ∨ F.whi < F.wlo ∨ 4000 < F.whi := by
      simp only [okSp, Bool.and_eq_false_iff, decide_eq_false_iff_not] at hw; omega
    clear hw
    go_enter Tryz.func38, Tryz.ntmps38
    go_wp2_with fail
    refine (HS.out _ HF0.out.v).mono ?_
    rintro e w1 ⟨rfl, hb1⟩
    have HB1 := HB.out.below hb1
    have HF1 := HF0.out.below hb1
    have c0 := HB1.cell 0
    have c1 := HB1.cell 1
    have c2 := HB1.cell 2
    have c3 := HB1.cell 3
    have c4 := HB1.cell 4
    have c5 := HB1.cell 5
    have cl := HB1.lt
    simp only [List.getElem?_cons_zero, List.getElem?_cons_succ] at c0 c1 c2 c3 c4 c5
    have HW1 := Lib.hid (bafter hb1)
    have HHt := Lib.hid (HHH.out _ HF1.v)
    have HBK := Lib.hid HB1
    have HFK := Lib.hid HF1
    clear hb1 HB1 HF1
    go_wp2_with fail
    refine HHt.out.mono ?_
    rintro e w2 ⟨rfl, rfl⟩
    go_wp2_with fail
    refine (r3look_any F.f H _).mono ?_
    rintro e w3 ⟨rfl, hb3⟩
    rw [HL.out]
    have HB2 := HBK.out.below hb3
    have HF2 := Lib.hid (HFK.out.below hb3)
    have HW2 := Lib.hid (bthen HW1.out hb3)
    clear c0 c1 c2 c3 c4 c5 cl HBK HFK HW1 hb3 HHt
    have c0 := HB2.cell 0
    have c3 := HB2.cell 3
    have c4 := HB2.cell 4
    have c5 := HB2.cell 5
    have cl := HB2.lt
    simp only [List.getElem?_cons_zero, List.getElem?_cons_succ] at c0 c3 c4 c5
    have HB2 := Lib.hid HB2
    go_wp2_with fail
    all_goals try (exfalso; omega)
    all_goals
      go_ret
      exact ⟨ret_int HNO.out.symm, HW2.out⟩
  have hw3 : 1 ≤ F.wlo ∧ F.wlo ≤ F.whi ∧ F.whi ≤ 4000 := by simp only [okSp, Bool.and_eq_true, decide_eq_true_eq] at hw; omega
  have HW := Lib.hid hw; clear hw
  obtain ⟨hwa, hwb, hwc⟩ := hw3
  by_cases hn4 : 24 < n
  · have HNO := Lib.hid (chkF_30 (okFl_no (F := F) (.inr (.inr (.inr (.inl (by rw [HN.out]; exact hn4)))))))
    have hn5 : (24 : Int) < n := by omega
    go_enter Tryz.func38, Tryz.ntmps38
    go_wp2_with fail
    refine (HS.out _ HF0.out.v).mono ?_
    rintro e w1 ⟨rfl, hb1⟩
    have HB1 := HB.out.below hb1
    have HF1 := HF0.out.below hb1
    have c0 := HB1.cell 0
    have c1 := HB1.cell 1
    have c2 := HB1.cell 2
    have c3 := HB1.cell 3
    have c4 := HB1.cell 4
    have c5 := HB1.cell 5
    have cl := HB1.lt
    simp only [List.getElem?_cons_zero, List.getElem?_cons_succ] at c0 c1 c2 c3 c4 c5
    have HW1 := Lib.hid (bafter hb1)
    have HHt := Lib.hid (HHH.out _ HF1.v)
    have HBK := Lib.hid HB1
    have HFK := Lib.hid HF1
    clear hb1 HB1 HF1
    go_wp2_with fail
    refine HHt.out.mono ?_
    rintro e w2 ⟨rfl, rfl⟩
    go_wp2_with fail
    refine (r3look_any F.f H _).mono ?_
    rintro e w3 ⟨rfl, hb3⟩
    rw [HL.out]
    have HB2 := HBK.out.below hb3
    have HF2 := Lib.hid (HFK.out.below hb3)
    have HW2 := Lib.hid (bthen HW1.out hb3)
    clear c0 c1 c2 c3 c4 c5 cl HBK HFK HW1 hb3 HHt
    have c0 := HB2.cell 0
    have c3 := HB2.cell 3
    have c4 := HB2.cell 4
    have c5 := HB2.cell 5
    have cl := HB2.lt
    simp only [List.getElem?_cons_zero, List.getElem?_cons_succ] at c0 c3 c4 c5
    have HB2 := Lib.hid HB2
    go_wp2_with fail
    go_ret
    exact ⟨ret_int HNO.out.symm, HW2.out⟩
  have hn5 : ¬ (24 : Int) < n := by omega
  have m4 : n ≤ 24 := by omega
  go_enter Tryz.func38, Tryz.ntmps38
  go_wp2_with fail
  refine (HS.out _ HF0.out.v).mono ?_
  rintro e w1 ⟨rfl, hb1⟩
  have HB1 := HB.out.below hb1
  have HF1 := HF0.out.below hb1
  have c0 := HB1.cell 0
  have c1 := HB1.cell 1
  have c2 := HB1.cell 2
  have c3 := HB1.cell 3
  have c4 := HB1.cell 4
  have c5 := HB1.cell 5
  have cl := HB1.lt
  simp only [List.getElem?_cons_zero, List.getElem?_cons_succ] at c0 c1 c2 c3 c4 c5
  have HW1 := Lib.hid (bafter hb1)
  have HHt := Lib.hid (HHH.out _ HF1.v)
  have HBK := Lib.hid HB1
  have HFK := Lib.hid HF1
  clear hb1 HB1 HF1
  go_wp2_with fail
  refine HHt.out.mono ?_
  rintro e w2 ⟨rfl, rfl⟩
  go_wp2_with fail
  refine (r3look_any F.f H _).mono ?_
  rintro e w3 ⟨rfl, hb3⟩
  rw [HL.out]
  have HB2 := HBK.out.below hb3
  have HF2 := Lib.hid (HFK.out.below hb3)
  have HW2 := Lib.hid (bthen HW1.out hb3)
  clear c0 c1 c2 c3 c4 c5 cl HBK HFK HW1 hb3 HHt
  have c0 := HB2.cell 0
  have c3 := HB2.cell 3
  have c4 := HB2.cell 4
  have c5 := HB2.cell 5
  have cl := HB2.lt
  simp only [List.getElem?_cons_zero, List.getElem?_cons_succ] at c0 c3 c4 c5
  have HB2 := Lib.hid HB2
  go_wp2_with fail
  go_loopw [4] (fun i wr => ∃ k : Nat, k ≤ n ∧ i = .int .i64 (k : Int) ∧ Hid (∀ j, j < k → okSn H (snA F.s j) = true) ∧ Hid (Below w3.heap.size w3 wr)) (fun i _ => n - (intOf i).toNat)
  case atStart => exact ⟨0, Nat.zero_le _, rfl, Lib.hid (fun j hj => by omega), Lib.hid (Below.refl _ _)⟩
  case round =>
    obtain ⟨k, hk, rfl, hall, hbl⟩ := hrel
    have hB3 := HB2.out.below hbl.out
    have b5 := hB3.cell 5
    have bl := hB3.lt
    simp only [List.getElem?_cons_zero, List.getElem?_cons_succ] at b5
    have HB3 := Lib.hid hB3
    clear hB3
    by_cases h0 : k < n
    · obtain ⟨b, off, rfl, hb, hcc⟩ := HF2.out.s.cells (by rw [HN.out]; omega)
      have d0 := (hbl.out.cell (p := ⟨b, off + k * 4, none⟩) hb).trans (hcc k 0 (by rw [HN.out]; exact h0) (by omega))
      have d1 := (hbl.out.cell (p := ⟨b, off + k * 4 + 1, none⟩) hb).trans (hcc k 1 (by rw [HN.out]; exact h0) (by omega))
      have d2 := (hbl.out.cell (p := ⟨b, off + k * 4 + 2, none⟩) hb).trans (hcc k 2 (by rw [HN.out]; exact h0) (by omega))
      have d3 := (hbl.out.cell (p := ⟨b, off + k * 4 + 3, none⟩) hb).trans (hcc k 3 (by rw [HN.out]; exact h0) (by omega))
      simp only [snF] at d0 d1 d2 d3
      clear hcc
      have hbr : b < wr.heap.size := Nat.lt_of_lt_of_le hb hbl.out.size
      obtain ⟨x, hx⟩ : ∃ x, snA F.s k = x := ⟨_, rfl⟩
      rw [hx] at d0 d1 d2 d3
      have HX := Lib.hid hx; clear hx
      rcases bool_ft (okSp x.lo x.hi 0 1048576) with hs | hs
      · have HNO := Lib.hid (chkF_30 (okFl_no (F := F) (.inr (.inr (.inr (.inr ⟨k, by rw [HN.out]; exact h0, by rw [HX.out, okSn_eq, hs]; rfl⟩))))))
        have HSP := Lib.hid hs; clear hs
        go_wp2_with fail
        refine (r3after_any x.lo x.hi _).mono ?_
        rintro e w4 ⟨rfl, hb4⟩
        rw [HSP.out]
        go_wp2_with fail
        go_ret
        exact ⟨ret_int HNO.out.symm, bthen (bthen HW2.out hbl.out) hb4⟩
      · have HSP := Lib.hid hs; clear hs
        rcases bool_ft (okLk H x.k) with hk2 | hk2
        · have HNO := Lib.hid (chkF_30 (okFl_no (F := F) (.inr (.inr (.inr (.inr ⟨k, by rw [HN.out]; exact h0, by rw [HX.out, okSn_eq, HH.out, hk2]; simp⟩))))))
          have HK2 := Lib.hid hk2; clear hk2
          go_wp2_with fail
          refine (r3after_any x.lo x.hi _).mono ?_
          rintro e w4 ⟨rfl, hb4⟩
          rw [HSP.out]
          obtain ⟨hc4, hf4⟩ := bcell hb4
          go_wp2_with fail
          refine (r3look_any x.k H _).mono ?_
          rintro e w5 ⟨rfl, hb5⟩
          rw [HK2.out]
          go_wp2_with fail
          go_ret
          exact ⟨ret_int HNO.out.symm, bthen (bthen HW2.out hbl.out) (bthen hb4 hb5)⟩
        · have hst : okSn H (snA F.s k) = true := by rw [HX.out, okSn_eq, HSP.out, hk2]; rfl
          have HST := Lib.hid hst; clear hst
          have HK2 := Lib.hid hk2; clear hk2
          go_wp2_with fail
          refine (r3after_any x.lo x.hi _).mono ?_
          rintro e w4 ⟨rfl, hb4⟩
          rw [HSP.out]
          obtain ⟨hc4, hf4⟩ := bcell hb4
          go_wp2_with fail
          refine (r3look_any x.k H _).mono ?_
          rintro e w5 ⟨rfl, hb5⟩
          rw [HK2.out]
          go_wp2_with fail
          exact ⟨⟨k + 1, by omega, by go_num, Lib.hid (fun j hj => by
            rcases Nat.lt_or_ge j k with h | h
            · exact hall.out j h
            · obtain rfl : j = k := by omega
              exact HST.out), Lib.hid (hbl.out.trans ((bthen hb4 hb5).mono hbl.out.size))⟩, by simp [intOf]; omega⟩
    · obtain rfl : k = n := by omega
      have hok : okFl F = true := okFl_yes HV0.out (by rw [HH.out]; exact HL.out) HW.out (by rw [HN.out]; exact m4) (fun j hj => by rw [HH.out]; exact hall.out j (by rw [← HN.out]; exact hj))
      have HYES := Lib.hid (show chkF F = 0 by unfold chkF; rw [if_pos hok])
      clear hok
      go_wp2_with fail
      go_ret
      exact ⟨ret_int HYES.out.symm, bthen HW2.out hbl.out⟩
abbrev flL' (F : Fl) (vv vs : Value) : List Value := [vv, .int .i64 F.f.lv, .int .i64 F.f.er, .int .i64 F.wlo, .int .i64 F.whi, vs]
set_option maxRecDepth 100000 in
set_option maxHeartbeats 2000000 in
theorem rPossible_any (F : Fl) (vv vs : Value) (w : World) (hF : FlIn w F vv vs) : Calls Tryz.prog 36 #[flV F vv vs] w fun e w' => e = .returned (.tuple #[.bool (okFl F && canI F (allL F)), .int .i64 (chkF F)]) ∧ Below w.heap.size w w' := by
  have HF0 := Lib.hid (hF.alloc (flO F vv vs))
  have HB := Lib.hid (Bk.new w 30 (flL' F vv vs))
  cases ho : okFl F with
  | false =>
    have hc : chkF F = 30 := by unfold chkF; rw [if_neg (by rw [ho]; decide)]
    have hC := fun w h => rCheck_any F vv vs w h
    rw [hc] at hC ⊢
    rw [Bool.false_and]
    have HC := Lib.hid hC
    clear hC ho hc hF
    go_enter Tryz.func36, Tryz.ntmps36
    go_wp2_with (first | (refine ld_at rfl (T := 30) rfl rfl HB.out Tryz.underlying30 rfl (by kernel_rfl) ?_) | fail)
    refine (HC.out _ HF0.out).mono ?_
    rintro e w1 ⟨rfl, hb⟩
    go_wp2_with fail
    go_ret2
    exact ⟨rfl, bafter hb⟩
  | true =>
    have hc : chkF F = 0 := by unfold chkF; rw [if_pos ho]
    have hO := (okFl_iff F).1 ho
    have hC := fun w h => rCheck_any F vv vs w h
    rw [hc] at hC ⊢
    rw [Bool.true_and]
    have HC := Lib.hid hC
    have HO := Lib.hid hO
    obtain ⟨c, hcan⟩ : ∃ c, canI F (allL F) = c := ⟨_, rfl⟩
    rw [hcan]
    have HCAN := Lib.hid hcan
    clear hC ho hc hF hO hcan
    go_enter Tryz.func36, Tryz.ntmps36
    go_wp2_with (first | (refine ld_at rfl (T := 30) rfl rfl HB.out Tryz.underlying30 rfl (by kernel_rfl) ?_) | fail)
    refine (HC.out _ HF0.out).mono ?_
    rintro e w1 ⟨rfl, hb⟩
    have HB1 := Lib.hid (HB.out.below hb)
    have HF1 := Lib.hid (HF0.out.below hb)
    go_wp2_with (first | (refine ld_at rfl (T := 30) rfl rfl HB1.out Tryz.underlying30 rfl (by kernel_rfl) ?_) | fail)
    refine (Can_any F vv vs w1 HF1.out HO.out).mono ?_
    rintro e w2 ⟨rfl, hb2⟩
    rw [HCAN.out]
    go_wp2_with fail
    go_ret2
    exact ⟨rfl, bthen (bafter hb) hb2⟩
set_option maxRecDepth 100000 in
set_option maxHeartbeats 4000000 in
theorem rasked_any (F : Fl) (vv vs : Value) (x m : Int) (w : World) (hF : FlIn w F vv vs) : Calls Tryz.prog 73 #[flV F vv vs, .int .i64 x, .int .i64 m] w fun e w' => e = .returned (.int .i64 (rdE F (asR F x m))) ∧ Below w.heap.size w w' := by
  have HF0 := Lib.hid (hF.alloc (flO F vv vs))
  have HB := Lib.hid (Bk.new w 30 (flL' F vv vs))
  have hC := fun w h => rCheck_any F vv vs w h
  cases ho : okFl F with
  | false =>
    have hc : chkF F = 30 := by unfold chkF; rw [if_neg (by rw [ho]; decide)]
    rw [hc] at hC
    have hr : rdE F (asR F x m) = 30 := by unfold rdE; rw [if_neg (by rw [ho]; decide)]
    rw [hr]
    have HC := Lib.hid hC
    clear hC ho hc hF hr
    go_enter Tryz.func73, Tryz.ntmps73
    go_wp2_with (first | (refine ld_at rfl (T := 30) rfl rfl HB.out Tryz.underlying30 rfl (by kernel_rfl) ?_) | fail)
    refine (HC.out _ HF0.out).mono ?_
    rintro e w1 ⟨rfl, hb⟩
    have HB1 := Lib.hid (HB.out.below hb)
    have HF1 := Lib.hid (HF0.out.below hb)
    have c0 := HB1.out.cell 0
    have cl := HB1.out.lt
    simp only [List.getElem?_cons_zero] at c0
    go_wp2_with fail
    go_ret
    exact ⟨rfl, bafter hb⟩
  | true =>
    have hc : chkF F = 0 := by unfold chkF; rw [if_pos ho]
    have hO := (okFl_iff F).1 ho
    rw [hc] at hC
    have HC := Lib.hid hC
    have HO := Lib.hid hO
    have hv := (okv_iff F.v).1 hO.v
    have hHt := (pt_bd hv (Nat.le_refl _)).1
    have hh : hgt F.v = vX F.v F.v.length := rfl
    rw [← hh] at hHt
    have hHH := fun w h => Height_any F.v vv w h hv
    obtain ⟨r, hr⟩ : ∃ r, rdE F (asR F x m) = r := ⟨_, rfl⟩
    rw [hr]
    unfold rdE at hr
    rw [if_pos ho] at hr
    unfold asR at hr
    obtain ⟨H, hH⟩ : ∃ H, hgt F.v = H := ⟨_, rfl⟩
    simp only [hH] at hHH hr hHt
    have HH := Lib.hid hHH
    obtain ⟨c, hcan⟩ : ∃ c, canI F (allL F) = c := ⟨_, rfl⟩
    rw [hcan] at hr
    have HCAN := Lib.hid hcan
    obtain ⟨ov, cv, rfl, mv⟩ := hF.v.parts
    clear hC ho hc hF hO hcan hHH hH hh hv
    by_cases hx0 : x < 0
    · have h1 : inB x 0 H = false := by simp [inB]; omega
      rw [h1] at hr
      obtain rfl : 1 = r := hr
      clear h1
      go_enter Tryz.func73, Tryz.ntmps73
      go_wp2_with (first | (refine ld_at rfl (T := 30) rfl rfl HB.out Tryz.underlying30 rfl (by kernel_rfl) ?_) | fail)
      refine (HC.out _ HF0.out).mono ?_
      rintro e w1 ⟨rfl, hb⟩
      have HB1 := Lib.hid (HB.out.below hb)
      have HF1 := Lib.hid (HF0.out.below hb)
      have c0 := HB1.out.cell 0
      have cl := HB1.out.lt
      simp only [List.getElem?_cons_zero] at c0
      go_wp2_with fail
      go_ret
      exact ⟨rfl, bafter hb⟩
    · by_cases hx1 : H < x
      · have h1 : inB x 0 H = false := by simp [inB]; omega
        rw [h1] at hr
        obtain rfl : 1 = r := hr
        clear h1
        go_enter Tryz.func73, Tryz.ntmps73
        go_wp2_with (first | (refine ld_at rfl (T := 30) rfl rfl HB.out Tryz.underlying30 rfl (by kernel_rfl) ?_) | fail)
        refine (HC.out _ HF0.out).mono ?_
        rintro e w1 ⟨rfl, hb⟩
        have HB1 := Lib.hid (HB.out.below hb)
        have HF1 := Lib.hid (HF0.out.below hb)
        have c0 := HB1.out.cell 0
        have cl := HB1.out.lt
        simp only [List.getElem?_cons_zero] at c0
        go_wp2_with (first | (refine ld_at rfl (T := 30) rfl rfl HB1.out Tryz.underlying30 rfl (by kernel_rfl) ?_) | fail)
        refine (HH.out _ HF1.out.v).mono ?_
        rintro e w2 ⟨rfl, rfl⟩
        go_wp2_with fail
        go_ret
        exact ⟨rfl, bafter hb⟩
      · have h1 : inB x 0 H = true := by simp [inB]; omega
        by_cases hm : m < 0 ∨ 2097152 < m
        · have h2 : inB m 0 2097152 = false := by simp [inB]; omega
          rw [h1, h2] at hr
          obtain rfl : 1 = r := hr
          clear h1 h2
          go_enter Tryz.func73, Tryz.ntmps73
          go_wp2_with (first | (refine ld_at rfl (T := 30) rfl rfl HB.out Tryz.underlying30 rfl (by kernel_rfl) ?_) | fail)
          refine (HC.out _ HF0.out).mono ?_
          rintro e w1 ⟨rfl, hb⟩
          have HB1 := Lib.hid (HB.out.below hb)
          have HF1 := Lib.hid (HF0.out.below hb)
          have c0 := HB1.out.cell 0
          have cl := HB1.out.lt
          simp only [List.getElem?_cons_zero] at c0
          go_wp2_with (first | (refine ld_at rfl (T := 30) rfl rfl HB1.out Tryz.underlying30 rfl (by kernel_rfl) ?_) | fail)
          refine (HH.out _ HF1.out.v).mono ?_
          rintro e w2 ⟨rfl, rfl⟩
          go_wp2_with fail
          all_goals try (exfalso; omega)
          all_goals
            go_ret
            exact ⟨rfl, bafter hb⟩
        · have h2 : inB m 0 2097152 = true := by simp [inB]; omega
          rw [h1, h2] at hr
          have hm1 : ¬ m < 0 := by omega
          have hm2 : ¬ 2097152 < m := by omega
          cases c
          · obtain rfl : 31 = r := hr
            clear h1 h2
            go_enter Tryz.func73, Tryz.ntmps73
            go_wp2_with (first | (refine ld_at rfl (T := 30) rfl rfl HB.out Tryz.underlying30 rfl (by kernel_rfl) ?_) | fail)
            refine (HC.out _ HF0.out).mono ?_
            rintro e w1 ⟨rfl, hb⟩
            have HB1 := Lib.hid (HB.out.below hb)
            have HF1 := Lib.hid (HF0.out.below hb)
            have c0 := HB1.out.cell 0
            have cl := HB1.out.lt
            simp only [List.getElem?_cons_zero] at c0
            go_wp2_with (first | (refine ld_at rfl (T := 30) rfl rfl HB1.out Tryz.underlying30 rfl (by kernel_rfl) ?_) | fail)
            refine (HH.out _ HF1.out.v).mono ?_
            rintro e w2 ⟨rfl, rfl⟩
            go_wp2_with (first | (refine ld_at rfl (T := 30) rfl rfl HB1.out Tryz.underlying30 rfl (by kernel_rfl) ?_) | fail)
            refine (Can_any F _ _ _ HF1.out HO.out).mono ?_
            rintro e w2 ⟨rfl, hb2⟩
            rw [HCAN.out]
            go_wp2_with fail
            go_ret
            exact ⟨rfl, bthen (bafter hb) hb2⟩
          · obtain rfl : 0 = r := hr
            clear h1 h2
            go_enter Tryz.func73, Tryz.ntmps73
            go_wp2_with (first | (refine ld_at rfl (T := 30) rfl rfl HB.out Tryz.underlying30 rfl (by kernel_rfl) ?_) | fail)
            refine (HC.out _ HF0.out).mono ?_
            rintro e w1 ⟨rfl, hb⟩
            have HB1 := Lib.hid (HB.out.below hb)
            have HF1 := Lib.hid (HF0.out.below hb)
            have c0 := HB1.out.cell 0
            have cl := HB1.out.lt
            simp only [List.getElem?_cons_zero] at c0
            go_wp2_with (first | (refine ld_at rfl (T := 30) rfl rfl HB1.out Tryz.underlying30 rfl (by kernel_rfl) ?_) | fail)
            refine (HH.out _ HF1.out.v).mono ?_
            rintro e w2 ⟨rfl, rfl⟩
            go_wp2_with (first | (refine ld_at rfl (T := 30) rfl rfl HB1.out Tryz.underlying30 rfl (by kernel_rfl) ?_) | fail)
            refine (Can_any F _ _ _ HF1.out HO.out).mono ?_
            rintro e w2 ⟨rfl, hb2⟩
            rw [HCAN.out]
            go_wp2_with fail
            go_ret
            exact ⟨rfl, bthen (bafter hb) hb2⟩
theorem rdE_0' {F : Fl} {R : Bool} (h : rdE F R = 0) : okFl F = true ∧ R = true ∧ canI F (allL F) = true := by
  unfold rdE at h
  cases ho : okFl F <;> cases R <;> cases hc : canI F (allL F) <;> simp_all
end Go.Proofs.YtnfndiafabhhdaaGreat
