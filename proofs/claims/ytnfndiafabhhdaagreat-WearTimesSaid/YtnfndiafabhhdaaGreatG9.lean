/- Walk of the reference's Reached (Wear). -/
import Derived.Test.YtnfndiafabhhdaaGreatG8
namespace Go.Proofs.YtnfndiafabhhdaaGreat
open Go.ChangeShapes Go.WideShapes Go.ChangeAt Go.RowKit
set_option maxRecDepth 100000 in
set_option maxHeartbeats 2000000 in
theorem rReached_any (F : Fl) (vv vs : Value) (x : Int) (w : World) (hF : FlIn w F vv vs) :
    Calls Tryz.prog 21 #[flV F vv vs, .int .i64 x] w fun e w' => e = .returned (.tuple #[.agg #[.int .i64 (rcA F x), .int .i64 (rcB F x)], .int .i64 (rdE F (asR F x 0))]) ∧ Below w.heap.size w w' := by
  have HF00 := Lib.hid hF
  have HB := Lib.hid ((Bk.new w 30 (flL' F vv vs)).alloc (Obj.cells #[.int .i64 0, .int .i64 0] 27))
  have HZ := Lib.hid (Bk.new1 w (flO F vv vs) 27 [.int .i64 0, .int .i64 0])
  have HF0 := Lib.hid ((hF.alloc (flO F vv vs)).alloc (Obj.cells #[.int .i64 0, .int .i64 0] 27))
  obtain ⟨c, hc⟩ : ∃ c, rdE F (asR F x 0) = c := ⟨_, rfl⟩
  have HE := Lib.hid hc
  unfold rcA rcB
  rw [hc]
  by_cases h0 : c = 0
  · subst h0
    obtain ⟨k1, k2, k3⟩ := rdE_0' hc
    have hm : 0 ≤ x ∧ x ≤ hgt F.v := by
      unfold asR at k2; rw [Bool.and_eq_true] at k2; exact inB_t k2.1
    have hO := (okFl_iff F).1 k1
    have hv := (okv_iff F.v).1 hO.v
    rw [if_pos rfl, if_pos rfl]
    obtain ⟨⟨b1, b2⟩, b3, b4⟩ := tm_bd hO.v hm.1 hm.2
    have g1 := fun w h => Time_any F.v vv x w h hv hm.1 hm.2
    have g2 := fun w h => never_any F vv vs (tmN F.v x) (tmD F.v x) 0 2097152 w h hO b1 b2 b3 b4 (by omega) (by omega) (by omega)
    have g3 := fun w h => ever_any F vv vs (tmN F.v x) (tmD F.v x) 0 2097152 w h hO b1 b2 b3 b4 (by omega) (by omega) (by omega)
    have e1 : rcLo F (allL F) x = lastNot (fun n => canM F (allL F) (⟨n, tmN F.v x, tmD F.v x, true⟩, true)) 24 0 2097152 := lastNot_guard (fun n => unM F (allL F) x n) _ _ _ (Int.le_refl _)
    have e2 : rcHi F (allL F) x = firstNot (fun n => canM F (allL F) (⟨n, tmN F.v x, tmD F.v x, true⟩, false)) 24 0 2097152 := rfl
    rw [← e1] at g2
    rw [← e2] at g3
    obtain ⟨tn, htn⟩ : ∃ t, tmN F.v x = t := ⟨_, rfl⟩
    obtain ⟨td, htd⟩ : ∃ t, tmD F.v x = t := ⟨_, rfl⟩
    obtain ⟨a, ha⟩ : ∃ t, rcLo F (allL F) x = t := ⟨_, rfl⟩
    obtain ⟨b, hb⟩ : ∃ t, rcHi F (allL F) x = t := ⟨_, rfl⟩
    simp only [htn, htd] at g1 g2 g3
    rw [ha] at g2 ⊢
    rw [hb] at g3 ⊢
    have G1 := Lib.hid g1
    have G2 := Lib.hid g2
    have G3 := Lib.hid g3
    clear k1 k2 k3 hc hF hO hv hm b1 b2 b3 b4 g1 g2 g3 e1 e2 htn htd ha hb
    go_enter Tryz.func21, Tryz.ntmps21
    go_wp2_with (first | (refine ld_at rfl (T := 30) rfl rfl HB.out Tryz.underlying30 rfl (by kernel_rfl) ?_) | fail)
    refine (rasked_any F vv vs x 0 _ HF0.out).mono ?_
    rw [HE.out]
    rintro e w1 ⟨rfl, hb⟩
    have HB1 := Lib.hid (HB.out.below hb)
    have HZ1 := Lib.hid (HZ.out.below hb)
    have HW1 := Lib.hid (bafter (bafter hb))
    have HF1 := Lib.hid (HF0.out.below hb)
    have c0 := HB1.out.cell 0
    have cl := HB1.out.lt
    simp only [List.getElem?_cons_zero] at c0
    clear hb
    go_wp2_with fail
    refine (G1.out w1 HF1.out.v).mono ?_
    rintro e w2 ⟨rfl, hb2⟩
    obtain ⟨W, hW⟩ : ∃ W, w2.alloc (Obj.cells #[.int .i64 tn, .int .i64 td] 41) = W := ⟨_, rfl⟩
    have hbW : Below w1.heap.size w1 W := by rw [← hW]; exact hb2.alloc hb2.size _
    have hBW := HB1.out.below hbW
    have hTW : Bk W w2.heap.size 41 [.int .i64 tn, .int .i64 td] := by rw [← hW]; exact Bk.new w2 _ [_, _]
    have HZW := Lib.hid (HZ1.out.below hbW)
    have HFW := Lib.hid (HF1.out.below hbW)
    have HWW := Lib.hid (bthen HW1.out hbW)
    have q0 := hBW.cell 0
    have q1 := hBW.cell 1
    have q2 := hBW.cell 2
    have q3 := hBW.cell 3
    have q4 := hBW.cell 4
    have q5 := hBW.cell 5
    have ql := hBW.lt
    have t0 := hTW.cell 0
    have t1 := hTW.cell 1
    have tl := hTW.lt
    simp only [List.getElem?_cons_zero, List.getElem?_cons_succ] at q0 q1 q2 q3 q4 q5 t0 t1
    have mc := @more_cell W
    have k1 : ∀ i : More W, _ := fun i => more_call (G2.out i.x (HFW.out.below i.h))
    have k2 : ∀ i : More W, _ := fun i => more_call (G3.out i.x (HFW.out.below i.h))
    have K1 := Lib.hid k1
    have K2 := Lib.hid k2
    clear k1 k2 hBW hTW hb2 c0 cl hbW
    go_wp2_with fail
    try rw [hW]
    clear hW
    refine wp_head_more [0, 1, 2, 3, 4, 5, 6] [7, 8] (by kernel_rfl) (by kernel_rfl) ?_
    simp only [hPick, List.getElem?_cons_zero, List.getElem?_cons_succ]
    iterate 8 (try (first | go_big_quiet_step ((with_reducible first | exact K1.out _ | exact K2.out _)) | quiet_step ((with_reducible first | exact K1.out _ | exact K2.out _))))
    iterate 8 (try (first | go_big_quiet_step ((with_reducible first | exact K1.out _ | exact K2.out _)) | quiet_step ((with_reducible first | exact K1.out _ | exact K2.out _))))
    iterate 8 (try (first | go_big_quiet_step ((with_reducible first | exact K1.out _ | exact K2.out _)) | quiet_step ((with_reducible first | exact K1.out _ | exact K2.out _))))
    iterate 8 (try (first | go_big_quiet_step ((with_reducible first | exact K1.out _ | exact K2.out _)) | quiet_step ((with_reducible first | exact K1.out _ | exact K2.out _))))
    iterate 8 (try (first | go_big_quiet_step ((with_reducible first | exact K1.out _ | exact K2.out _)) | quiet_step ((with_reducible first | exact K1.out _ | exact K2.out _))))
    refine wpQuiet_nil ?_
    rintro ⟨wm, hbm⟩
    try dsimp only
    have hZM := HZW.out.below hbm
    have HM := Lib.hid (HWW.out.trans (hbm.mono HWW.out.size))
    clear hbm
    go_wp2_with (refine st_at rfl (T := 27) rfl rfl (cs := [.int .i64 a, .int .i64 b]) rfl hZM (by kernel_rfl) rfl rfl ?_; intro wk hkk hsk)
    refine bodyPost_ret (ret_cell_tmp rfl _ _ rfl hkk Tryz.underlying27 rfl (by kernel_rfl)) rfl ⟨rfl, ?_⟩
    exact bes_then HM.out hsk (by omega) HM.out.size
  · rw [if_neg h0, if_neg h0]
    have hne : (c == 0) = false := by simpa using h0
    clear hc h0 hF
    go_enter Tryz.func21, Tryz.ntmps21
    go_wp2_with (first | (refine ld_at rfl (T := 30) rfl rfl HB.out Tryz.underlying30 rfl (by kernel_rfl) ?_) | fail)
    refine (rasked_any F vv vs x 0 _ HF0.out).mono ?_
    rw [HE.out]
    rintro e w1 ⟨rfl, hb⟩
    have HZ1 := Lib.hid (HZ.out.below hb)
    have HW1 := Lib.hid (bafter (bafter hb))
    clear hb
    go_wp2_with (refine st_at rfl (T := 27) rfl rfl (cs := [.int .i64 0, .int .i64 0]) rfl HZ1.out (by kernel_rfl) rfl rfl ?_; intro wk hkk hsk)
    refine bodyPost_ret (ret_cell_tmp rfl _ _ rfl hkk Tryz.underlying27 rfl (by kernel_rfl)) rfl ⟨rfl, ?_⟩
    exact bes_then HW1.out hsk (by omega) HW1.out.size
def seA (F : Fl) (n : Int) : Int := if rdE F (inB n 0 ((F.s.length : Int) - 1)) = 0 then lastNot (fun k => unM F (allL F) (endB (hgt F.v) (sn F n).k) k) 24 (sn F n).lo (sn F n).hi else 0
def seB (F : Fl) (n : Int) : Int := if rdE F (inB n 0 ((F.s.length : Int) - 1)) = 0 then (if 0 < endA (sn F n).k then firstNot (fun k => ovM F (allL F) (endA (sn F n).k) k) 24 (sn F n).lo (sn F n).hi else (sn F n).hi) else 0
set_option maxRecDepth 100000 in
set_option maxHeartbeats 4000000 in
theorem rSeen_no (F : Fl) (vv vs : Value) (n c : Int) (w : World) (hF : FlIn w F vv vs) (hc : rdE F (inB n 0 ((F.s.length : Int) - 1)) = c) (h0 : c ≠ 0) :
    Calls Tryz.prog 25 #[flV F vv vs, .int .i64 n] w fun e w' => e = .returned (.tuple #[.agg #[.int .i64 0, .int .i64 0], .int .i64 c]) ∧ Below w.heap.size w w' := by
  obtain ⟨os, cs, rfl, ms⟩ := hF.s.parts
  obtain ⟨ls, hls⟩ : ∃ k, F.s.length = k := ⟨_, rfl⟩
  rw [hls] at hF ms hc ⊢
  clear hls
  have HB := Lib.hid ((Bk.new w 30 (flL' F vv (.slice os ls cs))).alloc (Obj.cells #[.int .i64 0, .int .i64 0] 27))
  have HZ := Lib.hid (Bk.new1 w (flO F vv (.slice os ls cs)) 27 [.int .i64 0, .int .i64 0])
  have HF0 := Lib.hid ((hF.alloc (flO F vv (.slice os ls cs))).alloc (Obj.cells #[.int .i64 0, .int .i64 0] 27))
  unfold rdE at hc
  cases ho : okFl F with
  | false =>
    have HC := Lib.hid (show chkF F = 30 by unfold chkF; rw [if_neg (by rw [ho]; decide)])
    rw [if_neg (by rw [ho]; decide)] at hc
    subst hc
    clear ho hF h0
    go_enter Tryz.func25, Tryz.ntmps25
    go_wp2_with (first | (refine ld_at rfl (T := 30) rfl rfl HB.out Tryz.underlying30 rfl (by kernel_rfl) ?_) | fail)
    refine (rCheck_any F _ _ _ HF0.out).mono ?_
    rw [HC.out]
    rintro e w1 ⟨rfl, hb⟩
    have HB1 := Lib.hid (HB.out.below hb)
    have HZ1 := Lib.hid (HZ.out.below hb)
    have HW1 := Lib.hid (bafter (bafter hb))
    have HF1 := Lib.hid (HF0.out.below hb)
    have c3 := HB1.out.cell 5
    have cl := HB1.out.lt
    simp only [List.getElem?_cons_zero, List.getElem?_cons_succ] at c3
    clear hb
    go_wp2_with (refine st_at rfl (T := 27) rfl rfl (cs := [.int .i64 0, .int .i64 0]) rfl HZ1.out (by kernel_rfl) rfl rfl ?_; intro wk hkk hsk)
    refine bodyPost_ret (ret_cell_tmp rfl _ _ rfl hkk Tryz.underlying27 rfl (by kernel_rfl)) rfl ⟨rfl, ?_⟩
    exact bes_then HW1.out hsk (by omega) HW1.out.size
  | true =>
    have HC := Lib.hid (show chkF F = 0 by unfold chkF; rw [if_pos ho])
    have hO := (okFl_iff F).1 ho
    rw [if_pos ho] at hc
    by_cases hn : 0 ≤ n ∧ n ≤ (ls : Int) - 1
    · have h1 : inB n 0 ((ls : Int) - 1) = true := inB_mk hn.1 hn.2
      rw [h1, if_pos rfl] at hc
      obtain ⟨hn1, hn2⟩ := hn
      have hHt := (pt_bd ((okv_iff F.v).1 hO.v) (Nat.le_refl _)).1
      have hh : hgt F.v = vX F.v F.v.length := rfl
      rw [← hh] at hHt
      have hr : rdE F (asR F 0 0) = c := by
        have h2 : asR F 0 0 = true := by unfold asR; rw [inB_mk (by omega) (by omega), inB_mk (by omega) (by omega)]; rfl
        unfold rdE
        rw [if_pos ho, h2, if_pos rfl]
        exact hc
      have HE := Lib.hid hr
      have hne : (c == 0) = false := by simpa using h0
      clear hc hr h1 hh ho hO hF h0
      go_enter Tryz.func25, Tryz.ntmps25
      go_wp2_with (first | (refine ld_at rfl (T := 30) rfl rfl HB.out Tryz.underlying30 rfl (by kernel_rfl) ?_) | fail)
      refine (rCheck_any F _ _ _ HF0.out).mono ?_
      rw [HC.out]
      rintro e w1 ⟨rfl, hb⟩
      have HB1 := Lib.hid (HB.out.below hb)
      have HZ1 := Lib.hid (HZ.out.below hb)
      have HW1 := Lib.hid (bafter (bafter hb))
      have HF1 := Lib.hid (HF0.out.below hb)
      have c3 := HB1.out.cell 5
      have cl := HB1.out.lt
      simp only [List.getElem?_cons_zero, List.getElem?_cons_succ] at c3
      clear hb
      go_wp2_with (first | (refine ld_at rfl (T := 30) rfl rfl HB1.out Tryz.underlying30 rfl (by kernel_rfl) ?_) | fail)
      refine (rasked_any F _ _ 0 0 _ HF1.out).mono ?_
      rw [HE.out]
      rintro e w2 ⟨rfl, hb⟩
      have HZ2 := Lib.hid (HZ1.out.below hb)
      have HW2 := Lib.hid (bthen HW1.out hb)
      clear hb
      go_wp2_with (refine st_at rfl (T := 27) rfl rfl (cs := [.int .i64 0, .int .i64 0]) rfl HZ2.out (by kernel_rfl) rfl rfl ?_; intro wk hkk hsk)
      refine bodyPost_ret (ret_cell_tmp rfl _ _ rfl hkk Tryz.underlying27 rfl (by kernel_rfl)) rfl ⟨rfl, ?_⟩
      exact bes_then HW2.out hsk (by omega) HW2.out.size
    · have h1 : inB n 0 ((ls : Int) - 1) = false := by simp [inB]; omega
      rw [h1, if_neg (by decide)] at hc
      subst hc
      clear ho hO hF h0 h1
      go_enter Tryz.func25, Tryz.ntmps25
      go_wp2_with (first | (refine ld_at rfl (T := 30) rfl rfl HB.out Tryz.underlying30 rfl (by kernel_rfl) ?_) | fail)
      refine (rCheck_any F _ _ _ HF0.out).mono ?_
      rw [HC.out]
      rintro e w1 ⟨rfl, hb⟩
      have HB1 := Lib.hid (HB.out.below hb)
      have HZ1 := Lib.hid (HZ.out.below hb)
      have HW1 := Lib.hid (bafter (bafter hb))
      have HF1 := Lib.hid (HF0.out.below hb)
      have c3 := HB1.out.cell 5
      have cl := HB1.out.lt
      simp only [List.getElem?_cons_zero, List.getElem?_cons_succ] at c3
      clear hb
      by_cases hn0 : n < 0
      · go_wp2_with (refine st_at rfl (T := 27) rfl rfl (cs := [.int .i64 0, .int .i64 0]) rfl HZ1.out (by kernel_rfl) rfl rfl ?_; intro wk hkk hsk)
        refine bodyPost_ret (ret_cell_tmp rfl _ _ rfl hkk Tryz.underlying27 rfl (by kernel_rfl)) rfl ⟨rfl, ?_⟩
        exact bes_then HW1.out hsk (by omega) HW1.out.size
      · have hn2 : (ls : Int) ≤ n := by omega
        go_wp2_with (refine st_at rfl (T := 27) rfl rfl (cs := [.int .i64 0, .int .i64 0]) rfl HZ1.out (by kernel_rfl) rfl rfl ?_; intro wk hkk hsk)
        refine bodyPost_ret (ret_cell_tmp rfl _ _ rfl hkk Tryz.underlying27 rfl (by kernel_rfl)) rfl ⟨rfl, ?_⟩
        exact bes_then HW1.out hsk (by omega) HW1.out.size
end Go.Proofs.YtnfndiafabhhdaaGreat
