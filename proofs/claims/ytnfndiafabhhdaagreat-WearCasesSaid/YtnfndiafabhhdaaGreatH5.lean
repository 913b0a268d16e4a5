/- Walks of the reference's ratio and known (Wear). -/
import Derived.Test.YtnfndiafabhhdaaGreatG7
import Derived.Test.YtnfndiafabhhdaaGreatE7
import Derived.Deep.CutRange
namespace Go.Proofs.YtnfndiafabhhdaaGreat
open Go.ChangeShapes Go.WideShapes Go.ChangeAt Go.RowKit
theorem rratio_any (n d : Int) (w : World) : Calls Tryz.prog 128 #[.agg #[.int .i64 n, .int .i64 d]] w fun e w' => e = .returned (.bool (inB n 1 1125899906842624 && inB d 1 1125899906842624)) ∧ Below w.heap.size w w' := by
  go_enter Tryz.func128, Tryz.ntmps128
  go_wp2
  all_goals
    go_ret
    exact ⟨ret_bool (by rw [Bool.eq_iff_iff]; simp [inB]; omega), (Below.refl _ _).alloc (Nat.le_refl _) _⟩
set_option maxRecDepth 100000 in
set_option maxHeartbeats 2000000 in
theorem rknown_first (F : Fl) (vv vs : Value) (w : World) (hF : FlIn w F vv vs) (hO : OkF F) :
    Calls Tryz.prog 129 #[flV F vv vs, .int .i64 (-1)] w fun e w' => e = .returned (rlV (knownL F (-1), false)) ∧ Below w.heap.size w w' := by
  have hv := (okv_iff F.v).1 hO.v
  have HT := Lib.hid (show ∀ x : Int, 0 ≤ x → x ≤ hgt F.v → ∀ w, RgR w vv F.v → Calls Tryz.prog 74 #[vv, .int .i64 x] w fun e w' => e = .returned (.agg #[.int .i64 (tmN F.v x), .int .i64 (tmD F.v x)]) ∧ Below w.heap.size w w' from fun x x0 xn w h => Time_any F.v vv x w h hv x0 xn)
  have HE := Lib.hid (show ∀ k : Lk, okLk (hgt F.v) k = true → ∀ w, RgR w vv F.v → Calls Tryz.prog 84 #[vv, .agg #[.int .i64 k.lv, .int .i64 k.er]] w fun e w' => e = .returned (.tuple #[.int .i64 (endA k), .int .i64 (endB (hgt F.v) k)]) ∧ Below w.heap.size w w' from fun k hk w h => Ends_any F.v vv k w h hv hk)
  obtain ⟨⟨n1, n2⟩, n3, n4⟩ := end_in hO.f
  have hfr : rlV (knownL F (-1), false) = .agg #[.int .i64 0, .int .i64 (tmN F.v (endA F.f)), .int .i64 (tmD F.v (endA F.f)), .bool false, .bool false] := rfl
  rw [hfr]
  have g0 := HE.out F.f hO.f
  have g1 := HT.out (endA F.f) n1 (by have := hO.f; simp only [okLk, Bool.and_eq_true, decide_eq_true_eq] at this; omega)
  obtain ⟨a, ha⟩ : ∃ a, endA F.f = a := ⟨_, rfl⟩
  obtain ⟨b, hb⟩ : ∃ a, endB (hgt F.v) F.f = a := ⟨_, rfl⟩
  rw [ha, hb] at g0
  rw [ha] at g1 ⊢
  obtain ⟨an, han⟩ : ∃ n, tmN F.v a = n := ⟨_, rfl⟩
  obtain ⟨ad, had⟩ : ∃ n, tmD F.v a = n := ⟨_, rfl⟩
  rw [han, had] at g1 ⊢
  have HF0 := Lib.hid ((hF.alloc (flO F vv vs)).alloc (Obj.cells #[.int .i64 0, .int .i64 0, .int .i64 0, .bool false, .bool false] 139))
  have HB := Lib.hid ((Bk.new w 30 (flL' F vv vs)).alloc (Obj.cells #[.int .i64 0, .int .i64 0, .int .i64 0, .bool false, .bool false] 139))
  have HZ := Lib.hid (Bk.new1 w (flO F vv vs) 139 [.int .i64 0, .int .i64 0, .int .i64 0, .bool false, .bool false])
  have G0 := Lib.hid g0
  have G1 := Lib.hid g1
  clear g0 g1 HT HE hF hO hv n1 n2 n3 n4 hfr ha hb han had
  go_enter Tryz.func129, Tryz.ntmps129
  go_wp2_with fail
  refine (G0.out _ HF0.out.v).mono ?_
  rintro e w1 ⟨rfl, hb1⟩
  have HF1 := Lib.hid (HF0.out.below hb1)
  have hB1 := HB.out.below hb1
  have c0 := hB1.cell 0
  have cl := hB1.lt
  simp only [List.getElem?_cons_zero] at c0
  have HZ1 := Lib.hid (HZ.out.below hb1)
  have HW1 := Lib.hid (bafter (bafter hb1))
  clear hb1 hB1
  go_wp2_with fail
  refine (G1.out _ HF1.out.v).mono ?_
  rintro e w2 ⟨rfl, hb2⟩
  have HZ2 := Lib.hid (HZ1.out.below hb2)
  have HW2 := Lib.hid (bthen HW1.out hb2)
  clear hb2
  go_wp2_with (refine st_at rfl (T := 139) rfl rfl (cs := [.int .i64 0, .int .i64 an, .int .i64 ad, .bool false, .bool false]) rfl HZ2.out (by kernel_rfl) rfl rfl ?_; intro wk hkk hsk)
  refine bodyPost_ret (v := .agg #[.int .i64 0, .int .i64 an, .int .i64 ad, .bool false, .bool false]) (results_cell_row rfl _ _ (w.heap.size + 1) _ _ (0, 0) _ rfl hkk Tryz.underlying139 rfl (by kernel_rfl)) rfl ⟨rfl, ?_⟩
  exact bes_then HW2.out hsk (by omega) HW2.out.size
set_option maxRecDepth 100000 in
set_option maxHeartbeats 2000000 in
theorem rknown_seen (F : Fl) (vv vs : Value) (k : Nat) (w : World) (hF : FlIn w F vv vs) (hO : OkF F) (hk : k < F.s.length) :
    Calls Tryz.prog 129 #[flV F vv vs, .int .i64 (k : Int)] w fun e w' => e = .returned (rlV (knownL F (k : Int), false)) ∧ Below w.heap.size w w' := by
  have hv := (okv_iff F.v).1 hO.v
  have HT := Lib.hid (show ∀ x : Int, 0 ≤ x → x ≤ hgt F.v → ∀ w, RgR w vv F.v → Calls Tryz.prog 74 #[vv, .int .i64 x] w fun e w' => e = .returned (.agg #[.int .i64 (tmN F.v x), .int .i64 (tmD F.v x)]) ∧ Below w.heap.size w w' from fun x x0 xn w h => Time_any F.v vv x w h hv x0 xn)
  have HE := Lib.hid (show ∀ k : Lk, okLk (hgt F.v) k = true → ∀ w, RgR w vv F.v → Calls Tryz.prog 84 #[vv, .agg #[.int .i64 k.lv, .int .i64 k.er]] w fun e w' => e = .returned (.tuple #[.int .i64 (endA k), .int .i64 (endB (hgt F.v) k)]) ∧ Below w.heap.size w w' from fun k hk w h => Ends_any F.v vv k w h hv hk)
  have hfr : rlV (knownL F (k : Int), false) = .agg #[.int .i64 (snA F.s k).lo, .int .i64 (tmN F.v (endA (snA F.s k).k)), .int .i64 (tmD F.v (endA (snA F.s k).k)), .bool false, .bool false] := by
    unfold knownL
    rw [if_neg (by omega)]
    rfl
  rw [hfr]
  have hsn : okSn (hgt F.v) (snA F.s k) = true := by
    refine hO.s _ ?_
    simp [snA, List.getElem?_eq_getElem hk]
  obtain ⟨bs, off, hos, hbs, hcc⟩ := (show ∃ b off, (∃ c, vs = .slice (some ⟨b, off, none⟩) F.s.length c) ∧ b < w.heap.size ∧ ∀ i j, i < F.s.length → j < 4 → w.cell? ⟨b, off + i * 4 + j, none⟩ = some (snF F.s i j) from by
    obtain ⟨o, c, rfl, _⟩ := hF.s.parts
    obtain ⟨b, off, rfl, hb, hc⟩ := hF.s.cells (by omega)
    exact ⟨b, off, ⟨c, rfl⟩, hb, hc⟩)
  obtain ⟨cs, rfl⟩ := hos
  have d0 := hcc k 0 hk (by omega)
  have d2 := hcc k 2 hk (by omega)
  have d3 := hcc k 3 hk (by omega)
  simp only [snF, Nat.add_zero] at d0 d2 d3
  clear hcc
  obtain ⟨x, hx⟩ : ∃ x, snA F.s k = x := ⟨_, rfl⟩
  rw [hx] at d0 d2 d3 hsn ⊢
  clear hx
  obtain ⟨xl, xh, xk⟩ := x
  simp only at d0 d2 d3 ⊢
  have hlk : okLk (hgt F.v) xk = true := by simp only [okSn, Bool.and_eq_true] at hsn; exact hsn.2
  obtain ⟨⟨n1, n2⟩, n3, n4⟩ := end_in hlk
  have hf1 : xk.lv ≤ hgt F.v ∧ 0 ≤ xk.lv := by simp only [okLk, Bool.and_eq_true, decide_eq_true_eq] at hlk; omega
  have g0 := HE.out xk hlk
  have g1 := HT.out (endA xk) n1 (by omega)
  obtain ⟨a, ha⟩ : ∃ a, endA xk = a := ⟨_, rfl⟩
  obtain ⟨b, hb⟩ : ∃ a, endB (hgt F.v) xk = a := ⟨_, rfl⟩
  rw [ha, hb] at g0
  rw [ha] at g1 ⊢
  obtain ⟨an, han⟩ : ∃ n, tmN F.v a = n := ⟨_, rfl⟩
  obtain ⟨ad, had⟩ : ∃ n, tmD F.v a = n := ⟨_, rfl⟩
  rw [han, had] at g1 ⊢
  obtain ⟨ls, hls⟩ : ∃ n, F.s.length = n := ⟨_, rfl⟩
  rw [hls] at hF hk ⊢
  have hb0 : Below w.heap.size w ((w.alloc (flO F vv (.slice (some ⟨bs, off, none⟩) ls cs))).alloc (Obj.cells #[.int .i64 0, .int .i64 0, .int .i64 0, .bool false, .bool false] 139)) := (ballo _ _).alloc (by simp) _
  have e0 := (hb0.cell (p := ⟨bs, off + k * 4, none⟩) hbs).trans d0
  have e2 := (hb0.cell (p := ⟨bs, off + k * 4 + 2, none⟩) hbs).trans d2
  have e3 := (hb0.cell (p := ⟨bs, off + k * 4 + 3, none⟩) hbs).trans d3
  have el := Nat.lt_of_lt_of_le hbs hb0.size
  have hF0 := hF.below hb0
  have hB0 := (Bk.new w 30 (flL' F vv (.slice (some ⟨bs, off, none⟩) ls cs))).alloc (Obj.cells #[.int .i64 0, .int .i64 0, .int .i64 0, .bool false, .bool false] 139)
  have hZ := Bk.new1 w (flO F vv (.slice (some ⟨bs, off, none⟩) ls cs)) 139 [.int .i64 0, .int .i64 0, .int .i64 0, .bool false, .bool false]
  obtain ⟨W, hW⟩ : ∃ W, (w.alloc (flO F vv (.slice (some ⟨bs, off, none⟩) ls cs))).alloc (Obj.cells #[.int .i64 0, .int .i64 0, .int .i64 0, .bool false, .bool false] 139) = W := ⟨_, rfl⟩
  rw [hW] at hb0 e0 e2 e3 el hF0 hB0 hZ
  have c0 := hB0.cell 0
  have c5 := hB0.cell 5
  have cl := hB0.lt
  simp only [flL', List.getElem?_cons_zero, List.getElem?_cons_succ] at c0 c5
  have HF0 := Lib.hid hF0
  have HB := Lib.hid hB0
  have HZ := Lib.hid hZ
  have Hb0 := Lib.hid hb0
  have mc := @more_cell W
  have k1 : ∀ i : More W, _ := fun i => more_call (g0 i.x (HF0.out.v.below i.h))
  have K1 := Lib.hid k1
  have G1 := Lib.hid g1
  have E0 := Lib.hid e0
  clear g0 g1 k1 HT HE hF hO hv n1 n2 n3 n4 hfr ha hb han had hls hB0 hZ hF0 hb0 d0 d2 d3 hlk hf1 hsn e0
  go_enter Tryz.func129, Tryz.ntmps129
  go_wp2_with fail
  try rw [hW]
  clear hW
  refine wp_region_more (by kernel_rfl) (by kernel_rfl) ?_
  iterate 8 (try (first | go_big_quiet_step ((with_reducible first | exact K1.out _)) | quiet_step ((with_reducible first | exact K1.out _))))
  iterate 8 (try (first | go_big_quiet_step ((with_reducible first | exact K1.out _)) | quiet_step ((with_reducible first | exact K1.out _))))
  iterate 8 (try (first | go_big_quiet_step ((with_reducible first | exact K1.out _)) | quiet_step ((with_reducible first | exact K1.out _))))
  iterate 8 (try (first | go_big_quiet_step ((with_reducible first | exact K1.out _)) | quiet_step ((with_reducible first | exact K1.out _))))
  iterate 8 (try (first | go_big_quiet_step ((with_reducible first | exact K1.out _)) | quiet_step ((with_reducible first | exact K1.out _))))
  refine wpQuiet_nil ?_
  rintro ⟨wm, hbm⟩
  try dsimp only
  have HF1 := Lib.hid (HF0.out.below hbm)
  have hB1 := HB.out.below hbm
  have c0 := hB1.cell 0
  have c5 := hB1.cell 5
  have cl := hB1.lt
  have e0 := (hbm.cell (p := ⟨bs, off + k * 4, none⟩) el).trans E0.out
  have el := Nat.lt_of_lt_of_le el hbm.size
  simp only [flL', List.getElem?_cons_zero, List.getElem?_cons_succ] at c0 c5
  have HZ1 := Lib.hid (HZ.out.below hbm)
  have HW1 := Lib.hid (Hb0.out.trans (hbm.mono Hb0.out.size))
  have mc := @more_cell wm
  have k1 : ∀ i : More wm, _ := fun i => more_call (G1.out i.x (HF1.out.v.below i.h))
  have K2 := Lib.hid k1
  clear hbm hB1 k1 K1 e2 e3 HF0 HB
  go_wp2_with fail
  refine wp_head_more [0, 1, 2, 3, 4, 5, 6, 7, 8, 9, 10, 11] [12] (by kernel_rfl) (by kernel_rfl) ?_
  simp only [hPick, List.getElem?_cons_zero, List.getElem?_cons_succ]
  iterate 8 (try (first | go_big_quiet_step ((with_reducible first | exact K2.out _)) | quiet_step ((with_reducible first | exact K2.out _))))
  iterate 8 (try (first | go_big_quiet_step ((with_reducible first | exact K2.out _)) | quiet_step ((with_reducible first | exact K2.out _))))
  iterate 8 (try (first | go_big_quiet_step ((with_reducible first | exact K2.out _)) | quiet_step ((with_reducible first | exact K2.out _))))
  iterate 8 (try (first | go_big_quiet_step ((with_reducible first | exact K2.out _)) | quiet_step ((with_reducible first | exact K2.out _))))
  iterate 8 (try (first | go_big_quiet_step ((with_reducible first | exact K2.out _)) | quiet_step ((with_reducible first | exact K2.out _))))
  refine wpQuiet_nil ?_
  rintro ⟨wm, hbm⟩
  try dsimp only
  have HZ2 := Lib.hid (HZ1.out.below hbm)
  have HW2 := Lib.hid (HW1.out.trans (hbm.mono HW1.out.size))
  clear hbm
  go_wp2_with (refine st_at rfl (T := 139) rfl rfl (cs := [.int .i64 xl, .int .i64 an, .int .i64 ad, .bool false, .bool false]) rfl HZ2.out (by kernel_rfl) rfl rfl ?_; intro wk hkk hsk)
  refine bodyPost_ret (v := .agg #[.int .i64 xl, .int .i64 an, .int .i64 ad, .bool false, .bool false]) (results_cell_row rfl _ _ (w.heap.size + 1) _ _ (0, 0) _ rfl hkk Tryz.underlying139 rfl (by kernel_rfl)) rfl ⟨rfl, ?_⟩
  exact bes_then HW2.out hsk (by omega) HW2.out.size
theorem rknown_any (F : Fl) (vv vs : Value) (i : Int) (w : World) (hF : FlIn w F vv vs) (hO : OkF F) (hi : -1 ≤ i ∧ i < F.s.length) :
    Calls Tryz.prog 129 #[flV F vv vs, .int .i64 i] w fun e w' => e = .returned (rlV (knownL F i, false)) ∧ Below w.heap.size w w' := by
  by_cases h : i = -1
  · subst h; exact rknown_first F vv vs w hF hO
  · obtain ⟨k, rfl⟩ : ∃ k : Nat, i = k := ⟨i.toNat, by omega⟩
    exact rknown_seen F vv vs k w hF hO (by omega)
theorem mxR_R {a b : Bd} (ha : BdR a) (hb : BdR b) : BdR (mxR a b) := by
  unfold mxR
  split
  · exact hb
  · split
    · exact ⟨ha.a0, ha.a1, ha.b0, ha.b1⟩
    · exact ha
theorem mnR_R {a b : Bd} (ha : BdR a) (hb : BdR b) : BdR (mnR a b) := by
  unfold mnR
  split
  · exact hb
  · split
    · exact ⟨ha.a0, ha.a1, ha.b0, ha.b1⟩
    · exact ha
set_option maxRecDepth 100000 in
set_option maxHeartbeats 4000000 in
theorem rCC_no (F : Fl) (vv vs : Value) (N D n : Int) (w : World) (hF : FlIn w F vv vs) (h0 : okFl F = false ∨ ccR F N D n = false) :
    Calls Tryz.prog 61 #[flV F vv vs, .agg #[.int .i64 N, .int .i64 D], .int .i64 n] w fun e w' => e = .returned (.int .i64 (ccV F N D n)) ∧ Below w.heap.size w w' := by
  have HF0 := Lib.hid ((hF.alloc (flO F vv vs)).alloc (Obj.cells #[.int .i64 N, .int .i64 D] 41))
  have HB := Lib.hid ((Bk.new w 30 (flL' F vv vs)).alloc (Obj.cells #[.int .i64 N, .int .i64 D] 41))
  have HZ := Lib.hid (Bk.new1 w (flO F vv vs) 41 [.int .i64 N, .int .i64 D])
  unfold ccV
  cases ho : okFl F with
  | false =>
    have HC := Lib.hid (show chkF F = 30 by unfold chkF; rw [if_neg (by rw [ho]; decide)])
    clear ho hF h0
    go_enter Tryz.func61, Tryz.ntmps61
    go_wp2_with (first | (refine ld_at rfl (T := 30) rfl rfl HB.out Tryz.underlying30 rfl (by kernel_rfl) ?_) | fail)
    refine (rCheck_any F _ _ _ HF0.out).mono ?_
    rw [HC.out]
    rintro e w1 ⟨rfl, hb⟩
    have HB1 := Lib.hid (HB.out.below hb)
    have HZ1 := Lib.hid (HZ.out.below hb)
    have HW1 := Lib.hid (bafter (bafter hb))
    have HF1 := Lib.hid (HF0.out.below hb)
    clear hb
    go_wp2_with fail
    go_ret
    exact ⟨rfl, HW1.out⟩
  | true =>
    have HC := Lib.hid (show chkF F = 0 by unfold chkF; rw [if_pos ho])
    have h1 : ccR F N D n = false := by rcases h0 with h | h; · rw [ho] at h; cases h
                                        · exact h
    rw [if_pos rfl, if_neg (by rw [h1]; decide)]
    unfold ccR at h1
    obtain ⟨R, hR⟩ : ∃ R, (inB N 1 1125899906842624 && inB D 1 1125899906842624) = R := ⟨_, rfl⟩
    rw [hR] at h1
    have HR := Lib.hid hR
    obtain ⟨os, cs, rfl, ms⟩ := hF.s.parts
    obtain ⟨ls, hls⟩ : ∃ n, F.s.length = n := ⟨_, rfl⟩
    rw [hls] at h1 ms HF0 HB HZ ⊢
    clear ho hF h0 hR hls
    cases R with
    | false =>
      clear h1
      go_enter Tryz.func61, Tryz.ntmps61
      go_wp2_with (first | (refine ld_at rfl (T := 30) rfl rfl HB.out Tryz.underlying30 rfl (by kernel_rfl) ?_) | fail)
      refine (rCheck_any F _ _ _ HF0.out).mono ?_
      rw [HC.out]
      rintro e w1 ⟨rfl, hb⟩
      have HB1 := Lib.hid (HB.out.below hb)
      have HZ1 := Lib.hid (HZ.out.below hb)
      have HW1 := Lib.hid (bafter (bafter hb))
      have HF1 := Lib.hid (HF0.out.below hb)
      clear hb
      go_wp2_with (first | (refine ld_at rfl (T := 41) rfl rfl HZ1.out Tryz.underlying41 rfl (by kernel_rfl) ?_) | fail)
      refine (rratio_any N D _).mono ?_
      rw [HR.out]
      rintro e w2 ⟨rfl, hb⟩
      have HB2 := Lib.hid (HB1.out.below hb)
      have HZ2 := Lib.hid (HZ1.out.below hb)
      have HW2 := Lib.hid (bthen HW1.out hb)
      have HF2 := Lib.hid (HF1.out.below hb)
      have c5 := HB2.out.cell 5
      have cl := HB2.out.lt
      simp only [flL', List.getElem?_cons_zero, List.getElem?_cons_succ] at c5
      clear hb
      go_wp2_with fail
      go_ret
      exact ⟨rfl, HW2.out⟩
    | true =>
      rw [Bool.true_and] at h1
      by_cases hn1 : n < -1
      · clear h1
        go_enter Tryz.func61, Tryz.ntmps61
        go_wp2_with (first | (refine ld_at rfl (T := 30) rfl rfl HB.out Tryz.underlying30 rfl (by kernel_rfl) ?_) | fail)
        refine (rCheck_any F _ _ _ HF0.out).mono ?_
        rw [HC.out]
        rintro e w1 ⟨rfl, hb⟩
        have HB1 := Lib.hid (HB.out.below hb)
        have HZ1 := Lib.hid (HZ.out.below hb)
        have HW1 := Lib.hid (bafter (bafter hb))
        have HF1 := Lib.hid (HF0.out.below hb)
        clear hb
        go_wp2_with (first | (refine ld_at rfl (T := 41) rfl rfl HZ1.out Tryz.underlying41 rfl (by kernel_rfl) ?_) | fail)
        refine (rratio_any N D _).mono ?_
        rw [HR.out]
        rintro e w2 ⟨rfl, hb⟩
        have HB2 := Lib.hid (HB1.out.below hb)
        have HZ2 := Lib.hid (HZ1.out.below hb)
        have HW2 := Lib.hid (bthen HW1.out hb)
        have HF2 := Lib.hid (HF1.out.below hb)
        have c5 := HB2.out.cell 5
        have cl := HB2.out.lt
        simp only [flL', List.getElem?_cons_zero, List.getElem?_cons_succ] at c5
        clear hb
        go_wp2_with fail
        go_ret
        exact ⟨rfl, HW2.out⟩
      · have hn2 : (ls : Int) ≤ n := by
          rcases Int.lt_or_le n ls with h | h
          · rw [show inB n (-1) ((ls : Int) - 1) = true by simp [inB]; omega] at h1; cases h1
          · exact h
        clear h1
        go_enter Tryz.func61, Tryz.ntmps61
        go_wp2_with (first | (refine ld_at rfl (T := 30) rfl rfl HB.out Tryz.underlying30 rfl (by kernel_rfl) ?_) | fail)
        refine (rCheck_any F _ _ _ HF0.out).mono ?_
        rw [HC.out]
        rintro e w1 ⟨rfl, hb⟩
        have HB1 := Lib.hid (HB.out.below hb)
        have HZ1 := Lib.hid (HZ.out.below hb)
        have HW1 := Lib.hid (bafter (bafter hb))
        have HF1 := Lib.hid (HF0.out.below hb)
        clear hb
        go_wp2_with (first | (refine ld_at rfl (T := 41) rfl rfl HZ1.out Tryz.underlying41 rfl (by kernel_rfl) ?_) | fail)
        refine (rratio_any N D _).mono ?_
        rw [HR.out]
        rintro e w2 ⟨rfl, hb⟩
        have HB2 := Lib.hid (HB1.out.below hb)
        have HZ2 := Lib.hid (HZ1.out.below hb)
        have HW2 := Lib.hid (bthen HW1.out hb)
        have HF2 := Lib.hid (HF1.out.below hb)
        have c5 := HB2.out.cell 5
        have cl := HB2.out.lt
        simp only [flL', List.getElem?_cons_zero, List.getElem?_cons_succ] at c5
        clear hb
        go_wp2_with fail
        go_ret
        exact ⟨rfl, HW2.out⟩
set_option maxRecDepth 100000 in
set_option maxHeartbeats 4000000 in
theorem rCC_yes (F : Fl) (vv vs : Value) (N D n : Int) (w : World) (hF : FlIn w F vv vs) (ho : okFl F = true) (hr : ccR F N D n = true) :
    Calls Tryz.prog 61 #[flV F vv vs, .agg #[.int .i64 N, .int .i64 D], .int .i64 n] w fun e w' => e = .returned (.int .i64 (ccV F N D n)) ∧ Below w.heap.size w w' := by
  have HF0 := Lib.hid ((hF.alloc (flO F vv vs)).alloc (Obj.cells #[.int .i64 N, .int .i64 D] 41))
  have HB := Lib.hid ((Bk.new w 30 (flL' F vv vs)).alloc (Obj.cells #[.int .i64 N, .int .i64 D] 41))
  have HZ := Lib.hid (Bk.new1 w (flO F vv vs) 41 [.int .i64 N, .int .i64 D])
  have HC := Lib.hid (show chkF F = 0 by unfold chkF; rw [if_pos ho])
  have hO := (okFl_iff F).1 ho
  have hR1 : (inB N 1 1125899906842624 && inB D 1 1125899906842624) = true := by unfold ccR at hr; rw [Bool.and_eq_true] at hr; exact hr.1
  have hb : (1 ≤ N ∧ N ≤ 1125899906842624) ∧ (1 ≤ D ∧ D ≤ 1125899906842624) ∧ (-1 ≤ n ∧ n < F.s.length) := by
    unfold ccR at hr
    simp only [inB, Bool.and_eq_true, decide_eq_true_eq] at hr
    omega
  have HR := Lib.hid hR1
  obtain ⟨⟨N0, N1⟩, ⟨D0, D1⟩, n0, n1⟩ := hb
  have hlen : (allL F).length ≤ 1000 := by rw [all_len]; have := hO.n; omega
  have hll := lines_len F (allL F)
  have hRR := rnR_c hO (allL F)
  have hKB := known_B hO n0 n1
  have hL : ∀ y ∈ linesL F (allL F) ++ [(knownL F n, false), (knownL F n, true)], LnB y.1 := fun y hy => by
    rcases List.mem_append.1 hy with h | h
    · exact lines_B1 hO (allL_ok F) y h
    · simp only [List.mem_cons, List.not_mem_nil, or_false] at h
      rcases h with rfl | rfl <;> exact hKB
  have hS : RnC (leftR (rnR F (allL F)) (linesL F (allL F) ++ [(knownL F n, false), (knownL F n, true)])) := outR_bd hL hL hRR
  have hI : ∀ i ∈ allL F, i < F.s.length := fun i hi => (allL_ok F i hi).2
  have hsome : (caseR F (allL F) N D n).some = ccB F N D n := by
    rw [Bool.eq_iff_iff, caseR_iff hO hI ((allI_mem (F := F)).2 ⟨by omega, by omega⟩) (by omega) (by omega), ccB_iff hO]
  have hG : BdR ⟨1000 * D, N, false⟩ := ⟨by simp only; omega, by simp only; omega, by simp only; omega, by simp only; omega⟩
  have hw : IntKind.i64.wrap (1000 * D) = 1000 * D := IntWalk.i64_in _ (by omega)
  unfold ccV
  rw [if_pos ho, if_pos hr]
  unfold caseR at hsome
  obtain ⟨K, hK⟩ : ∃ K, knownL F n = K := ⟨_, rfl⟩
  have gK : ∀ w, FlIn w F vv vs → Calls Tryz.prog 129 #[flV F vv vs, .int .i64 n] w fun e w' => e = .returned (.agg #[.int .i64 (knownL F n).k, .int .i64 (knownL F n).n, .int .i64 (knownL F n).d, .bool false, .bool (knownL F n).s]) ∧ Below w.heap.size w w' := fun w h => rknown_any F vv vs n w h hO ⟨n0, n1⟩
  rw [hK] at hL hS hsome gK
  obtain ⟨S, hSS⟩ : ∃ S, leftR (rnR F (allL F)) (linesL F (allL F) ++ [(K, false), (K, true)]) = S := ⟨_, rfl⟩
  rw [hSS] at hS hsome
  obtain ⟨R, hRe⟩ : ∃ R, ccB F N D n = R := ⟨_, rfl⟩
  rw [hRe] at hsome ⊢
  have q1 := fun w => atLeast_any S ⟨1000 * D, N, false⟩ w hS.lo hG
  obtain ⟨S1, hS1⟩ : ∃ x, ({ S with lo := mxR S.lo ⟨1000 * D, N, false⟩ } : Rn) = x := ⟨_, rfl⟩
  have b1 : BdR S1.lo ∧ BdR S1.hi := by rw [← hS1]; exact ⟨mxR_R hS.lo hG, hS.hi⟩
  have q2 := fun w => atMost_any S1 ⟨1000 * D, N, false⟩ w b1.2 hG
  obtain ⟨S2, hS2⟩ : ∃ x, ({ S1 with hi := mnR S1.hi ⟨1000 * D, N, false⟩ } : Rn) = x := ⟨_, rfl⟩
  have b2 : BdR S2.lo ∧ BdR S2.hi := by rw [← hS2]; exact ⟨b1.1, mnR_R b1.2 hG⟩
  have q3 := fun w => rSome_any S2 w b2.1 b2.2
  have hs2 : S2.some = R := by rw [← hsome, ← hS2, ← hS1]
  rw [hs2] at q3
  rw [hS1] at q1
  rw [hS2] at q2
  have Q1 := Lib.hid q1
  have Q2 := Lib.hid q2
  have Q3 := Lib.hid q3
  have GK := Lib.hid gK
  have HSS := Lib.hid hSS
  have HL := Lib.hid hL
  have HRR := Lib.hid hRR
  clear q1 q2 q3 gK hSS hL hRR hRe hK hS1 hS2 b1 b2 hs2 hsome hG hI hS hKB hR1
  obtain ⟨os, cs, rfl, ms⟩ := hF.s.parts
  obtain ⟨ls, hls⟩ : ∃ n, F.s.length = n := ⟨_, rfl⟩
  rw [hls] at n1 ms hF HF0 HB HZ GK ⊢
  clear hls hr ho
  have HF00 := Lib.hid hF
  clear hF
  go_enter Tryz.func61, Tryz.ntmps61
  go_wp2_with (first | (refine ld_at rfl (T := 30) rfl rfl HB.out Tryz.underlying30 rfl (by kernel_rfl) ?_) | fail)
  refine (rCheck_any F _ _ _ HF0.out).mono ?_
  rw [HC.out]
  rintro e w1 ⟨rfl, hb⟩
  have HB1 := Lib.hid (HB.out.below hb)
  have HZ1 := Lib.hid (HZ.out.below hb)
  have HW1 := Lib.hid (bafter (bafter hb))
  have HF1 := Lib.hid (HF0.out.below hb)
  clear hb
  go_wp2_with (first | (refine ld_at rfl (T := 41) rfl rfl HZ1.out Tryz.underlying41 rfl (by kernel_rfl) ?_) | fail)
  refine (rratio_any N D _).mono ?_
  rw [HR.out]
  rintro e W ⟨rfl, hb⟩
  have HBw := Lib.hid (HB1.out.below hb)
  have HZw := Lib.hid (HZ1.out.below hb)
  have HwW := Lib.hid (bthen HW1.out hb)
  have HFW := Lib.hid (HF1.out.below hb)
  have c0 := HBw.out.cell 0
  have c1 := HBw.out.cell 1
  have c2 := HBw.out.cell 2
  have c3 := HBw.out.cell 3
  have c4 := HBw.out.cell 4
  have c5 := HBw.out.cell 5
  have cl := HBw.out.lt
  simp only [flL', List.getElem?_cons_zero, List.getElem?_cons_succ] at c0 c1 c2 c3 c4 c5
  clear hb HB HZ HF0 HB1 HZ1 HW1 HF1
  go_upto_region 7 with fail
  go_cut [9, 10] from 35 to 41 (fun s p wx => ∃ xb, p = .pointer (some ⟨xb, 0, none⟩) ∧ W.heap.size ≤ xb ∧ s.ownBlock ≠ some xb ∧ Hid (Bk wx xb 129 (inC (rnR F (allL F)))) ∧ Hid (OwnRl wx W.heap.size s (linesL F (allL F))) ∧ Hid (Below W.heap.size W wx))
  case first =>
    refine WpK.begin (S := fun _ => True) (kp := fun _ => true) (f := 10) (up := #[false, false, false, false, false, false, false, false, false, false]) (by kernel_rfl) (by kernel_rfl) (by kernel_rfl) ?_
    refine WpK.weaken (S := fun x => Below W.heap.size W x) (kp := (fun i => decide (i < 9))) (fun _ => trivial) _ ?_
    have hS0 := (show Below W.heap.size W W.drew from (Below.refl _ _).drew)
    refine WpK.take (i := 0) (v := ?_) ((toArray_at _ _).trans rfl) (by kernel_rfl) (by kernel_rfl) (by kernel_rfl) (by kernel_rfl) (by kernel_rfl) (fun _ _ _ h => h) (Or.inl ⟨by rfl, ?_⟩) hS0 ?_
    rotate_left
    · (intro x hx; obtain ⟨hcx, hfx⟩ := bcell hx; go_simp <;> with_reducible rfl)
    try simp only [Act.put, puts]
    refine WpK.take (i := 1) (v := ?_) ((toArray_at _ _).trans rfl) (by kernel_rfl) (by kernel_rfl) (by kernel_rfl) (by kernel_rfl) (by kernel_rfl) (fun _ _ _ h => h) (Or.inl ⟨by rfl, ?_⟩) hS0 ?_
    rotate_left
    · (intro x hx; obtain ⟨hcx, hfx⟩ := bcell hx; go_simp <;> with_reducible rfl)
    try simp only [Act.put, puts]
    clear hS0 c0 c1 c2 c3 c4 c5
    refine WpK.two (i := 2) (k := 7) (by kernel_rfl) ((toArray_at _ _).trans rfl) ((toArray_at _ _).trans rfl) ?_ ?_
    all_goals
      intro K hK
      have HK := Lib.hid hK
      clear hK
    · go_simp
      refine (rAll_any F _ _ _ (HFW.out.below ((Below.drew (Below.refl _ _)))) hO.n).mono ?_
      rintro e W2 ⟨vI, rfl, hb2, hI2⟩
      have hW2 : Below W.heap.size W W2 := Below.trans (Below.drew (Below.refl _ _)) hb2
      refine HK.out _ _ (fun _ => hW2) (fun _ => ?_)
      clear HK K
      try simp only [puts]
      refine WpK.two (i := 3) (k := 7) (by kernel_rfl) ((toArray_at _ _).trans rfl) ((toArray_at _ _).trans rfl) ?_ ?_
      all_goals
        intro K hK
        have HK := Lib.hid hK
        clear hK
      · go_simp
        refine (Of_any F _ _ _ (allL F) _ (HFW.out.below hW2) hO (hI2) (allL_ok F) hlen).mono ?_
        rintro e W3 ⟨s, rfl, hb3, hS3⟩
        have hW3 : Below W.heap.size W W3 := hW2.trans (hb3.mono hW2.size)
        refine HK.out _ _ (fun _ => hW3) (fun _ => ?_)
        clear HK K
        try simp only [puts]
        have hS0 := hW3
        refine WpK.take (i := 4) (v := ?_) ((toArray_at _ _).trans rfl) (by kernel_rfl) (by kernel_rfl) (by kernel_rfl) (by kernel_rfl) (by kernel_rfl) (fun _ _ _ h => h) (Or.inl ⟨by rfl, ?_⟩) hS0 ?_
        rotate_left
        · (intro x hx; clear hx; go_simp <;> with_reducible rfl)
        try simp only [Act.put, puts]
        refine WpK.take (i := 5) (v := ?_) ((toArray_at _ _).trans rfl) (by kernel_rfl) (by kernel_rfl) (by kernel_rfl) (by kernel_rfl) (by kernel_rfl) (fun _ _ _ h => h) (Or.inl ⟨by rfl, ?_⟩) hS0 ?_
        rotate_left
        · (intro x hx; clear hx; go_simp <;> with_reducible rfl)
        try simp only [Act.put, puts]
        refine WpK.take (i := 6) (v := ?_) ((toArray_at _ _).trans rfl) (by kernel_rfl) (by kernel_rfl) (by kernel_rfl) (by kernel_rfl) (by kernel_rfl) (fun _ _ _ h => h) (Or.inl ⟨by rfl, ?_⟩) hS0 ?_
        rotate_left
        · (intro x hx; clear hx; go_simp <;> with_reducible rfl)
        try simp only [Act.put, puts]
        clear hS0
        refine WpK.one (i := 7) (by kernel_rfl) ((toArray_at _ _).trans rfl) ?_
        intro K hK
        have HK := Lib.hid hK
        clear hK
        go_simp
        have hX : Below W.heap.size W (W3.alloc (Obj.cells z7L.toArray 129)) := hW3.alloc hW3.size _
        refine HK.out _ _ (fun _ => hX) (fun _ => ?_)
        clear HK K
        try simp only [puts]
        have hBx := Bk.new W3 129 z7L
        have hOx := owns_below hS3 (ballo W3 (Obj.cells z7L.toArray 129))
        have hne : s.ownBlock ≠ some W3.heap.size := fun e => by have := (World.ownsRow.lt hS3 _ e).2; omega
        have hbk : W.heap.size ≤ W3.heap.size := hW3.size
        refine WpK.one (i := 8) (by kernel_rfl) ((toArray_at _ _).trans rfl) ?_
        intro K hK
        have HK := Lib.hid hK
        clear hK
        go_simp
        refine HK.out _ _ (fun _ => hX) (fun _ => ?_)
        clear HK K
        try simp only [puts]
        refine WpK.one (i := 9) (by kernel_rfl) ((toArray_at _ _).trans rfl) ?_
        intro K hK
        have HK := Lib.hid hK
        clear hK
        refine step_st rfl rfl rfl (cs := inC (rnR F (allL F))) rfl hBx (by kernel_rfl) rfl rfl ?_
        intro WX hkk hsk
        refine HK.out _ _ (fun h => absurd h (by decide)) (fun _ => ?_)
        clear HK K
        try simp only [puts]
        refine WpK.done (by kernel_rfl) ?_
        have hOs := owns_base (base' := W.heap.size) (owns_bes' hOx hsk hne) ((by have := hW2.size; omega))
        have hWX := bes_then hX hsk hbk hX.size
        have HKK := Lib.hid hkk
        have HOS := Lib.hid hOs
        have HWX := Lib.hid hWX
        have HNE := Lib.hid hne
        have HBKK := Lib.hid hbk
        clear hkk hOs hWX hne hsk hX hBx hOx
        go_wp2_with fail
        go_meet
        case rel => exact ⟨_, rfl, HBKK.out, HNE.out, HKK, HOS, HWX⟩
      · go_simp
        have hX2 : Below W.heap.size W (W2.alloc (Obj.cells z7L.toArray 129)) := hW2.alloc hW2.size _
        refine HK.out _ _ (fun _ => hX2) (fun _ => ?_)
        clear HK K
        try simp only [puts]
        refine WpK.one (i := 3) (by kernel_rfl) ((toArray_at _ _).trans rfl) ?_
        intro K hK
        have HK := Lib.hid hK
        clear hK
        go_simp
        refine (Of_any F _ _ _ (allL F) _ (HFW.out.below hX2) hO (hI2.alloc _) (allL_ok F) hlen).mono ?_
        rintro e W3 ⟨s, rfl, hb3, hS3⟩
        have hW3 : Below W.heap.size W W3 := hX2.trans (hb3.mono hX2.size)
        refine HK.out _ _ (fun _ => hW3) (fun _ => ?_)
        clear HK K
        try simp only [puts]
        have hS0 := hW3
        refine WpK.take (i := 4) (v := ?_) ((toArray_at _ _).trans rfl) (by kernel_rfl) (by kernel_rfl) (by kernel_rfl) (by kernel_rfl) (by kernel_rfl) (fun _ _ _ h => h) (Or.inl ⟨by rfl, ?_⟩) hS0 ?_
        rotate_left
        · (intro x hx; clear hx; go_simp <;> with_reducible rfl)
        try simp only [Act.put, puts]
        refine WpK.take (i := 5) (v := ?_) ((toArray_at _ _).trans rfl) (by kernel_rfl) (by kernel_rfl) (by kernel_rfl) (by kernel_rfl) (by kernel_rfl) (fun _ _ _ h => h) (Or.inl ⟨by rfl, ?_⟩) hS0 ?_
        rotate_left
        · (intro x hx; clear hx; go_simp <;> with_reducible rfl)
        try simp only [Act.put, puts]
        refine WpK.take (i := 6) (v := ?_) ((toArray_at _ _).trans rfl) (by kernel_rfl) (by kernel_rfl) (by kernel_rfl) (by kernel_rfl) (by kernel_rfl) (fun _ _ _ h => h) (Or.inl ⟨by rfl, ?_⟩) hS0 ?_
        rotate_left
        · (intro x hx; clear hx; go_simp <;> with_reducible rfl)
        try simp only [Act.put, puts]
        clear hS0
        have hX := hW3
        have hBx := (Bk.new W2 129 z7L).below hb3
        have hOx := hS3
        have hne : s.ownBlock ≠ some W2.heap.size := fun e => by have := (World.ownsRow.lt hS3 _ e).1; simp at this; omega
        have hbk : W.heap.size ≤ W2.heap.size := hW2.size
        refine WpK.one (i := 8) (by kernel_rfl) ((toArray_at _ _).trans rfl) ?_
        intro K hK
        have HK := Lib.hid hK
        clear hK
        go_simp
        refine HK.out _ _ (fun _ => hX) (fun _ => ?_)
        clear HK K
        try simp only [puts]
        refine WpK.one (i := 9) (by kernel_rfl) ((toArray_at _ _).trans rfl) ?_
        intro K hK
        have HK := Lib.hid hK
        clear hK
        refine step_st rfl rfl rfl (cs := inC (rnR F (allL F))) rfl hBx (by kernel_rfl) rfl rfl ?_
        intro WX hkk hsk
        refine HK.out _ _ (fun h => absurd h (by decide)) (fun _ => ?_)
        clear HK K
        try simp only [puts]
        refine WpK.done (by kernel_rfl) ?_
        have hOs := owns_base (base' := W.heap.size) (owns_bes' hOx hsk hne) ((by have := hX2.size; omega))
        have hWX := bes_then hX hsk hbk hX.size
        have HKK := Lib.hid hkk
        have HOS := Lib.hid hOs
        have HWX := Lib.hid hWX
        have HNE := Lib.hid hne
        have HBKK := Lib.hid hbk
        clear hkk hOs hWX hne hsk hX hBx hOx
        go_wp2_with fail
        go_meet
        case rel => exact ⟨_, rfl, HBKK.out, HNE.out, HKK, HOS, HWX⟩
    · go_simp
      have hX1 : Below W.heap.size W (W.drew.alloc (Obj.cells z7L.toArray 129)) := (Below.drew (Below.refl _ _)).alloc (Nat.le_refl _) _
      refine HK.out _ _ (fun _ => hX1) (fun _ => ?_)
      clear HK K
      try simp only [puts]
      refine WpK.one (i := 2) (by kernel_rfl) ((toArray_at _ _).trans rfl) ?_
      intro K hK
      have HK := Lib.hid hK
      clear hK
      go_simp
      refine (rAll_any F _ _ _ (HFW.out.below (hX1)) hO.n).mono ?_
      rintro e W2 ⟨vI, rfl, hb2, hI2⟩
      have hW2 : Below W.heap.size W W2 := hX1.trans (hb2.mono hX1.size)
      refine HK.out _ _ (fun _ => hW2) (fun _ => ?_)
      clear HK K
      try simp only [puts]
      refine WpK.one (i := 3) (by kernel_rfl) ((toArray_at _ _).trans rfl) ?_
      intro K hK
      have HK := Lib.hid hK
      clear hK
      go_simp
      refine (Of_any F _ _ _ (allL F) _ (HFW.out.below hW2) hO (hI2) (allL_ok F) hlen).mono ?_
      rintro e W3 ⟨s, rfl, hb3, hS3⟩
      have hW3 : Below W.heap.size W W3 := hW2.trans (hb3.mono hW2.size)
      refine HK.out _ _ (fun _ => hW3) (fun _ => ?_)
      clear HK K
      try simp only [puts]
      have hS0 := hW3
      refine WpK.take (i := 4) (v := ?_) ((toArray_at _ _).trans rfl) (by kernel_rfl) (by kernel_rfl) (by kernel_rfl) (by kernel_rfl) (by kernel_rfl) (fun _ _ _ h => h) (Or.inl ⟨by rfl, ?_⟩) hS0 ?_
      rotate_left
      · (intro x hx; clear hx; go_simp <;> with_reducible rfl)
      try simp only [Act.put, puts]
      refine WpK.take (i := 5) (v := ?_) ((toArray_at _ _).trans rfl) (by kernel_rfl) (by kernel_rfl) (by kernel_rfl) (by kernel_rfl) (by kernel_rfl) (fun _ _ _ h => h) (Or.inl ⟨by rfl, ?_⟩) hS0 ?_
      rotate_left
      · (intro x hx; clear hx; go_simp <;> with_reducible rfl)
      try simp only [Act.put, puts]
      refine WpK.take (i := 6) (v := ?_) ((toArray_at _ _).trans rfl) (by kernel_rfl) (by kernel_rfl) (by kernel_rfl) (by kernel_rfl) (by kernel_rfl) (fun _ _ _ h => h) (Or.inl ⟨by rfl, ?_⟩) hS0 ?_
      rotate_left
      · (intro x hx; clear hx; go_simp <;> with_reducible rfl)
      try simp only [Act.put, puts]
      clear hS0
      have hX := hW3
      have hBx : Bk W3 W.heap.size 129 z7L := ((Bk.new W.drew 129 z7L).below hb2).below hb3
      have hOx := hS3
      have hne : s.ownBlock ≠ some W.heap.size := fun e => by have := (World.ownsRow.lt hS3 _ e).1; have := hb2.size; simp at this; omega
      have hbk : W.heap.size ≤ W.heap.size := Nat.le_refl _
      refine WpK.one (i := 8) (by kernel_rfl) ((toArray_at _ _).trans rfl) ?_
      intro K hK
      have HK := Lib.hid hK
      clear hK
      go_simp
      refine HK.out _ _ (fun _ => hX) (fun _ => ?_)
      clear HK K
      try simp only [puts]
      refine WpK.one (i := 9) (by kernel_rfl) ((toArray_at _ _).trans rfl) ?_
      intro K hK
      have HK := Lib.hid hK
      clear hK
      refine step_st rfl rfl rfl (cs := inC (rnR F (allL F))) rfl hBx (by kernel_rfl) rfl rfl ?_
      intro WX hkk hsk
      refine HK.out _ _ (fun h => absurd h (by decide)) (fun _ => ?_)
      clear HK K
      try simp only [puts]
      refine WpK.done (by kernel_rfl) ?_
      have hOs := owns_base (base' := W.heap.size) (owns_bes' hOx hsk hne) ((by have := hW2.size; omega))
      have hWX := bes_then hX hsk hbk hX.size
      have HKK := Lib.hid hkk
      have HOS := Lib.hid hOs
      have HWX := Lib.hid hWX
      have HNE := Lib.hid hne
      have HBKK := Lib.hid hbk
      clear hkk hOs hWX hne hsk hX hBx hOx
      go_wp2_with fail
      go_meet
      case rel => exact ⟨_, rfl, HBKK.out, HNE.out, HKK, HOS, HWX⟩
  case rest =>
    rename World => WX
    obtain ⟨xb, rfl, hbk, hne, HKK, HOS, HWX⟩ := hcut
    clear c0 c1 c2 c3 c4 c5
    have HB1 := Lib.hid (HBw.out.below HWX.out)
    have HF1 := Lib.hid (HFW.out.below HWX.out)
    have HZ1 := Lib.hid (HZw.out.below HWX.out)
    have HwX := Lib.hid (HwW.out.trans (HWX.out.mono HwW.out.size))
    have HBK := Lib.hid (show w.heap.size + 1 < xb by have := HZw.out.lt; have := hbk; omega)
    obtain ⟨kk, kn, kd, ks⟩ := K
    simp only at GK
    go_wp2_with (first | (refine ld_at rfl (T := 30) rfl rfl HB1.out Tryz.underlying30 rfl (by kernel_rfl) ?_) | fail)
    refine (GK.out _ HF1.out).mono ?_
    rintro e W4 ⟨rfl, hb4⟩
    have hZ4 := HZ1.out.below hb4
    have z0 := hZ4.cell 0
    have z1 := hZ4.cell 1
    have zl := hZ4.lt
    simp only [List.getElem?_cons_zero, List.getElem?_cons_succ] at z0 z1
    have HX4 := Lib.hid (HKK.out.below hb4)
    have HO4 := Lib.hid (owns_below HOS.out hb4)
    have HW4 := Lib.hid (HWX.out.trans (hb4.mono HWX.out.size))
    have HsX := Lib.hid (show ∀ g, W4.heap.size ≤ g → u9.ownBlock ≠ some g from fun g hg e => by have := (World.ownsRow.lt HOS.out _ e).2; have := hb4.size; omega)
    have hxb : xb < W4.heap.size := HX4.out.lt
    have hZ4' := Lib.hid hZ4
    clear hb4 hZ4 z0 z1 zl
    go_upto_region 11 with fail
    obtain ⟨V, hV⟩ : ∃ V, (W4.alloc (Obj.cells #[.int .i64 kk, .int .i64 kn, .int .i64 kd, .bool false, .bool ks] 139)).alloc (Obj.cells #[.int .i64 kk, .int .i64 kn, .int .i64 kd, .bool true, .bool ks] 139) = V := ⟨_, rfl⟩
    have hA := (Bk.new W4 139 [.int .i64 kk, .int .i64 kn, .int .i64 kd, .bool false, .bool ks]).alloc (Obj.cells #[.int .i64 kk, .int .i64 kn, .int .i64 kd, .bool true, .bool ks] 139)
    have hC := Bk.new1 W4 (Obj.cells #[.int .i64 kk, .int .i64 kn, .int .i64 kd, .bool false, .bool ks] 139) 139 [.int .i64 kk, .int .i64 kn, .int .i64 kd, .bool true, .bool ks]
    have h4V : Below W4.heap.size W4 V := by rw [← hV]; exact (ballo _ _).alloc (by simp) _
    rw [hV] at hA hC
    have hZ5 := hZ4'.out.below h4V
    have z0 := hZ5.cell 0
    have z1 := hZ5.cell 1
    have zl := hZ5.lt
    simp only [List.getElem?_cons_zero, List.getElem?_cons_succ] at z0 z1
    have HSV := Lib.hid (show V.heap.size = W4.heap.size + 2 by rw [← hV]; simp)
    try rw [hV]
    clear hV hZ5
    go_wp2_with fail
    obtain ⟨U, hU⟩ : ∃ U, V.alloc (Obj.cells #[.int .i64 (1000 * D), .int .i64 N] 41) = U := ⟨_, rfl⟩
    have hVU : Below V.heap.size V U := by rw [← hU]; exact ballo _ _
    have h4U : Below W4.heap.size W4 U := bthen h4V hVU
    have HAU := Lib.hid (hA.below hVU)
    have HCU := Lib.hid (hC.below hVU)
    have HGU := Lib.hid (show Bk U V.heap.size 41 [.int .i64 (1000 * D), .int .i64 N] by rw [← hU]; exact Bk.new _ _ _)
    have HXU := Lib.hid (HX4.out.below h4U)
    have HOU := Lib.hid (owns_below HO4.out h4U)
    have HWU := Lib.hid (HW4.out.trans (h4U.mono HW4.out.size))
    have HwU := Lib.hid (HwW.out.trans (HWU.out.mono HwW.out.size))
    have HNE := Lib.hid hne
    have hsz := HWU.out.size
    have h4W := HW4.out.size
    try rw [hU]
    clear hU hA hC h4V hVU h4U hZ4' z0 z1 zl hne
    refine WpK.begin (S := fun _ => True) (kp := fun _ => true) (f := 8) (up := #[false, false, false, false, false, false, false, false]) (by kernel_rfl) (by kernel_rfl) (by kernel_rfl) ?_
    refine WpK.take (i := 0) (v := ?_) ((toArray_at _ _).trans rfl) (by kernel_rfl) (by kernel_rfl) (by kernel_rfl) (by kernel_rfl) (by kernel_rfl) (fun _ _ _ h => h) (Or.inl ⟨by rfl, ?_⟩) trivial ?_
    rotate_left
    · (intro x hx; go_simp <;> with_reducible rfl)
    simp only [Act.put, puts]
    refine WpK.weaken (S := fun y => Bk y xb 129 (inC (rnR F (allL F))) ∧ Bk y W4.heap.size 139 [.int .i64 kk, .int .i64 kn, .int .i64 kd, .bool false, .bool ks] ∧ Bk y (W4.heap.size + 1) 139 [.int .i64 kk, .int .i64 kn, .int .i64 kd, .bool true, .bool ks]) (kp := (fun i => decide (i < 6))) (fun _ => trivial) _ ?_
    have hS0 := (show Bk U.drew xb 129 (inC (rnR F (allL F))) ∧ Bk U.drew W4.heap.size 139 [.int .i64 kk, .int .i64 kn, .int .i64 kd, .bool false, .bool ks] ∧ Bk U.drew (W4.heap.size + 1) 139 [.int .i64 kk, .int .i64 kn, .int .i64 kd, .bool true, .bool ks] from ⟨HXU.out.drew, HAU.out.drew, HCU.out.drew⟩)
    refine WpK.take (i := 1) (v := ?_) ((toArray_at _ _).trans rfl) (by kernel_rfl) (by kernel_rfl) (by kernel_rfl) (by kernel_rfl) (by kernel_rfl) (fun _ _ _ h => h) (Or.inl ⟨by rfl, ?_⟩) hS0 ?_
    rotate_left
    · (intro x hx; obtain ⟨_, hx2, _⟩ := hx; have q0 := hx2.cell 0; have q1 := hx2.cell 1; have q2 := hx2.cell 2; have q3 := hx2.cell 3; have q4 := hx2.cell 4; have ql := hx2.lt; simp only [List.getElem?_cons_zero, List.getElem?_cons_succ] at q0 q1 q2 q3 q4; go_simp <;> with_reducible rfl)
    try simp only [Act.put, puts]
    refine WpK.take (i := 2) (v := ?_) ((toArray_at _ _).trans rfl) (by kernel_rfl) (by kernel_rfl) (by kernel_rfl) (by kernel_rfl) (by kernel_rfl) (fun _ _ _ h => h) (Or.inl ⟨by rfl, ?_⟩) hS0 ?_
    rotate_left
    · (intro x hx; obtain ⟨_, _, hx2⟩ := hx; have q0 := hx2.cell 0; have q1 := hx2.cell 1; have q2 := hx2.cell 2; have q3 := hx2.cell 3; have q4 := hx2.cell 4; have ql := hx2.lt; simp only [List.getElem?_cons_zero, List.getElem?_cons_succ] at q0 q1 q2 q3 q4; go_simp <;> with_reducible rfl)
    try simp only [Act.put, puts]
    refine WpK.take (i := 5) (v := ?_) ((toArray_at _ _).trans rfl) (by kernel_rfl) (by kernel_rfl) (by kernel_rfl) (by kernel_rfl) (by kernel_rfl) (fun _ _ _ h => h) (Or.inl ⟨by rfl, ?_⟩) hS0 ?_
    rotate_left
    · (intro x hx; obtain ⟨hx1, _⟩ := hx; have q0 := hx1.cell 0; have q1 := hx1.cell 1; have q2 := hx1.cell 2; have q3 := hx1.cell 3; have q4 := hx1.cell 4; have q5 := hx1.cell 5; have q6 := hx1.cell 6; have ql := hx1.lt; simp only [inC, List.getElem?_cons_zero, List.getElem?_cons_succ] at q0 q1 q2 q3 q4 q5 q6; go_simp <;> with_reducible rfl)
    try simp only [Act.put, puts]
    clear hS0
    refine WpK.one (i := 3) (by kernel_rfl) ((toArray_at _ _).trans rfl) ?_
    intro K hK
    have HK := Lib.hid hK
    clear hK
    go_simp
    refine HK.out _ _ (fun _ => ⟨HXU.out.drew.alloc _, HAU.out.drew.alloc _, HCU.out.drew.alloc _⟩) (fun _ => ?_)
    clear HK K
    try simp only [puts]
    refine WpK.one (i := 4) (by kernel_rfl) ((toArray_at _ _).trans rfl) ?_
    intro K hK
    have HK := Lib.hid hK
    clear hK
    have hM : OwnRl (U.drew.alloc (Obj.cells #[.int .i64 kk, .int .i64 kn, .int .i64 kd, .bool false, .bool ks, .int .i64 kk, .int .i64 kn, .int .i64 kd, .bool true, .bool ks] 139)) 0 (.slice (some ⟨U.drew.heap.size, 0, none⟩) 2 2) [(⟨kk, kn, kd, ks⟩, false), (⟨kk, kn, kd, ks⟩, true)] := own_bk (n := 2) (k := 5) (Bk.new U.drew _ [_, _, _, _, _, _, _, _, _, _]) (Nat.zero_le _) (by simp) (by unfold maxLen; omega)
    refine step_rl rfl (.tmp 53) (.tmp 56) rfl W.heap.size _ (linesL F (allL F)) [(⟨kk, kn, kd, ks⟩, false), (⟨kk, kn, kd, ks⟩, true)] rfl (owns_below HOU.out ((Below.drew (Below.refl _ _)).alloc (Nat.le_refl _) _)) 0 _ rfl hM (by simp) (by simp; omega) (by simp; omega) ?_
    intro g cc q hO3 hP3 hG3 hN3
    have hP4 : Below W.heap.size W q := HWU.out.trans (Below.trans ((Below.drew (Below.refl _ _)).alloc hsz _) hP3)
    have hX3 := (HXU.out.drew.alloc (Obj.cells #[.int .i64 kk, .int .i64 kn, .int .i64 kd, .bool false, .bool ks, .int .i64 kk, .int .i64 kn, .int .i64 kd, .bool true, .bool ks] 139)).grown hG3 HNE.out
    have hA3 := (HAU.out.drew.alloc (Obj.cells #[.int .i64 kk, .int .i64 kn, .int .i64 kd, .bool false, .bool ks, .int .i64 kk, .int .i64 kn, .int .i64 kd, .bool true, .bool ks] 139)).grown hG3 (HsX.out _ (Nat.le_refl _))
    have hC3 := (HCU.out.drew.alloc (Obj.cells #[.int .i64 kk, .int .i64 kn, .int .i64 kd, .bool false, .bool ks, .int .i64 kk, .int .i64 kn, .int .i64 kd, .bool true, .bool ks] 139)).grown hG3 (HsX.out _ (Nat.le_succ _))
    have hG3' := (HGU.out.drew.alloc (Obj.cells #[.int .i64 kk, .int .i64 kn, .int .i64 kd, .bool false, .bool ks, .int .i64 kk, .int .i64 kn, .int .i64 kd, .bool true, .bool ks] 139)).grown hG3 (HsX.out _ (by have := HSV.out; omega))
    have HX3 := Lib.hid hX3
    have HG3 := Lib.hid hG3'
    have HP4 := Lib.hid hP4
    refine HK.out _ _ (fun _ => ⟨hX3, hA3, hC3⟩) (fun _ => ?_)
    clear HK K
    try simp only [puts]
    have hRow := OwnRl.row hO3
    clear hX3 hA3 hC3 hG3' hM hO3 hP3 hG3 hN3
    refine WpK.one (i := 6) (by kernel_rfl) ((toArray_at _ _).trans rfl) ?_
    intro K hK
    have HK := Lib.hid hK
    clear hK
    go_simp
    refine (Left_any (linesL F (allL F) ++ [(⟨kk, kn, kd, ks⟩, false), (⟨kk, kn, kd, ks⟩, true)]) (rnR F (allL F)) _ q hRow HL.out HRR.out).mono ?_
    rw [HSS.out]
    rintro e W5 ⟨rfl, hb5⟩
    refine HK.out _ _ (fun h => absurd h (by decide)) (fun _ => ?_)
    clear HK K
    try simp only [puts]
    refine WpK.one (i := 7) (by kernel_rfl) ((toArray_at _ _).trans rfl) ?_
    intro K hK
    have HK := Lib.hid hK
    clear hK
    refine step_st rfl rfl rfl (cs := inC S) rfl (HX3.out.below hb5) (by kernel_rfl) rfl rfl ?_
    intro W6 hk6 hs6
    have HX6 := Lib.hid hk6
    have HG6 := Lib.hid ((HG3.out.below hb5).bes hs6 (by have := HSV.out; omega))
    have hqb := HP4.out.trans (hb5.mono HP4.out.size)
    have hq6 := bes_then hqb hs6 hbk hqb.size
    have HW6 := Lib.hid (HwW.out.trans (hq6.mono HwW.out.size))
    clear hb5 hk6 hs6 hqb hq6 hRow HX3 HG3
    refine HK.out _ _ (fun h => absurd h (by decide)) (fun _ => ?_)
    clear HK K
    try simp only [puts]
    refine WpK.done (by kernel_rfl) ?_
    have hxw : w.heap.size ≤ xb := by have := HBK.out; omega
    have hgx : V.heap.size ≠ xb := by have := HSV.out; omega
    go_wp2_with (first | (refine ld_at rfl (T := 129) rfl rfl HX6.out Tryz.underlying129 rfl (by kernel_rfl) ?_) | (refine ld_at rfl (T := 41) rfl rfl HG6.out Tryz.underlying41 rfl (by kernel_rfl) ?_) | fail)
    refine (Q1.out _).mono ?_
    rintro e W7 ⟨rfl, hb⟩
    have HX7 := Lib.hid (HX6.out.below hb)
    have HG7 := Lib.hid (HG6.out.below hb)
    have HW7 := Lib.hid (bthen HW6.out hb)
    clear hb
    go_wp2_with (first | (refine st_at rfl (T := 129) rfl rfl (cs := inC S1) rfl HX7.out (by kernel_rfl) rfl rfl ?_; intro W8 hk8 hs8; have HX8 := Lib.hid hk8; have HG8 := Lib.hid (HG7.out.bes hs8 hgx)) | (refine ld_at rfl (T := 129) rfl rfl HX8.out Tryz.underlying129 rfl (by kernel_rfl) ?_) | (refine ld_at rfl (T := 41) rfl rfl HG8.out Tryz.underlying41 rfl (by kernel_rfl) ?_) | fail)
    have HW8 := Lib.hid (bes_then HW7.out hs8 hxw HW7.out.size)
    clear hk8 hs8 HX7 HG7
    refine (Q2.out _).mono ?_
    rintro e W9 ⟨rfl, hb⟩
    have HX9 := Lib.hid (HX8.out.below hb)
    have HG9 := Lib.hid (HG8.out.below hb)
    have HW9 := Lib.hid (bthen HW8.out hb)
    clear hb
    go_wp2_with (first | (refine st_at rfl (T := 129) rfl rfl (cs := inC S2) rfl HX9.out (by kernel_rfl) rfl rfl ?_; intro W10 hk10 hs10; have HX10 := Lib.hid hk10; have HG10 := Lib.hid (HG9.out.bes hs10 hgx)) | (refine ld_at rfl (T := 129) rfl rfl HX10.out Tryz.underlying129 rfl (by kernel_rfl) ?_) | (refine ld_at rfl (T := 41) rfl rfl HG10.out Tryz.underlying41 rfl (by kernel_rfl) ?_) | fail)
    have HW10 := Lib.hid (bes_then HW9.out hs10 hxw HW9.out.size)
    clear hk10 hs10 HX9 HG9
    refine (Q3.out _).mono ?_
    rintro e W11 ⟨rfl, hb⟩
    have HW11 := Lib.hid (bthen HW10.out hb)
    clear hb
    cases R
    · go_wp2_with fail
      go_ret
      exact ⟨rfl, HW11.out⟩
    · go_wp2_with fail
      go_ret
      exact ⟨rfl, HW11.out⟩
theorem rCheckCase_any (F : Fl) (vv vs : Value) (N D n : Int) (w : World) (hF : FlIn w F vv vs) :
    Calls Tryz.prog 61 #[flV F vv vs, .agg #[.int .i64 N, .int .i64 D], .int .i64 n] w fun e w' => e = .returned (.int .i64 (ccV F N D n)) ∧ Below w.heap.size w w' := by
  cases ho : okFl F with
  | false => exact rCC_no F vv vs N D n w hF (.inl ho)
  | true =>
    cases hr : ccR F N D n with
    | false => exact rCC_no F vv vs N D n w hF (.inr hr)
    | true => exact rCC_yes F vv vs N D n w hF ho hr
end Go.Proofs.YtnfndiafabhhdaaGreat
