/- Walk of the reference's Without (Wear). -/
import Derived.Test.YtnfndiafabhhdaaGreatG7
import Derived.Test.YtnfndiafabhhdaaGreatE9
import Derived.Test.YtnfndiafabhhdaaGreatH2
import Derived.Test.YtnfndiafabhhdaaGreatF1
namespace Go.Proofs.YtnfndiafabhhdaaGreat
open Go.ChangeShapes Go.WideShapes Go.ChangeAt Go.RowKit
def woS (s : List Sn) (i k : Nat) : List Sn := (s.take k).eraseIdx i
theorem woS_step {s : List Sn} {i k : Nat} (hk : k < s.length) : woS s i (k + 1) = woS s i k ++ (if k = i then [] else [snA s k]) := by
  have e : s.take (k + 1) = s.take k ++ [snA s k] := by
    unfold snA
    rw [List.take_add_one, List.getElem?_eq_getElem hk]
    rfl
  have hlen : (s.take k).length = k := by rw [List.length_take]; omega
  unfold woS
  rw [e]
  obtain ⟨A, hA⟩ : ∃ A, s.take k = A := ⟨_, rfl⟩
  rw [hA] at hlen ⊢
  rcases Nat.lt_trichotomy k i with c | c | c
  · rw [if_neg (by omega), List.eraseIdx_of_length_le (by simp; omega), List.eraseIdx_of_length_le (by omega)]
  · subst c
    rw [if_pos rfl, List.eraseIdx_append_of_length_le (by omega), List.eraseIdx_of_length_le (show A.length ≤ k by omega), hlen, Nat.sub_self]
    rfl
  · rw [if_neg (by omega), List.eraseIdx_append_of_lt_length (by omega)]
theorem woS_full (s : List Sn) (i : Nat) : woS s i s.length = s.eraseIdx i := by unfold woS; rw [List.take_length]
theorem woS_len (s : List Sn) (i k : Nat) : (woS s i k).length ≤ s.length := by
  unfold woS
  exact Nat.le_trans (List.length_eraseIdx_le _ _) (by rw [List.length_take]; exact Nat.min_le_right _ _)
theorem sn_cells (L : List Sn) (x : Sn) : cellsL (snF (L ++ [x])) 4 (L.length + 1) = cellsL (snF L) 4 L.length ++ [.int .i64 x.lo, .int .i64 x.hi, .int .i64 x.k.lv, .int .i64 x.k.er] := by
  rw [cellsL, cellsL_congr (g := snF L)]
  · have : snA (L ++ [x]) L.length = x := by simp [snA]
    simp [List.range_succ, snF, this]
  · intro i j hi _
    have : snA (L ++ [x]) i = snA L i := by simp [snA, List.getElem?_append_left hi]
    simp only [snF, this]
set_option maxRecDepth 100000 in
set_option maxHeartbeats 4000000 in
theorem rWithout_no (F : Fl) (vv vs : Value) (n : Int) (w : World) (hF : FlIn w F vv vs) (h0 : okFl F = false ∨ inB n 0 ((F.s.length : Int) - 1) = false) :
    Calls Tryz.prog 54 #[flV F vv vs, .int .i64 n] w fun e w' => e = .returned (.tuple #[.agg flZ.toArray, .int .i64 (if okFl F then 1 else 30)]) ∧ Below w.heap.size w w' := by
  have HF0 := Lib.hid ((hF.alloc (flO F vv vs)).alloc (Obj.cells #[.slice none 0 0, .int .i64 0, .int .i64 0, .int .i64 0, .int .i64 0, .slice none 0 0] 30))
  have HB := Lib.hid ((Bk.new w 30 (flL' F vv vs)).alloc (Obj.cells #[.slice none 0 0, .int .i64 0, .int .i64 0, .int .i64 0, .int .i64 0, .slice none 0 0] 30))
  have HZ := Lib.hid (Bk.new1 w (flO F vv vs) 30 flZ)
  cases ho : okFl F with
  | false =>
    have HC := Lib.hid (show chkF F = 30 by unfold chkF; rw [if_neg (by rw [ho]; decide)])
    clear ho hF h0
    go_enter Tryz.func54, Tryz.ntmps54
    go_wp2_with (first | (refine ld_at rfl (T := 30) rfl rfl HB.out Tryz.underlying30 rfl (by kernel_rfl) ?_) | fail)
    refine (rCheck_any F _ _ _ HF0.out).mono ?_
    rw [HC.out]
    rintro e w1 ⟨rfl, hb⟩
    have HB1 := Lib.hid (HB.out.below hb)
    have HZ1 := Lib.hid (HZ.out.below hb)
    have HW1 := Lib.hid (bafter (bafter hb))
    have HF1 := Lib.hid (HF0.out.below hb)
    have c5 := HB1.out.cell 5
    have cl := HB1.out.lt
    simp only [flL', List.getElem?_cons_zero, List.getElem?_cons_succ] at c5
    clear hb
    go_wp2_with (refine st_at rfl (T := 30) rfl rfl (cs := flZ) rfl HZ1.out (by kernel_rfl) rfl rfl ?_; intro wk hkk hsk)
    refine bodyPost_ret (ret_cell_tmp rfl _ _ rfl hkk Tryz.underlying30 rfl (by kernel_rfl)) rfl ⟨rfl, ?_⟩
    exact bes_then HW1.out hsk (by omega) HW1.out.size
  | true =>
    have HC := Lib.hid (show chkF F = 0 by unfold chkF; rw [if_pos ho])
    have h1 : inB n 0 ((F.s.length : Int) - 1) = false := by
      rcases h0 with h | h
      · rw [ho] at h; cases h
      · exact h
    obtain ⟨os, cs, rfl, ms⟩ := hF.s.parts
    obtain ⟨ls, hls⟩ : ∃ n, F.s.length = n := ⟨_, rfl⟩
    rw [hls] at h1 ms HF0 HB HZ ⊢
    have hn : n < 0 ∨ (ls : Int) ≤ n := by
      rcases Int.lt_or_le n 0 with h | h
      · exact .inl h
      · right
        rcases Int.lt_or_le n ls with h2 | h2
        · rw [show inB n 0 ((ls : Int) - 1) = true by simp [inB]; omega] at h1; cases h1
        · exact h2
    clear ho hF h0 hls h1
    by_cases hn1 : n < 0
    · clear hn
      go_enter Tryz.func54, Tryz.ntmps54
      go_wp2_with (first | (refine ld_at rfl (T := 30) rfl rfl HB.out Tryz.underlying30 rfl (by kernel_rfl) ?_) | fail)
      refine (rCheck_any F _ _ _ HF0.out).mono ?_
      rw [HC.out]
      rintro e w1 ⟨rfl, hb⟩
      have HB1 := Lib.hid (HB.out.below hb)
      have HZ1 := Lib.hid (HZ.out.below hb)
      have HW1 := Lib.hid (bafter (bafter hb))
      have HF1 := Lib.hid (HF0.out.below hb)
      have c5 := HB1.out.cell 5
      have cl := HB1.out.lt
      simp only [flL', List.getElem?_cons_zero, List.getElem?_cons_succ] at c5
      clear hb
      go_wp2_with (refine st_at rfl (T := 30) rfl rfl (cs := flZ) rfl HZ1.out (by kernel_rfl) rfl rfl ?_; intro wk hkk hsk)
      refine bodyPost_ret (ret_cell_tmp rfl _ _ rfl hkk Tryz.underlying30 rfl (by kernel_rfl)) rfl ⟨rfl, ?_⟩
      exact bes_then HW1.out hsk (by omega) HW1.out.size
    · have hn2 : (ls : Int) ≤ n := by omega
      clear hn
      go_enter Tryz.func54, Tryz.ntmps54
      go_wp2_with (first | (refine ld_at rfl (T := 30) rfl rfl HB.out Tryz.underlying30 rfl (by kernel_rfl) ?_) | fail)
      refine (rCheck_any F _ _ _ HF0.out).mono ?_
      rw [HC.out]
      rintro e w1 ⟨rfl, hb⟩
      have HB1 := Lib.hid (HB.out.below hb)
      have HZ1 := Lib.hid (HZ.out.below hb)
      have HW1 := Lib.hid (bafter (bafter hb))
      have HF1 := Lib.hid (HF0.out.below hb)
      have c5 := HB1.out.cell 5
      have cl := HB1.out.lt
      simp only [flL', List.getElem?_cons_zero, List.getElem?_cons_succ] at c5
      clear hb
      go_wp2_with (refine st_at rfl (T := 30) rfl rfl (cs := flZ) rfl HZ1.out (by kernel_rfl) rfl rfl ?_; intro wk hkk hsk)
      refine bodyPost_ret (ret_cell_tmp rfl _ _ rfl hkk Tryz.underlying30 rfl (by kernel_rfl)) rfl ⟨rfl, ?_⟩
      exact bes_then HW1.out hsk (by omega) HW1.out.size
set_option maxRecDepth 100000 in
set_option maxHeartbeats 4000000 in
theorem rWithout_yes (F : Fl) (vv vs : Value) (i : Nat) (w : World) (hF : FlIn w F vv vs) (ho : okFl F = true) (hi : i < F.s.length) :
    Calls Tryz.prog 54 #[flV F vv vs, .int .i64 (i : Int)] w fun e w' => (∃ vv' vs', e = .returned (.tuple #[flV (woF F i) vv' vs', .int .i64 0]) ∧ FlIn w' (woF F i) vv' vs') ∧ Below w.heap.size w w' := by
  have HF0 := Lib.hid ((hF.alloc (flO F vv vs)).alloc (Obj.cells #[.slice none 0 0, .int .i64 0, .int .i64 0, .int .i64 0, .int .i64 0, .slice none 0 0] 30))
  have HB := Lib.hid ((Bk.new w 30 (flL' F vv vs)).alloc (Obj.cells #[.slice none 0 0, .int .i64 0, .int .i64 0, .int .i64 0, .int .i64 0, .slice none 0 0] 30))
  have HZ := Lib.hid (Bk.new1 w (flO F vv vs) 30 flZ)
  have HC := Lib.hid (show chkF F = 0 by unfold chkF; rw [if_pos ho])
  have hO := (okFl_iff F).1 ho
  have hn24 := hO.n
  have hv24 : 1 ≤ F.v.length ∧ F.v.length ≤ 24 := by have := hO.v; simp only [okVs, Bool.and_eq_true, decide_eq_true_eq] at this; exact this.1
  obtain ⟨os, cs, rfl, ms⟩ := hF.s.parts
  obtain ⟨ov, cv, rfl, mv⟩ := hF.v.parts
  obtain ⟨bv, ofv, rfl, hbv, _⟩ := hF.v.cells (by have := hv24.1; omega)
  obtain ⟨ls, hls⟩ : ∃ n, F.s.length = n := ⟨_, rfl⟩
  obtain ⟨lv, hlv⟩ : ∃ n, F.v.length = n := ⟨_, rfl⟩
  have HSL := Lib.hid hls
  have HVL := Lib.hid hlv
  rw [hls] at ms hi hn24 HF0 HB HZ ⊢
  rw [hlv] at hv24 HF0 HB HZ ⊢
  obtain ⟨i0, z, hi0, hz0, hz1, hz2, hz3⟩ := ring_el
  clear ho hF hls hlv hO
  go_enter Tryz.func54, Tryz.ntmps54
  go_wp2_with (first | (refine ld_at rfl (T := 30) rfl rfl HB.out Tryz.underlying30 rfl (by kernel_rfl) ?_) | fail)
  refine (rCheck_any F _ _ _ HF0.out).mono ?_
  rw [HC.out]
  rintro e w1 ⟨rfl, hb⟩
  have HB1 := Lib.hid (HB.out.below hb)
  have HZ1 := Lib.hid (HZ.out.below hb)
  have HW1 := Lib.hid (bafter (bafter hb))
  have HF1 := Lib.hid (HF0.out.below hb)
  have c5 := HB1.out.cell 5
  have cl := HB1.out.lt
  simp only [flL', List.getElem?_cons_zero, List.getElem?_cons_succ] at c5
  clear hb
  have c0 := HB1.out.cell 0
  have c1 := HB1.out.cell 1
  have c2 := HB1.out.cell 2
  have c3 := HB1.out.cell 3
  have c4 := HB1.out.cell 4
  simp only [flL', List.getElem?_cons_zero, List.getElem?_cons_succ] at c0 c1 c2 c3 c4
  have hV1 := (HF1.out.v.alloc (Obj.cells #[.slice none 0 0, .int .i64 F.f.lv, .int .i64 F.f.er, .int .i64 F.wlo, .int .i64 F.whi, .slice none 0 0] 30))
  have HV1 := Lib.hid hV1
  have hO1 := Bk.new w1 30 [.slice none 0 0, .int .i64 F.f.lv, .int .i64 F.f.er, .int .i64 F.wlo, .int .i64 F.whi, .slice none 0 0]
  have HO1 := Lib.hid hO1
  clear hV1 hO1
  have hV2 : Row (w1.alloc (Obj.cells #[.slice none 0 0, .int .i64 F.f.lv, .int .i64 F.f.er, .int .i64 F.wlo, .int .i64 F.whi, .slice none 0 0] 30)) (.slice (some ⟨bv, ofv, none⟩) lv cv) 3 lv (rgF F.v) := by have := HV1.out; unfold RgR at this; rwa [HVL.out] at this
  have hnews := row_news hV2 (by decide)
  have hl3 := cellsL_len (rgF F.v) 3 lv
  have ho3 := one_cells (k := 3) (one_rg F.v) (n := lv)
  have HNW := Lib.hid hnews
  have HL3 := Lib.hid hl3
  have HOC := Lib.hid ho3
  clear hnews hl3 ho3 hV2
  go_wp2_with (with_reducible refine wpList_append_lies _ rfl (.tmp 31) (.tmp 33) 23 rfl (w1.heap.size + 1) 169 i0 z 3 24 Tryz.underlying23 hi0 hz0 hz1 hz2 hz3 (by decide) (.slice none 0 0) 0 [] rfl (World.ownsRow_nil _ _ _ _) ⟨bv, ofv, none⟩ lv _ (cellsL (rgF F.v) 3 lv) rfl HL3.out HNW.out HOC.out ?_ ?_ ?_ ?_ (w1.heap.size + 1) ?_ ?_)
  · omega
  · unfold maxLen; omega
  · omega
  · simp
  · simp
  intro g cap w2 hown2 hg2 hor2 hlt2
  have hP2 : Below (w1.heap.size + 1) (w1.alloc (Obj.cells #[.slice none 0 0, .int .i64 F.f.lv, .int .i64 F.f.er, .int .i64 F.wlo, .int .i64 F.whi, .slice none 0 0] 30)) w2 := (Below.refl _ _).grown hg2 (by simp) (fun j hj => by cases hj)
  have h12 : Below w1.heap.size w1 w2 := (ballo _ _).trans (hP2.mono (Nat.le_succ _))
  have hO2 : Bk w2 w1.heap.size 30 [.slice none 0 0, .int .i64 F.f.lv, .int .i64 F.f.er, .int .i64 F.wlo, .int .i64 F.whi, .slice none 0 0] := (hP2.block _ (Nat.lt_succ_self _)).trans HO1.out
  have hcur : ∃ cur : List Value, Bk w2 g 169 cur ∧ (w1.heap.size + 1 ≤ g) ∧ ∀ wx, Bk wx g 169 cur → wx.ownsRow (w1.heap.size + 1) 169 3 (.slice (some ⟨g, 0, none⟩) lv cap) lv (cellsL (rgF F.v) 3 lv) := by
    rcases hown2.2 with ⟨h1, h2⟩ | ⟨g', cap', cur, e, k1, k2, k3⟩
    · cases h1
    · cases e
      exact ⟨cur.toList, k2, k1, fun wx hx => ⟨hown2.1, .inr ⟨g, cap, cur, rfl, k1, hx, k3⟩⟩⟩
  obtain ⟨cur, hc2, hgw, hcv⟩ := hcur
  have HCV := Lib.hid hcv
  have x0 := hO2.cell 0
  have xf := hO2.frozen 0
  have xl := hO2.lt
  simp only [List.getElem?_cons_zero] at x0
  have hO3 := hO2.set 0 (.slice (some ⟨g, 0, none⟩) lv cap)
  simp only [List.set_cons_zero] at hO3
  have hgo : g ≠ w1.heap.size := by omega
  have hc3 := hc2.far (p := ⟨w1.heap.size, 0, none⟩) hgo (.slice (some ⟨g, 0, none⟩) lv cap)
  have h13 := h12.setCell (p := ⟨w1.heap.size, 0, none⟩) (Nat.le_refl _) (.slice (some ⟨g, 0, none⟩) lv cap)
  obtain ⟨W3, hW3⟩ : ∃ W, w2.setCell ⟨w1.heap.size, 0, none⟩ (.slice (some ⟨g, 0, none⟩) lv cap) = W := ⟨_, rfl⟩
  rw [hW3] at hO3 hc3 h13
  have HO3 := Lib.hid hO3
  have HC3 := Lib.hid hc3
  have H13 := Lib.hid h13
  clear hown2 hg2 hor2 hlt2 hP2 h12 hO2 hc2 hcv hO3 hc3 h13 HO1 HV1 HNW HL3 HOC hi0 hz0 hz1 hz2 hz3
  go_wp2_with fail
  try rw [hW3]
  clear hW3 x0 xf xl c0 c1 c2 c3 c4 c5 cl
  go_loopw [8] (fun t wr => ∃ (k : Nat) (v : Value), k ≤ ls ∧ t = .int .i64 (k : Int) ∧ v.ownBlock ≠ some g ∧ Hid (wr.ownsRow (w1.heap.size + 1) 88 4 v (woS F.s i k).length (cellsL (snF (woS F.s i k)) 4 (woS F.s i k).length)) ∧ Hid (Bk wr w1.heap.size 30 [.slice (some ⟨g, 0, none⟩) lv cap, .int .i64 F.f.lv, .int .i64 F.f.er, .int .i64 F.wlo, .int .i64 F.whi, v]) ∧ Hid (Bk wr g 169 cur) ∧ Hid (Below w1.heap.size w1 wr)) (fun t _ => ls - (intOf t).toNat)
  case atStart => exact ⟨0, .slice none 0 0, Nat.zero_le _, rfl, (by intro e; cases e), Lib.hid (World.ownsRow_nil _ _ _ _), HO3, HC3, H13⟩
  case round =>
    obtain ⟨k, v, hk, rfl, hvg, hOw, hBk, hCu, hBl⟩ := hrel
    have hF := HB1.out.below hBl.out
    have c5 := hF.cell 5
    have cl := hF.lt
    simp only [flL', List.getElem?_cons_zero, List.getElem?_cons_succ] at c5
    have hq5 := hBk.out.cell 5
    have hxl := hBk.out.lt
    simp only [List.getElem?_cons_zero, List.getElem?_cons_succ] at hq5
    clear hF
    by_cases hkl : k < ls
    · have hst := woS_step (s := F.s) (i := i) (k := k) (by rw [HSL.out]; exact hkl)
      by_cases hki : k = i
      · rw [if_pos hki, List.append_nil] at hst
        have HST := Lib.hid hst
        clear hst
        subst hki
        go_wp2_with fail
        exact ⟨⟨k + 1, v, by omega, by go_num, hvg, by rw [HST.out]; exact hOw, hBk, hCu, hBl⟩, by simp [intOf]; omega⟩
      · rw [if_neg hki] at hst
        have HST := Lib.hid hst
        have hne : ((k : Int) == (i : Int)) = false := by simp; omega
        have hFr := HF1.out.s.below hBl.out
        obtain ⟨bs, fs, rfl, hbs, hcs⟩ := hFr.cells (by rw [HSL.out]; omega)
        have d0 := hcs k 0 (by rw [HSL.out]; exact hkl) (by omega)
        have d1 := hcs k 1 (by rw [HSL.out]; exact hkl) (by omega)
        have d2 := hcs k 2 (by rw [HSL.out]; exact hkl) (by omega)
        have d3 := hcs k 3 (by rw [HSL.out]; exact hkl) (by omega)
        simp only [snF, Nat.add_zero] at d0 d1 d2 d3
        obtain ⟨x, hxx⟩ : ∃ x, snA F.s k = x := ⟨_, rfl⟩
        rw [hxx] at d0 d1 d2 d3
        have HXX := Lib.hid hxx
        have HLN := Lib.hid (woS_len F.s i k)
        obtain ⟨L, hL⟩ : ∃ L, woS F.s i k = L := ⟨_, rfl⟩
        have HLL := Lib.hid hL
        rw [hL] at hOw
        clear hst hcs hxx hki hFr hL
        obtain ⟨xa, xb, xc, xd⟩ := x
        simp only at d0 d1 d2 d3
        go_wp2_with fail
        refine WpK.begin (S := fun _ => True) (kp := fun _ => true) (f := 11) (up := #[false, false, false, false, false, false, false, false, false, false, false]) (by kernel_rfl) (by kernel_rfl) (by kernel_rfl) ?_
        refine WpK.take (i := 0) (v := ?_) ((toArray_at _ _).trans rfl) (by kernel_rfl) (by kernel_rfl) (by kernel_rfl) (by kernel_rfl) (by kernel_rfl) (fun _ _ _ h => h) (Or.inl ⟨by rfl, ?_⟩) trivial ?_
        rotate_left
        · (intro x hx; go_simp <;> with_reducible rfl)
        simp only [Act.put, puts]
        refine WpK.take (i := 2) (v := ?_) ((toArray_at _ _).trans rfl) (by kernel_rfl) (by kernel_rfl) (by kernel_rfl) (by kernel_rfl) (by kernel_rfl) (fun _ _ _ h => h) (Or.inl ⟨by rfl, ?_⟩) trivial ?_
        rotate_left
        · (intro x hx; go_simp <;> with_reducible rfl)
        simp only [Act.put, puts]
        refine WpK.take (i := 4) (v := ?_) ((toArray_at _ _).trans rfl) (by kernel_rfl) (by kernel_rfl) (by kernel_rfl) (by kernel_rfl) (by kernel_rfl) (fun _ _ _ h => h) (Or.inl ⟨by rfl, ?_⟩) trivial ?_
        rotate_left
        · (intro x hx; go_simp <;> with_reducible rfl)
        simp only [Act.put, puts]
        refine WpK.weaken (S := fun y => Below wr.heap.size wr y) (kp := (fun i => decide (i < 8))) (fun _ => trivial) _ ?_
        have hS0 := (show Below wr.heap.size wr wr.drew from (Below.refl _ _).drew)
        refine WpK.take (i := 1) (v := ?_) ((toArray_at _ _).trans rfl) (by kernel_rfl) (by kernel_rfl) (by kernel_rfl) (by kernel_rfl) (by kernel_rfl) (fun _ _ _ h => h) (Or.inl ⟨by rfl, ?_⟩) hS0 ?_
        rotate_left
        · (intro x hx; obtain ⟨hcx, hfx⟩ := bcell hx; go_simp <;> with_reducible rfl)
        try simp only [Act.put, puts]
        refine WpK.take (i := 3) (v := ?_) ((toArray_at _ _).trans rfl) (by kernel_rfl) (by kernel_rfl) (by kernel_rfl) (by kernel_rfl) (by kernel_rfl) (fun _ _ _ h => h) (Or.inl ⟨by rfl, ?_⟩) hS0 ?_
        rotate_left
        · (intro x hx; obtain ⟨hcx, hfx⟩ := bcell hx; go_simp <;> with_reducible rfl)
        try simp only [Act.put, puts]
        refine WpK.take (i := 5) (v := ?_) ((toArray_at _ _).trans rfl) (by kernel_rfl) (by kernel_rfl) (by kernel_rfl) (by kernel_rfl) (by kernel_rfl) (fun _ _ _ h => h) (Or.inl ⟨by rfl, ?_⟩) hS0 ?_
        rotate_left
        · (intro x hx; obtain ⟨hcx, hfx⟩ := bcell hx; go_simp <;> with_reducible rfl)
        try simp only [Act.put, puts]
        refine WpK.take (i := 6) (v := ?_) ((toArray_at _ _).trans rfl) (by kernel_rfl) (by kernel_rfl) (by kernel_rfl) (by kernel_rfl) (by kernel_rfl) (fun _ _ _ h => h) (Or.inl ⟨by rfl, ?_⟩) hS0 ?_
        rotate_left
        · (intro x hx; obtain ⟨hcx, hfx⟩ := bcell hx; go_simp <;> with_reducible rfl)
        try simp only [Act.put, puts]
        clear hS0
        have hszr := hBl.out.size
        have hgl := hCu.out.lt
        refine WpK.one (i := 7) (by kernel_rfl) ((toArray_at _ _).trans rfl) ?_
        intro K hK
        have HK := Lib.hid hK
        clear hK
        go_simp
        refine HK.out _ _ (fun _ => (Below.drew (Below.refl _ _)).alloc (Nat.le_refl _) _) (fun _ => ?_)
        clear HK K
        try simp only [puts]
        refine WpK.one (i := 8) (by kernel_rfl) ((toArray_at _ _).trans rfl) ?_
        intro K hK
        have HK := Lib.hid hK
        clear hK
        refine step_own Tryz.underlying28 seen_el (by decide) (by decide) rfl (.tmp 47) (.tmp 53) rfl (w1.heap.size + 1) v L.length (cellsL (snF L) 4 L.length) rfl (owns_below hOw.out ((Below.drew (Below.refl _ _)).alloc (Nat.le_refl _) _)) ⟨wr.drew.heap.size, 0, none⟩ _ [.int .i64 xa, .int .i64 xb, .int .i64 xc, .int .i64 xd] rfl rfl (news_bk (Bk.new _ _ [_, _, _, _])) ?_ ?_ ?_ ?_
        · intro u hu; simp at hu; rcases hu with rfl | rfl | rfl | rfl <;> rfl
        · have := HLN.out; rw [HLL.out, HSL.out] at this; omega
        · simp; omega
        intro g2 c2 q hO4 hP4 hG4 hN4
        have hw4 : Below (w1.heap.size + 1) wr q := ((Below.drew (Below.refl _ _)).alloc (by simp; omega) _).trans hP4
        have hK4 := (hw4.block w1.heap.size (Nat.lt_succ_self _)).trans hBk.out
        have hK4 : Bk q w1.heap.size 30 _ := hK4
        have hC4 := (hCu.out.drew.alloc (Obj.cells #[.int .i64 xa, .int .i64 xb, .int .i64 xc, .int .i64 xd] 88)).grown hG4 hvg
        have hg2g : g2 ≠ g := by
          rcases hN4 with h | h
          · intro e; rw [e] at h; exact hvg h
          · intro e; rw [e] at h; simp at h; omega
        refine HK.out _ _ (fun h => absurd h (by decide)) (fun _ => ?_)
        clear HK K
        try simp only [puts]
        have cq := hK4.cell 5
        have fq := hK4.frozen 5
        have lq := hK4.lt
        simp only [List.getElem?_cons_zero, List.getElem?_cons_succ] at cq
        refine WpK.one (i := 9) (by kernel_rfl) ((toArray_at _ _).trans rfl) ?_
        intro K hK
        have HK := Lib.hid hK
        clear hK
        go_simp
        refine HK.out _ _ (fun h => absurd h (by decide)) (fun _ => ?_)
        clear HK K
        try simp only [puts]
        refine WpK.one (i := 10) (by kernel_rfl) ((toArray_at _ _).trans rfl) ?_
        intro K hK
        have HK := Lib.hid hK
        clear hK
        go_simp
        refine HK.out _ _ (fun h => absurd h (by decide)) (fun _ => ?_)
        clear HK K
        try simp only [puts]
        refine WpK.done (by kernel_rfl) ?_
        have hK5 := hK4.set 5 (.slice (some ⟨g2, 0, none⟩) (L.length + 1) c2)
        simp only [List.set_cons_zero, List.set_cons_succ] at hK5
        have hgo2 : g ≠ w1.heap.size := hgo
        have hC5 := hC4.far (p := ⟨w1.heap.size, 5, none⟩) hgo2 (.slice (some ⟨g2, 0, none⟩) (L.length + 1) c2)
        have hB5 := (hBl.out.trans (hw4.mono (Nat.le_succ _))).setCell (p := ⟨w1.heap.size, 5, none⟩) (Nat.le_refl _) (.slice (some ⟨g2, 0, none⟩) (L.length + 1) c2)
        have hO5 := OwnR.setCell (f := snF (L ++ [⟨xa, xb, ⟨xc, xd⟩⟩])) (b := w1.heap.size) (j := 5) (n := L.length + 1) (k := 4) (by unfold OwnR; rw [sn_cells]; exact hO4) (by omega) (.slice (some ⟨g2, 0, none⟩) (L.length + 1) c2)
        unfold OwnR at hO5
        clear cq fq lq hK4 hC4 hw4 hO4 hP4 hG4
        go_wp2_with fail
        refine ⟨⟨k + 1, _, by omega, by go_num, (by intro e; cases e; exact hg2g rfl), Lib.hid ?_, Lib.hid hK5, Lib.hid hC5, Lib.hid hB5⟩, by simp [intOf]; omega⟩
        rw [HST.out, HLL.out, HXX.out, List.length_append]
        exact hO5
    · obtain rfl : k = ls := by omega
      have hfull : woS F.s i k = F.s.eraseIdx i := by rw [← HSL.out, woS_full]
      rw [hfull] at hOw
      have HCC := Lib.hid (HCV.out wr hCu.out)
      have hrw : Row wr v 4 (F.s.eraseIdx i).length (snF (F.s.eraseIdx i)) := OwnR.row (show OwnR wr (w1.heap.size + 1) 88 4 v _ (snF (F.s.eraseIdx i)) from hOw.out)
      obtain ⟨x4, n4, rfl, _⟩ := hrw.parts
      clear hrw
      have hZr := HZ1.out.below hBl.out
      have HZr := Lib.hid hZr
      have HWr := Lib.hid (HW1.out.trans (hBl.out.mono HW1.out.size))
      have hbl := HZ1.out.lt
      have HFU := Lib.hid hfull
      clear hfull hZr
      go_wp2_with (first | (refine ld_at rfl (T := 30) rfl rfl hBk.out Tryz.underlying30 rfl (by kernel_rfl) ?_) | (refine st_at rfl (T := 30) rfl rfl (cs := [.slice (some ⟨g, 0, none⟩) lv cap, .int .i64 F.f.lv, .int .i64 F.f.er, .int .i64 F.wlo, .int .i64 F.whi, .slice x4 (F.s.eraseIdx i).length n4]) rfl HZr.out (by kernel_rfl) rfl rfl ?_; intro wk hkk hsk) | fail)
      refine bodyPost_ret (ret_cell_tmp rfl _ _ rfl hkk Tryz.underlying30 rfl (by kernel_rfl)) rfl ⟨⟨_, _, rfl, FlOwn.in_ (B := w1.heap.size + 1) ⟨?_, ?_⟩⟩, ?_⟩
      · have h := owns_bes HCC.out hsk (by omega)
        unfold OwnR
        show wk.ownsRow _ _ 3 _ F.v.length (cellsL (rgF F.v) 3 F.v.length)
        rw [HVL.out]
        exact h
      · exact owns_bes hOw.out hsk (by omega)
      · exact bes_then HWr.out hsk (by omega) HWr.out.size
set_option maxRecDepth 100000 in
set_option maxHeartbeats 4000000 in
theorem rRests_any (F : Fl) (vv vs : Value) (w : World) (hF : FlIn w F vv vs) : Calls Tryz.prog 56 #[flV F vv vs] w fun e w' => RePost F w.heap.size e w' ∧ Below w.heap.size w w' := by
  have hO := rBounds_any F vv vs _ (hF.alloc (flO F vv vs))
  have HF := Lib.hid hF
  have B1 := Lib.hid (Bk.new w 30 [vv, .int .i64 F.f.lv, .int .i64 F.f.er, .int .i64 F.wlo, .int .i64 F.whi, vs])
  obtain ⟨os, cs, rfl, ms⟩ := hF.s.parts
  obtain ⟨ov, cv, rfl, mv⟩ := hF.v.parts
  rw [boV_Q] at hO
  have hbd := rdE_bd F true
  by_cases h0 : rdE F true = 0
  · have hok := rdE_ok h0
    have n24 := hok.n
    have hv24 : F.v.length ≤ 24 := by have := hok.v; simp only [okVs, Bool.and_eq_true, decide_eq_true_eq] at this; exact this.1.2
    rw [h0] at hO
    have H0 := Lib.hid h0
    obtain ⟨q, hq⟩ : ∃ q, boQ F = q := ⟨_, rfl⟩
    obtain ⟨l1, l2, l3, l4⟩ := q
    rw [hq] at hO
    have HQ1 := Lib.hid hq
    have HO := Lib.hid hO
    have HOK := Lib.hid hok
    clear hO hF hok hq h0 hbd
    go_enter Tryz.func56, Tryz.ntmps56
    go_wp2_with fail
    refine HO.out.mono ?_
    rintro e w1 ⟨rfl, hb1⟩
    have hbw := bafter hb1
    have h1 := B1.out.below hb1
    obtain ⟨W, hWW⟩ : ∃ W, (w1.alloc (Obj.cells #[.int .i64 l1, .int .i64 l2] 41)).alloc (Obj.cells #[.int .i64 l3, .int .i64 l4] 41) = W := ⟨_, rfl⟩
    have h1W : Below w1.heap.size w1 W := by rw [← hWW]; exact (ballo _ _).alloc (by simp) _
    have hr1 : Bk W w1.heap.size 41 [.int .i64 l1, .int .i64 l2] := by rw [← hWW]; exact (Bk.new w1 _ [_, _]).alloc _
    have hr2 : Bk W (w1.heap.size + 1) 41 [.int .i64 l3, .int .i64 l4] := by rw [← hWW]; exact Bk.new1 w1 _ _ [_, _]
    have c0 := (h1.below h1W).cell 5
    have c1 := (h1.below h1W).lt
    simp only [List.getElem?_cons_zero, List.getElem?_cons_succ] at c0
    have HBW := Lib.hid (bthen hbw h1W)
    have HR1 := Lib.hid hr1
    have HR2 := Lib.hid hr2
    have HB1 := Lib.hid (h1.below h1W)
    have d5 := h1.cell 5
    have d6 := h1.lt
    simp only [List.getElem?_cons_zero, List.getElem?_cons_succ] at d5
    obtain ⟨L, hL⟩ : ∃ k, F.s.length = k := ⟨_, rfl⟩
    have HL := Lib.hid hL
    rw [hL] at c0 n24 d5
    clear hb1 hbw h1 h1W hr1 hr2 HO B1 hL d5
    go_wp2_with fail
    try rw [hWW]
    clear hWW
    go_loopw [7, 8] (fun v i wr => ∃ k : Nat, k ≤ L ∧ i = .int .i64 (k : Int) ∧ Below W.heap.size W wr ∧ Hid (wr.ownsRow W.heap.size 3 1 v (reL F k).length ((reL F k).map (Value.int .i64)))) (fun _ i _ => L - (intOf i).toNat)
    case atStart => exact ⟨0, Nat.zero_le _, rfl, Below.refl _ _, World.ownsRow_nil _ _ _ _⟩
    case round =>
      obtain ⟨k, hk, rfl, hbl, hown⟩ := hrel
      have hszr := hbl.size
      have c5 := (HB1.out.below hbl).cell 5
      have cl5 := (HB1.out.below hbl).lt
      simp only [List.getElem?_cons_zero, List.getElem?_cons_succ] at c5
      rw [HL.out] at c5
      by_cases hkL : k < L
      · have hbf := HB1.out.below hbl
        have hFr := HF.out.below (HBW.out.trans (hbl.mono HBW.out.size))
        have HW := Lib.hid (rWithout_yes F _ _ k wr hFr ((okFl_iff F).2 HOK.out) (by rw [HL.out]; exact hkL))
        have HBF := Lib.hid hbf
        have HBL := Lib.hid hbl
        have HOWN := Lib.hid hown.out
        clear hbf hFr hbl hown
        go_wp2_with (first | (refine ld_at rfl (T := 30) rfl rfl HBF.out Tryz.underlying30 rfl (by kernel_rfl) ?_) | fail)
        refine HW.out.mono ?_
        rintro e w2 ⟨⟨vv', vs', rfl, hin2⟩, hb2'⟩
        have hb2 := hb2'.alloc hb2'.size (flO (woF F k) vv' vs')
        have hO := rBounds_any (woF F k) vv' vs' _ (hin2.alloc (flO (woF F k) vv' vs'))
        rw [boV_Q] at hO
        obtain ⟨er, her⟩ : ∃ x, rdE (woF F k) true = x := ⟨_, rfl⟩
        rw [her] at hO
        obtain ⟨q, hq⟩ : ∃ q, boQ (woF F k) = q := ⟨_, rfl⟩
        obtain ⟨a1, a2, a3, a4⟩ := q
        rw [hq] at hO
        have HQ2 := Lib.hid hq
        have HO := Lib.hid hO
        have HB2 := Lib.hid hb2
        obtain ⟨x1, n1', hx1, _⟩ := hin2.v.parts
        obtain ⟨x4, n4, hx4, _⟩ := hin2.s.parts
        subst hx1 hx4
        clear hO hq her hb2 hb2' hin2
        go_wp2_with fail
        refine HO.out.mono ?_
        rintro e w3 ⟨rfl, hb3⟩
        have hb23 := bthen HB2.out hb3
        have HOWN3 := owns_below HOWN.out hb23
        have hz3 := hb23.size
        obtain ⟨w5, hw5⟩ : ∃ V, (w3.alloc (Obj.cells #[.int .i64 a1, .int .i64 a2] 41)).alloc (Obj.cells #[.int .i64 a3, .int .i64 a4] 41) = V := ⟨_, rfl⟩
        have h35 : Below w3.heap.size w3 w5 := by rw [← hw5]; exact (ballo _ _).alloc (by simp) _
        have hp1 : Bk w5 w3.heap.size 41 [.int .i64 a1, .int .i64 a2] := by rw [← hw5]; exact (Bk.new w3 _ [_, _]).alloc _
        have hp2 : Bk w5 (w3.heap.size + 1) 41 [.int .i64 a3, .int .i64 a4] := by rw [← hw5]; exact Bk.new1 w3 _ _ [_, _]
        have HOWN5 := Lib.hid (owns_below HOWN3 h35)
        have hb5 := HBL.out.trans ((bthen hb23 h35).mono hszr)
        have hb53 := HBL.out.trans (hb23.mono hszr)
        have r1 := HR1.out.below hb53
        have r2 := HR2.out.below hb53
        have z1 := r1.cell 0
        have z2 := r1.cell 1
        have z3 := r2.cell 0
        have z4 := r2.cell 1
        have z5 := r1.lt
        have z6 := r2.lt
        simp only [List.getElem?_cons_zero, List.getElem?_cons_succ] at z1 z2 z3 z4
        have HB5 := Lib.hid hb5
        have hz5 := hb5.size
        clear hb23 hb3 h35 hp1 hp2 hb5 hb53 r1 r2 HOWN3 HOWN HO HW HBF
        subst hw5
        by_cases e1 : a1 = l1
        · have q1 : (l1 == a1) = true := by simp [e1]
          by_cases e2 : a2 = l2
          · have q2 : (l2 == a2) = true := by simp [e2]
            by_cases e3 : a3 = l3
            · have q3 : (l3 == a3) = true := by simp [e3]
              by_cases e4 : a4 = l4
              · have HRE := Lib.hid (reL_f (show reB F k = false by unfold reB; rw [HQ1.out, HQ2.out]; simp [e1, e2, e3, e4]))
                have q4 : (l4 == a4) = true := by simp [e4]
                clear e1 e2 e3 e4
                go_wp2_with fail
                refine ⟨⟨k + 1, by omega, by go_num, HB5.out, ?_⟩, by simp [intOf]; omega⟩
                refine Lib.hid ?_
                rw [HRE.out]
                exact HOWN5.out
              · have q4 : (l4 == a4) = false := by simp [Ne.symm e4]
                have HRE := Lib.hid (reL_t (show reB F k = true by unfold reB; rw [HQ1.out, HQ2.out]; simp [e4]))
                have HLEN := Lib.hid (reL_len F k)
                have HE := Lib.hid e4
                have hk3 := Bk.new ((w3.alloc (Obj.cells #[.int .i64 a1, .int .i64 a2] 41)).alloc (Obj.cells #[.int .i64 a3, .int .i64 a4] 41)) 3 [.int .i64 (k : Int)]
                rw [show ((w3.alloc (Obj.cells #[.int .i64 a1, .int .i64 a2] 41)).alloc (Obj.cells #[.int .i64 a3, .int .i64 a4] 41)).heap.size = w3.heap.size + 2 from by simp] at hk3
                have HK3 := Lib.hid hk3
                clear hk3
                clear e4
                try clear e1
                try clear e2
                try clear e3
                go_wp2_with (with_reducible refine list_own Tryz.underlying51 int_el (by decide) (by decide) rfl (.tmp 50) (.tmp 52) rfl W.heap.size _ _ _ rfl (owns_below HOWN5.out (ballo _ _)) ⟨w3.heap.size + 2, 0, none⟩ _ [.int .i64 (k : Int)] rfl rfl (news_bk HK3.out) ?_ ?_ ?_ ?_)
                · intro u hu; simp at hu; subst hu; rfl
                · have := HLEN.out; omega
                · simp; omega
                intro g c w8 hown8 hb8 hg8 hh8
                go_wp2_with fail
                refine ⟨⟨k + 1, by omega, by go_num, HB5.out.trans ((ballo _ _).mono (by omega) |>.trans hb8), ?_⟩, by simp [intOf]; omega⟩
                refine Lib.hid ?_
                rw [HRE.out, List.length_append, List.map_append]
                exact hown8
            · have q3 : (l3 == a3) = false := by simp [Ne.symm e3]
              have HRE := Lib.hid (reL_t (show reB F k = true by unfold reB; rw [HQ1.out, HQ2.out]; simp [e3]))
              have HLEN := Lib.hid (reL_len F k)
              have HE := Lib.hid e3
              have hk3 := Bk.new ((w3.alloc (Obj.cells #[.int .i64 a1, .int .i64 a2] 41)).alloc (Obj.cells #[.int .i64 a3, .int .i64 a4] 41)) 3 [.int .i64 (k : Int)]
              rw [show ((w3.alloc (Obj.cells #[.int .i64 a1, .int .i64 a2] 41)).alloc (Obj.cells #[.int .i64 a3, .int .i64 a4] 41)).heap.size = w3.heap.size + 2 from by simp] at hk3
              have HK3 := Lib.hid hk3
              clear hk3
              clear e3
              try clear e1
              try clear e2
              try clear e3
              go_wp2_with (with_reducible refine list_own Tryz.underlying51 int_el (by decide) (by decide) rfl (.tmp 50) (.tmp 52) rfl W.heap.size _ _ _ rfl (owns_below HOWN5.out (ballo _ _)) ⟨w3.heap.size + 2, 0, none⟩ _ [.int .i64 (k : Int)] rfl rfl (news_bk HK3.out) ?_ ?_ ?_ ?_)
              · intro u hu; simp at hu; subst hu; rfl
              · have := HLEN.out; omega
              · simp; omega
              intro g c w8 hown8 hb8 hg8 hh8
              go_wp2_with fail
              refine ⟨⟨k + 1, by omega, by go_num, HB5.out.trans ((ballo _ _).mono (by omega) |>.trans hb8), ?_⟩, by simp [intOf]; omega⟩
              refine Lib.hid ?_
              rw [HRE.out, List.length_append, List.map_append]
              exact hown8
          · have q2 : (l2 == a2) = false := by simp [Ne.symm e2]
            have HRE := Lib.hid (reL_t (show reB F k = true by unfold reB; rw [HQ1.out, HQ2.out]; simp [e2]))
            have HLEN := Lib.hid (reL_len F k)
            have HE := Lib.hid e2
            have hk3 := Bk.new ((w3.alloc (Obj.cells #[.int .i64 a1, .int .i64 a2] 41)).alloc (Obj.cells #[.int .i64 a3, .int .i64 a4] 41)) 3 [.int .i64 (k : Int)]
            rw [show ((w3.alloc (Obj.cells #[.int .i64 a1, .int .i64 a2] 41)).alloc (Obj.cells #[.int .i64 a3, .int .i64 a4] 41)).heap.size = w3.heap.size + 2 from by simp] at hk3
            have HK3 := Lib.hid hk3
            clear hk3
            clear e2
            try clear e1
            try clear e2
            try clear e3
            go_wp2_with (with_reducible refine list_own Tryz.underlying51 int_el (by decide) (by decide) rfl (.tmp 50) (.tmp 52) rfl W.heap.size _ _ _ rfl (owns_below HOWN5.out (ballo _ _)) ⟨w3.heap.size + 2, 0, none⟩ _ [.int .i64 (k : Int)] rfl rfl (news_bk HK3.out) ?_ ?_ ?_ ?_)
            · intro u hu; simp at hu; subst hu; rfl
            · have := HLEN.out; omega
            · simp; omega
            intro g c w8 hown8 hb8 hg8 hh8
            go_wp2_with fail
            refine ⟨⟨k + 1, by omega, by go_num, HB5.out.trans ((ballo _ _).mono (by omega) |>.trans hb8), ?_⟩, by simp [intOf]; omega⟩
            refine Lib.hid ?_
            rw [HRE.out, List.length_append, List.map_append]
            exact hown8
        · have q1 : (l1 == a1) = false := by simp [Ne.symm e1]
          have HRE := Lib.hid (reL_t (show reB F k = true by unfold reB; rw [HQ1.out, HQ2.out]; simp [e1]))
          have HLEN := Lib.hid (reL_len F k)
          have HE := Lib.hid e1
          have hk3 := Bk.new ((w3.alloc (Obj.cells #[.int .i64 a1, .int .i64 a2] 41)).alloc (Obj.cells #[.int .i64 a3, .int .i64 a4] 41)) 3 [.int .i64 (k : Int)]
          rw [show ((w3.alloc (Obj.cells #[.int .i64 a1, .int .i64 a2] 41)).alloc (Obj.cells #[.int .i64 a3, .int .i64 a4] 41)).heap.size = w3.heap.size + 2 from by simp] at hk3
          have HK3 := Lib.hid hk3
          clear hk3
          clear e1
          try clear e1
          try clear e2
          try clear e3
          go_wp2_with (with_reducible refine list_own Tryz.underlying51 int_el (by decide) (by decide) rfl (.tmp 50) (.tmp 52) rfl W.heap.size _ _ _ rfl (owns_below HOWN5.out (ballo _ _)) ⟨w3.heap.size + 2, 0, none⟩ _ [.int .i64 (k : Int)] rfl rfl (news_bk HK3.out) ?_ ?_ ?_ ?_)
          · intro u hu; simp at hu; subst hu; rfl
          · have := HLEN.out; omega
          · simp; omega
          intro g c w8 hown8 hb8 hg8 hh8
          go_wp2_with fail
          refine ⟨⟨k + 1, by omega, by go_num, HB5.out.trans ((ballo _ _).mono (by omega) |>.trans hb8), ?_⟩, by simp [intOf]; omega⟩
          refine Lib.hid ?_
          rw [HRE.out, List.length_append, List.map_append]
          exact hown8
      · have hk2 : k = L := by omega
        have HB8 := Lib.hid (HBW.out.trans (hbl.mono HBW.out.size))
        have HOWN := Lib.hid hown.out
        clear hown hbl
        go_wp2_with fail
        subst hk2
        refine bodyPost_ret (results_tmp2 rfl _ _ _) rfl ⟨Or.inr ⟨H0.out, _, rfl, ?_⟩, HB8.out⟩
        rw [HL.out]
        exact Own.mono HOWN.out HBW.out.size
  · rw [boQ, if_neg h0] at hO
    have HO := Lib.hid hO
    have H0 := Lib.hid h0
    have g0 : (rdE F true == 0) = false := by simp [h0]
    clear hO hF h0
    go_enter Tryz.func56, Tryz.ntmps56
    go_wp2_with fail
    refine HO.out.mono ?_
    rintro e w1 ⟨rfl, hb1⟩
    have hbw := bafter hb1
    have h1 := B1.out.below hb1
    have HBW := Lib.hid hbw
    have h3 := hbw.size
    clear hb1 hbw h1 HO B1
    go_wp2_with fail
    refine bodyPost_ret (results_tmp2 rfl _ _ _) rfl ⟨Or.inl ⟨H0.out, rfl⟩, HBW.out.trans (((ballo _ _).alloc (by simp) _).mono h3)⟩
end Go.Proofs.YtnfndiafabhhdaaGreat
