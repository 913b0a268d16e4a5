/- Walk of a story's region, the walk itself (Wear). -/
import Derived.Test.YtnfndiafabhhdaaGreatC5
import Derived.Test.YtnfndiafabhhdaaGreatB1
namespace Go.Proofs.YtnfndiafabhhdaaGreat
open Go.ChangeShapes Go.WideShapes Go.ChangeAt Go.RowKit
theorem own_bk {w : World} {base g k n : Nat} {E : TypeId} {xs : List Value} (h : Bk w g E xs) (hg : base ≤ g) (hl : xs.length = n * k) (hn : n ≤ maxLen) : w.ownsRow base E k (.slice (some ⟨g, 0, none⟩) n n) n xs :=
  ⟨hl, .inr ⟨g, n, xs.toArray, rfl, hg, h, Nat.le_refl _, hn, by simpa using hl, by simp [← hl]⟩⟩
def CapOk : Value → Prop
  | .slice _ n c => n ≤ c
  | _ => False
theorem OwnR.cap {w : World} {base : Nat} {E : TypeId} {k n : Nat} {v : Value} {f : Nat → Nat → Value} (h : OwnR w base E k v n f) : CapOk v := by
  rcases h.2 with ⟨rfl, rfl⟩ | ⟨g, cap, cur, rfl, _, _, hn, _⟩
  · exact Nat.le_refl _
  · exact hn
def ItOk (F : Fl) (I : List Int) : Prop := ∀ i ∈ I, -2 ≤ i ∧ i < F.s.length
theorem lnB_T {F : Fl} (h : OkF F) {k x : Int} (x0 : 0 ≤ x) (xn : x ≤ hgt F.v) (k0 : 0 ≤ k) (k1 : k ≤ 2097152) (s : Bool) : LnB (lnT F.v k x s) := by
  obtain ⟨⟨a, b⟩, c, d⟩ := tm_bd h.v x0 xn
  exact ⟨a, b, c, d, k0, k1⟩
set_option maxRecDepth 100000 in
set_option maxHeartbeats 8000000 in
theorem region_any (F : Fl) (b : Nat) (vv vs pv vI : Value) (I : List Int) (w : World) (h : Sty w F b vv vs pv) (hI : Ints w vI I) (hIt : ItOk F I) (hn : I.length ≤ 1000) :
    Calls Tryz.prog 103 #[.pointer (some ⟨b, 0, none⟩), vI] w fun e w' => ∃ va vb, e = .returned (rnV (rnW F I) va vb) ∧ Below w.heap.size w w' ∧ (LnR w' va (lows (linesL F I)) ∧ CapOk va) ∧ LnR w' vb (ups (linesL F I)) ∧ CapOk vb := by
  have hH := (pt_bd ((okv_iff F.v).1 h.o.v) (Nat.le_refl _)).1
  have hh : hgt F.v = vX F.v F.v.length := rfl
  rw [← hh] at hH
  clear hh
  have HO := Lib.hid h.o
  have HS := Lib.hid (h.alloc (Obj.cells #[.int .i64 0, .int .i64 0, .bool false, .int .i64 0, .int .i64 0, .bool false, .slice none 0 0, .slice none 0 0, .bool false] 100))
  have HIt := Lib.hid hIt
  have HI := Lib.hid (hI.alloc (Obj.cells #[.int .i64 0, .int .i64 0, .bool false, .int .i64 0, .int .i64 0, .bool false, .slice none 0 0, .slice none 0 0, .bool false] 100))
  have hZ0 := Bk.new w 100 [.int .i64 0, .int .i64 0, .bool false, .int .i64 0, .int .i64 0, .bool false, .slice none 0 0, .slice none 0 0, .bool false]
  have HZ0 := Lib.hid hZ0
  obtain ⟨oi, ni, ci, rfl, hl, mi⟩ := hI.parts
  have hni : ni ≤ 1000 := by rw [← hl.out]; exact hn
  clear h hI hIt hZ0 hn
  go_enter Tryz.func103, Tryz.ntmps103
  go_wp2_with fail
  refine (ratio_any 1 4 _).mono ?_
  rintro e w1 ⟨rfl, hb1⟩
  go_wp2_with fail
  refine (ratio_any 1000 1 _).mono ?_
  rintro e w2 ⟨rfl, hb2⟩
  have hS2 := (HS.out.below hb1).below hb2
  have s7 := hS2.k.cell 7
  simp only [styC, List.getElem?_cons_zero, List.getElem?_cons_succ] at s7
  have sl := hS2.k.lt
  have HS2 := Lib.hid hS2
  clear hS2
  go_wp2_with fail
  refine (time_any F b vv vs pv (hgt F.v) _ ((HS2.out.alloc _).alloc _) hH.1 (Int.le_refl _)).mono ?_
  rintro e w3 ⟨rfl, hb3⟩
  have hr0 := (Bk.new w2 100 [.int .i64 1, .int .i64 4, .bool false, .int .i64 1000, .int .i64 1, .bool false, .slice (some ⟨w2.heap.size + 1, 0, none⟩) 1 1, .slice none 0 0, .bool false]).alloc (Obj.cells #[.int .i64 0, .int .i64 0, .int .i64 1, .bool false] 142)
  have hr := hr0.below hb3
  have ha0 := Bk.new1 w2 (Obj.cells #[.int .i64 1, .int .i64 4, .bool false, .int .i64 1000, .int .i64 1, .bool false, .slice (some ⟨w2.heap.size + 1, 0, none⟩) 1 1, .slice none 0 0, .bool false] 100) 142 [.int .i64 0, .int .i64 0, .int .i64 1, .bool false]
  have ha := ha0.below hb3
  have hz3 := hb3.size
  simp only [World.size_alloc] at hz3
  have c7 := hr.cell 7
  have f7 := hr.frozen 7
  simp only [List.getElem?_cons_zero, List.getElem?_cons_succ] at c7
  have hlt1 := hr.lt
  have HR := Lib.hid hr
  have HA := Lib.hid ha
  have hB3 : Below w2.heap.size w2 w3 := Below.trans (Below.alloc (Below.alloc (Below.refl _ _) (Nat.le_refl _) _) (by simp) _) (hb3.mono (by simp; omega))
  clear hr0 hr ha0 ha
  obtain ⟨tn, htn⟩ : ∃ n, tmN F.v (hgt F.v) = n := ⟨_, rfl⟩
  obtain ⟨td, htd⟩ : ∃ n, tmD F.v (hgt F.v) = n := ⟨_, rfl⟩
  rw [htn, htd]
  have HTN := Lib.hid htn
  have HTD := Lib.hid htd
  clear htn htd
  go_wp2_with fail
  go_loopw [32] (fun i wr => ∃ (k : Nat) (va vb : Value), k ≤ ni ∧ i = .int .i64 (k : Int) ∧ Hid (Bk wr w2.heap.size 100 (rnC (rnW F (I.take k)) va vb)) ∧ Hid (TwoL wr (w2.heap.size + 1) va (lows (linesL F (I.take k))) vb (ups (linesL F (I.take k)))) ∧ Below w2.heap.size w2 wr) (fun i _ => ni - (intOf i).toNat)
  case atStart =>
    refine ⟨0, .slice (some ⟨w2.heap.size + 1, 0, none⟩) 1 1, .slice (some ⟨w3.heap.size, 0, none⟩) 1 1, Nat.zero_le _, rfl, (HR.out.set 7 _).alloc _, ⟨?_, ?_, ?_⟩, ?_⟩
    · exact own_bk (n := 1) ((HA.out.far (by simp) _).alloc _) (Nat.le_refl _) rfl (by decide)
    · have hb := Bk.new (w3.setCell ⟨w2.heap.size, 7, none⟩ (.slice (some ⟨w3.heap.size, 0, none⟩) 1 1)) 142 [.int .i64 0, .int .i64 tn, .int .i64 td, .bool false]
      rw [show (w3.setCell ⟨w2.heap.size, 7, none⟩ (.slice (some ⟨w3.heap.size, 0, none⟩) 1 1)).heap.size = w3.heap.size by simp] at hb
      have e : cellsL (lnF (ups (linesL F (I.take 0)))) 4 (ups (linesL F (I.take 0))).length = [.int .i64 0, .int .i64 tn, .int .i64 td, .bool false] := by
        rw [← HTN.out, ← HTD.out]; rfl
      unfold OwnR
      rw [e]
      exact own_bk (n := 1) hb (by omega) rfl (by decide)
    · intro g hg e
      have h1 : w2.heap.size + 1 = g := Option.some.inj hg
      have h2 : w3.heap.size = g := Option.some.inj e
      omega
    · exact (hB3.setCell (Nat.le_refl _) _).alloc (by simp; omega) _
  case round =>
    obtain ⟨k, va, vb, hk, rfl, hR, hT, hbl⟩ := hrel
    have hsz := hbl.size
    have hrl := hR.out.lt
    by_cases h0 : k < ni
    · obtain ⟨bi, fi, rfl, hbi, hci⟩ := HI.out.cells (by omega)
      have hB03 := bthen hb1 hb2
      have hbi2 : bi < w2.heap.size := Nat.lt_of_lt_of_le hbi hB03.size
      have d0 := (hbl.cell (p := ⟨bi, fi + k, none⟩) hbi2).trans ((hB03.cell (p := ⟨bi, fi + k, none⟩) hbi).trans (hci k h0))
      obtain ⟨x, hx⟩ : ∃ x, I[k]?.getD 0 = x := ⟨_, rfl⟩
      rw [hx] at d0
      have hkI : k < I.length := by rw [hl.out]; exact h0
      have htk := take_snoc hkI hx
      have hxI : x ∈ I := by rw [← hx, List.getElem?_eq_getElem hkI, Option.getD_some]; exact List.getElem_mem hkI
      obtain ⟨x1, x2⟩ := HIt.out x hxI
      have hrs := rnW_snoc F (I.take k) x
      have hls := congrArg lows (lines_snoc F (I.take k) x)
      have hus := congrArg ups (lines_snoc F (I.take k) x)
      rw [lows_app] at hls
      rw [ups_app] at hus
      have hRB := rnW_b HO.out (I.take k)
      have hL1 : (lows (linesL F (I.take k))).length ≤ 3000 := by
        have := lows_le (linesL F (I.take k))
        have := lines_len F (I.take k)
        have : (I.take k).length ≤ k := List.length_take_le _ _
        omega
      have hL2 : (ups (linesL F (I.take k))).length ≤ 3000 := by
        have := ups_le (linesL F (I.take k))
        have := lines_len F (I.take k)
        have : (I.take k).length ≤ k := List.length_take_le _ _
        omega
      rw [← htk] at hrs hls hus
      generalize rnW F (I.take k) = R at *
      generalize lows (linesL F (I.take k)) = A at *
      generalize ups (linesL F (I.take k)) = B at *
      have hSr := (HS2.out.below (Below.mono (B := w2.heap.size) hbl (Nat.le_refl _)))
      have HSr := Lib.hid hSr
      have HX := Lib.hid hx
      clear hci htk hx hSr
      by_cases xm : x = -2
      · subst xm
        simp only [if_true] at hrs hls hus
        have HRS := Lib.hid hrs
        have HLS := Lib.hid hls
        have HUS := Lib.hid hus
        clear hrs hls hus
        have c2 := HSr.out.k.cell 3
        have c3 := HSr.out.k.cell 4
        simp only [styC, List.getElem?_cons_zero, List.getElem?_cons_succ] at c2 c3
        have sl2 := HSr.out.k.lt
        have w1_ := HO.out.w1
        have w2_ := HO.out.w2
        have w3_ := HO.out.w3
        go_wp2_with fail
        refine (ratio_any 1000 F.whi _).mono ?_
        rintro e w4 ⟨rfl, hb4⟩
        go_wp2_with fail
        refine (least_any w2.heap.size R va vb ⟨1000, F.whi, false⟩ _ (hR.out.below hb4) (bd_of_lo hRB) ⟨by simp only; omega, by simp only; omega, by simp only; omega, by simp only; omega⟩).mono ?_
        rintro e w5 ⟨rfl, hs5, hk5⟩
        have hB5 : Below w2.heap.size w2 w5 := bes_then (hbl.trans (hb4.mono hsz)) hs5 (Nat.le_refl _) (Nat.le_trans hsz hb4.size)
        have hS5 := (HS2.out.below hB5)
        have e2 := hS5.k.cell 3
        have sl5 := hS5.k.lt
        simp only [styC, List.getElem?_cons_zero, List.getElem?_cons_succ] at e2
        have hT5 := (hT.out.below hb4).bes hs5 (Nat.lt_succ_self _)
        have HT5 := Lib.hid hT5
        have HK5 := Lib.hid hk5
        have hRB2 : RnB { R with lo := mxW R.lo ⟨1000, F.whi, false⟩ } := mxW_B hRB (by simp only; omega) (by simp only; omega) (by simp only; omega) (by simp only; omega)
        clear hT5 hk5 hS5
        go_wp2_with fail
        refine (ratio_any 1000 F.wlo _).mono ?_
        rintro e w6 ⟨rfl, hb6⟩
        go_wp2_with fail
        refine (most_any w2.heap.size { R with lo := mxW R.lo ⟨1000, F.whi, false⟩ } va vb ⟨1000, F.wlo, false⟩ _ (HK5.out.below hb6) (bd_of_hi hRB2) ⟨by simp only; omega, by simp only; omega, by simp only; omega, by simp only; omega⟩).mono ?_
        rintro e w7 ⟨rfl, hs7, hk7⟩
        go_wp2_with fail
        refine ⟨⟨k + 1, va, vb, by omega, by go_num, ?_, ?_, bes_then (hB5.trans (hb6.mono hB5.size)) hs7 (Nat.le_refl _) (Nat.le_trans hB5.size hb6.size)⟩, by simp [intOf]; omega⟩
        · rw [HRS.out]; exact hk7
        · rw [HLS.out, HUS.out]
          have := (HT5.out.below hb6).bes hs7 (Nat.lt_succ_self _)
          show TwoL _ _ _ _ _ _
          simpa [lows, ups] using this
      · have xm2 : (x == -2) = false := by simpa using xm
        by_cases xo : x = -1
        · subst xo
          have e1 : itemL F (-1) = [(lnT F.v 0 (endA F.f) false, false), (lnT F.v 0 (endB (hgt F.v) F.f) false, true)] := rfl
          rw [if_neg xm] at hrs hls hus
          rw [e1] at hls hus
          have hls : lows (linesL F (I.take (k + 1))) = A ++ [lnT F.v 0 (endA F.f) false] := hls
          have hus : ups (linesL F (I.take (k + 1))) = B ++ [lnT F.v 0 (endB (hgt F.v) F.f) false] := hus
          have HRS := Lib.hid hrs
          have HLS := Lib.hid hls
          have HUS := Lib.hid hus
          clear hrs hls hus e1 xm xm2
          have c1 := HSr.out.k.cell 1
          have c2 := HSr.out.k.cell 2
          simp only [styC, List.getElem?_cons_zero, List.getElem?_cons_succ] at c1 c2
          have sl2 := HSr.out.k.lt
          obtain ⟨⟨n1, n2⟩, n3, n4⟩ := end_in HO.out.f
          have hfl2 : F.f.lv ≤ hgt F.v := by have := HO.out.f; simp only [okLk, Bool.and_eq_true, decide_eq_true_eq] at this; omega
          go_wp2_with fail
          refine (levels_any F b vv vs pv F.f _ HSr.out HO.out.f).mono ?_
          rintro e w4 ⟨rfl, hb4⟩
          obtain ⟨EA, hEA⟩ : ∃ x, endA F.f = x := ⟨_, rfl⟩
          obtain ⟨EB, hEB⟩ : ∃ x, endB (hgt F.v) F.f = x := ⟨_, rfl⟩
          rw [hEA] at n1 n2 HLS ⊢
          rw [hEB] at n3 n4 HUS ⊢
          have hx4 := Bk.new w4 27 [.int .i64 EA, .int .i64 EB]
          have hbW : Below wr.heap.size wr (w4.alloc (Obj.cells #[.int .i64 EA, .int .i64 EB] 27)) := hb4.alloc hb4.size _
          clear hEA hEB c1 c2 d0
          go_wp2_with fail
          generalize hWW : w4.alloc (Obj.cells #[.int .i64 EA, .int .i64 EB] 27) = W at *
          have hBW := hbl.trans (hbW.mono hsz)
          have HRW := Lib.hid (hR.out.below hbW)
          have hTW := hT.out.below hbW
          have HSW := Lib.hid (HSr.out.below hbW)
          have y6 := HRW.out.cell 6
          have y0 := hx4.cell 0
          have y1 := HRW.out.lt
          have y2 := hx4.lt
          simp only [rnC, List.getElem?_cons_zero, List.getElem?_cons_succ] at y6 y0
          refine WpK.begin (S := fun _ => True) (kp := fun _ => true) (f := 11) (up := #[false, false, false, false, false, false, false, false, false, false, false]) (by kernel_rfl) (by kernel_rfl) (by kernel_rfl) ?_
          refine WpK.take (i := 0) (v := ?_) ((toArray_at _ _).trans rfl) (by kernel_rfl) (by kernel_rfl) (by kernel_rfl) (by kernel_rfl) (by kernel_rfl) (fun _ _ _ h => h) (Or.inl ⟨by rfl, ?_⟩) trivial ?_
          rotate_left
          · (intro x hx; go_simp <;> with_reducible rfl)
          simp only [Act.put, puts]
          refine WpK.take (i := 2) (v := ?_) ((toArray_at _ _).trans rfl) (by kernel_rfl) (by kernel_rfl) (by kernel_rfl) (by kernel_rfl) (by kernel_rfl) (fun _ _ _ h => h) (Or.inl ⟨by rfl, ?_⟩) trivial ?_
          rotate_left
          · (intro x hx; go_simp <;> with_reducible rfl)
          simp only [Act.put, puts]
          refine WpK.take (i := 3) (v := ?_) ((toArray_at _ _).trans rfl) (by kernel_rfl) (by kernel_rfl) (by kernel_rfl) (by kernel_rfl) (by kernel_rfl) (fun _ _ _ h => h) (Or.inl ⟨by rfl, ?_⟩) trivial ?_
          rotate_left
          · (intro x hx; go_simp <;> with_reducible rfl)
          simp only [Act.put, puts]
          refine WpK.weaken (S := fun x => Below W.heap.size W x) (kp := (fun i => decide (i < 8))) (fun _ => trivial) _ ?_
          have hS0 := (show Below W.heap.size W W.drew from (Below.refl _ _).drew)
          refine WpK.take (i := 1) (v := ?_) ((toArray_at _ _).trans rfl) (by kernel_rfl) (by kernel_rfl) (by kernel_rfl) (by kernel_rfl) (by kernel_rfl) (fun _ _ _ h => h) (Or.inl ⟨by rfl, ?_⟩) hS0 ?_
          rotate_left
          · (intro x hx; obtain ⟨hcx, hfx⟩ := bcell hx; go_simp <;> with_reducible rfl)
          try simp only [Act.put, puts]
          refine WpK.take (i := 4) (v := ?_) ((toArray_at _ _).trans rfl) (by kernel_rfl) (by kernel_rfl) (by kernel_rfl) (by kernel_rfl) (by kernel_rfl) (fun _ _ _ h => h) (Or.inl ⟨by rfl, ?_⟩) hS0 ?_
          rotate_left
          · (intro x hx; obtain ⟨hcx, hfx⟩ := bcell hx; go_simp <;> with_reducible rfl)
          try simp only [Act.put, puts]
          clear hS0
          refine WpK.one (i := 5) (by kernel_rfl) ((toArray_at _ _).trans rfl) ?_
          intro K hK
          have HK := Lib.hid hK
          clear hK
          go_simp
          refine (time_any F b vv vs pv (EA) _ (HSW.out.below (Below.drew (Below.refl _ _))) (by omega) (by omega)).mono ?_
          rintro e W2 ⟨rfl, hbq⟩
          have hW2 : Below W.heap.size W W2 := Below.trans (Below.drew (Below.refl _ _)) hbq
          clear hbq
          skip
          refine HK.out _ _ (fun _ => hW2) (fun _ => ?_)
          clear HK K
          try simp only [puts]
          refine WpK.one (i := 6) (by kernel_rfl) ((toArray_at _ _).trans rfl) ?_
          intro K hK
          have HK := Lib.hid hK
          clear hK
          go_simp
          refine HK.out _ _ (fun _ => hW2) (fun _ => ?_)
          clear HK K
          try simp only [puts]
          refine WpK.one (i := 7) (by kernel_rfl) ((toArray_at _ _).trans rfl) ?_
          intro K hK
          have HK := Lib.hid hK
          clear hK
          go_simp
          refine HK.out _ _ (fun _ => hW2.alloc hW2.size _) (fun _ => ?_)
          clear HK K
          try simp only [puts]
          refine WpK.one (i := 8) (by kernel_rfl) ((toArray_at _ _).trans rfl) ?_
          intro K hK
          have HK := Lib.hid hK
          clear hK
          have hz2 := hW2.size
          refine step_line rfl (.tmp 112) (.tmp 118) rfl (w2.heap.size + 1) va A vb B rfl (hTW.below (hW2.alloc hW2.size _)) W2.heap.size 1 (lnT F.v 0 EA false) rfl (Bk.new _ _ [_, _, _, _]) (by omega) (by have := hBW.size; have := HRW.out.lt; simp; omega) ?_
          intro g1 c1 q1 hT1 hP1 hG1
          have hBq1 : Below (w2.heap.size + 1) W q1 := Below.trans (Below.mono (B := W.heap.size) (hW2.alloc hW2.size _) HRW.out.lt) hP1
          refine HK.out _ _ (fun h => absurd h (by decide)) (fun _ => ?_)
          clear HK K
          try simp only [puts]
          have hRq1 := (hBq1.block w2.heap.size (Nat.lt_succ_self _)).trans HRW.out
          have hRq1 : Bk q1 w2.heap.size 100 _ := hRq1
          have cq := hRq1.cell 6
          have fq := hRq1.frozen 6
          simp only [rnC, List.getElem?_cons_zero, List.getElem?_cons_succ] at cq
          refine WpK.one (i := 9) (by kernel_rfl) ((toArray_at _ _).trans rfl) ?_
          intro K hK
          have HK := Lib.hid hK
          clear hK
          go_simp
          refine HK.out _ _ (fun h => absurd h (by decide)) (fun _ => ?_)
          clear HK K
          try simp only [puts]
          refine WpK.one (i := 10) (by kernel_rfl) ((toArray_at _ _).trans rfl) ?_
          intro K hK
          have HK := Lib.hid hK
          clear hK
          go_simp
          refine HK.out _ _ (fun h => absurd h (by decide)) (fun _ => ?_)
          clear HK K
          try simp only [puts]
          refine WpK.done (by kernel_rfl) ?_
          clear hz2 cq fq
          have hVA : va.ownBlock ≠ some w4.heap.size := fun e => by have := (World.ownsRow.lt hT.out.a _ e).2; have := hb4.size; omega
          have hxq : Bk q1 w4.heap.size 27 [.int .i64 EA, .int .i64 EB] := (hG1.block _ (by have := hW2.size; simp; omega) (fun e => hVA e.symm)).trans ((hx4.below hW2).alloc _)
          have hne : w4.heap.size ≠ w2.heap.size := by have := hb4.size; omega
          obtain ⟨V1, hV1⟩ : ∃ v, Value.slice (some ⟨g1, 0, none⟩) (A.length + 1) c1 = v := ⟨_, rfl⟩
          have hVS : Below w2.heap.size w2 (q1.setCell ⟨w2.heap.size, 6, none⟩ (.slice (some ⟨g1, 0, none⟩) (A.length + 1) c1)) := (hBW.trans (hBq1.mono (Nat.le_succ _))).setCell (Nat.le_refl _) _
          have hRn := hRq1.set 6 (.slice (some ⟨g1, 0, none⟩) (A.length + 1) c1)
          have hTn := hT1.setCell (b := w2.heap.size) (j := 6) (Nat.lt_succ_self _) (.slice (some ⟨g1, 0, none⟩) (A.length + 1) c1)
          have hXn := hxq.far (p := ⟨w2.heap.size, 6, none⟩) hne (.slice (some ⟨g1, 0, none⟩) (A.length + 1) c1)
          clear hR hT HRW hTW HSW hRq1 hT1 hxq hG1 hP1 hBq1 hBW hx4 hb4 hbW y6 y0 y1 y2 hWW hVA hW2 hV1 HSr
          go_wp2_with fail
          generalize hVD : Value.slice (some ⟨g1, 0, none⟩) (A.length + 1) c1 = V1 at *
          generalize hWW : q1.setCell ⟨w2.heap.size, 6, none⟩ V1 = W at *
          have HRW : Hid (Bk W w2.heap.size 100 (rnC R V1 vb)) := Lib.hid hRn
          have HSW := Lib.hid (HS2.out.below hVS)
          have hBW := hVS
          have y6 := HRW.out.cell 7
          have y0 := hXn.cell 1
          have y1 := HRW.out.lt
          have y2 := hXn.lt
          simp only [rnC, List.getElem?_cons_zero, List.getElem?_cons_succ] at y6 y0
          clear hRn hWW hVD
          refine WpK.begin (S := fun _ => True) (kp := fun _ => true) (f := 11) (up := #[false, false, false, false, false, false, false, false, false, false, false]) (by kernel_rfl) (by kernel_rfl) (by kernel_rfl) ?_
          refine WpK.take (i := 0) (v := ?_) ((toArray_at _ _).trans rfl) (by kernel_rfl) (by kernel_rfl) (by kernel_rfl) (by kernel_rfl) (by kernel_rfl) (fun _ _ _ h => h) (Or.inl ⟨by rfl, ?_⟩) trivial ?_
          rotate_left
          · (intro x hx; go_simp <;> with_reducible rfl)
          simp only [Act.put, puts]
          refine WpK.take (i := 2) (v := ?_) ((toArray_at _ _).trans rfl) (by kernel_rfl) (by kernel_rfl) (by kernel_rfl) (by kernel_rfl) (by kernel_rfl) (fun _ _ _ h => h) (Or.inl ⟨by rfl, ?_⟩) trivial ?_
          rotate_left
          · (intro x hx; go_simp <;> with_reducible rfl)
          simp only [Act.put, puts]
          refine WpK.take (i := 3) (v := ?_) ((toArray_at _ _).trans rfl) (by kernel_rfl) (by kernel_rfl) (by kernel_rfl) (by kernel_rfl) (by kernel_rfl) (fun _ _ _ h => h) (Or.inl ⟨by rfl, ?_⟩) trivial ?_
          rotate_left
          · (intro x hx; go_simp <;> with_reducible rfl)
          simp only [Act.put, puts]
          refine WpK.weaken (S := fun x => Below W.heap.size W x) (kp := (fun i => decide (i < 8))) (fun _ => trivial) _ ?_
          have hS0 := (show Below W.heap.size W W.drew from (Below.refl _ _).drew)
          refine WpK.take (i := 1) (v := ?_) ((toArray_at _ _).trans rfl) (by kernel_rfl) (by kernel_rfl) (by kernel_rfl) (by kernel_rfl) (by kernel_rfl) (fun _ _ _ h => h) (Or.inl ⟨by rfl, ?_⟩) hS0 ?_
          rotate_left
          · (intro x hx; obtain ⟨hcx, hfx⟩ := bcell hx; go_simp <;> with_reducible rfl)
          try simp only [Act.put, puts]
          refine WpK.take (i := 4) (v := ?_) ((toArray_at _ _).trans rfl) (by kernel_rfl) (by kernel_rfl) (by kernel_rfl) (by kernel_rfl) (by kernel_rfl) (fun _ _ _ h => h) (Or.inl ⟨by rfl, ?_⟩) hS0 ?_
          rotate_left
          · (intro x hx; obtain ⟨hcx, hfx⟩ := bcell hx; go_simp <;> with_reducible rfl)
          try simp only [Act.put, puts]
          clear hS0
          refine WpK.one (i := 5) (by kernel_rfl) ((toArray_at _ _).trans rfl) ?_
          intro K hK
          have HK := Lib.hid hK
          clear hK
          go_simp
          refine (time_any F b vv vs pv (EB) _ (HSW.out.below (Below.drew (Below.refl _ _))) (by omega) (by omega)).mono ?_
          rintro e W2 ⟨rfl, hbq⟩
          have hW2 : Below W.heap.size W W2 := Below.trans (Below.drew (Below.refl _ _)) hbq
          clear hbq
          skip
          refine HK.out _ _ (fun _ => hW2) (fun _ => ?_)
          clear HK K
          try simp only [puts]
          refine WpK.one (i := 6) (by kernel_rfl) ((toArray_at _ _).trans rfl) ?_
          intro K hK
          have HK := Lib.hid hK
          clear hK
          go_simp
          refine HK.out _ _ (fun _ => hW2) (fun _ => ?_)
          clear HK K
          try simp only [puts]
          refine WpK.one (i := 7) (by kernel_rfl) ((toArray_at _ _).trans rfl) ?_
          intro K hK
          have HK := Lib.hid hK
          clear hK
          go_simp
          refine HK.out _ _ (fun _ => hW2.alloc hW2.size _) (fun _ => ?_)
          clear HK K
          try simp only [puts]
          refine WpK.one (i := 8) (by kernel_rfl) ((toArray_at _ _).trans rfl) ?_
          intro K hK
          have HK := Lib.hid hK
          clear hK
          have hz2 := hW2.size
          refine step_line rfl (.tmp 122) (.tmp 128) rfl (w2.heap.size + 1) vb B V1 (A ++ [lnT F.v 0 EA false]) rfl (hTn.swap.below (hW2.alloc hW2.size _)) W2.heap.size 1 (lnT F.v 0 EB false) rfl (Bk.new _ _ [_, _, _, _]) (by omega) (by have := hBW.size; have := HRW.out.lt; simp; omega) ?_
          intro g2 c2 q2 hT2 hP2 hG2
          have hBq2 : Below (w2.heap.size + 1) W q2 := Below.trans (Below.mono (B := W.heap.size) (hW2.alloc hW2.size _) HRW.out.lt) hP2
          refine HK.out _ _ (fun h => absurd h (by decide)) (fun _ => ?_)
          clear HK K
          try simp only [puts]
          have hRq2 := (hBq2.block w2.heap.size (Nat.lt_succ_self _)).trans HRW.out
          have hRq2 : Bk q2 w2.heap.size 100 _ := hRq2
          have cq := hRq2.cell 7
          have fq := hRq2.frozen 7
          simp only [rnC, List.getElem?_cons_zero, List.getElem?_cons_succ] at cq
          refine WpK.one (i := 9) (by kernel_rfl) ((toArray_at _ _).trans rfl) ?_
          intro K hK
          have HK := Lib.hid hK
          clear hK
          go_simp
          refine HK.out _ _ (fun h => absurd h (by decide)) (fun _ => ?_)
          clear HK K
          try simp only [puts]
          refine WpK.one (i := 10) (by kernel_rfl) ((toArray_at _ _).trans rfl) ?_
          intro K hK
          have HK := Lib.hid hK
          clear hK
          go_simp
          refine HK.out _ _ (fun h => absurd h (by decide)) (fun _ => ?_)
          clear HK K
          try simp only [puts]
          refine WpK.done (by kernel_rfl) ?_
          clear hz2 cq fq
          go_wp2_with fail
          refine ⟨⟨k + 1, V1, .slice (some ⟨g2, 0, none⟩) (B.length + 1) c2, by omega, by go_num, ?_, ?_, ?_⟩, by simp [intOf]; omega⟩
          · rw [HRS.out]; exact hRq2.set 7 _
          · rw [HLS.out, HUS.out]; exact (hT2.setCell (b := w2.heap.size) (j := 7) (Nat.lt_succ_self _) _).swap
          · exact (hBW.trans (hBq2.mono (Nat.le_succ _))).setCell (Nat.le_refl _) _
        · obtain ⟨m, rfl⟩ : ∃ m : Nat, x = (m : Int) := ⟨x.toNat, by omega⟩
          have hm : m < F.s.length := by omega
          obtain ⟨os, cs, hvs, ms⟩ := HSr.out.f.s.parts
          have hSN := HSr.out.f.s
          rw [hvs] at hSN
          obtain ⟨bs, fs, hos, hbs, hcs⟩ := hSN.cells (by omega)
          rw [hos] at hvs
          obtain ⟨s, hs⟩ : ∃ s, snA F.s m = s := ⟨_, rfl⟩
          have hso : okSn (hgt F.v) s = true := HO.out.s s (by rw [← hs, snA, List.getElem?_eq_getElem hm, Option.getD_some]; exact List.getElem_mem hm)
          have hlk : okLk (hgt F.v) s.k = true := by simp only [okSn, Bool.and_eq_true] at hso; exact hso.2
          obtain ⟨s1, s2, s3⟩ : 0 ≤ s.lo ∧ s.lo ≤ s.hi ∧ s.hi ≤ 1048576 := by simp only [okSn, Bool.and_eq_true, decide_eq_true_eq] at hso; exact ⟨hso.1.1.1, hso.1.1.2, hso.1.2⟩
          have e1 : itemL F (m : Int) = (lnT F.v s.hi (endB (hgt F.v) s.k) false, true) :: (if 0 < endA s.k then [(lnT F.v s.lo (endA s.k) false, false)] else []) := by
            rw [← hs]; unfold itemL; rw [if_neg (by omega)]; rfl
          rw [if_neg xm] at hrs hls hus
          rw [e1] at hls hus
          have d1 := hcs m 0 hm (by omega)
          have d2 := hcs m 1 hm (by omega)
          have d3 := hcs m 2 hm (by omega)
          have d4 := hcs m 3 hm (by omega)
          simp only [snF, hs] at d1 d2 d3 d4
          have HD1 := Lib.hid d1
          have HD2 := Lib.hid d2
          have c5 := HSr.out.k.cell 5
          simp only [styC, List.getElem?_cons_zero, List.getElem?_cons_succ, hvs] at c5
          have sl2 := HSr.out.k.lt
          obtain ⟨⟨n1, n2⟩, n3, n4⟩ := end_in hlk
          have hfl2 : s.k.lv ≤ hgt F.v := by have := hlk; simp only [okLk, Bool.and_eq_true, decide_eq_true_eq] at this; omega
          clear e1 xm xm2 hso hcs d1 d2 hs hSN
          go_wp2_with fail
          refine (levels_any F b vv vs pv s.k _ HSr.out hlk).mono ?_
          rintro e w4 ⟨rfl, hb4⟩
          obtain ⟨EA, hEA⟩ : ∃ x, endA s.k = x := ⟨_, rfl⟩
          obtain ⟨EB, hEB⟩ : ∃ x, endB (hgt F.v) s.k = x := ⟨_, rfl⟩
          rw [hEA] at n1 n2 hls hus ⊢
          rw [hEB] at n3 n4 hls hus ⊢
          have HRS := Lib.hid hrs
          have HLS := Lib.hid hls
          have HUS := Lib.hid hus
          have hx4 := (Bk.new w4 27 [.int .i64 EA, .int .i64 EB]).alloc (Obj.cells #[.int .i64 s.lo, .int .i64 s.hi] 27)
          have hy4 := Bk.new1 w4 (Obj.cells #[.int .i64 EA, .int .i64 EB] 27) 27 [.int .i64 s.lo, .int .i64 s.hi]
          have hbW : Below wr.heap.size wr ((w4.alloc (Obj.cells #[.int .i64 EA, .int .i64 EB] 27)).alloc (Obj.cells #[.int .i64 s.lo, .int .i64 s.hi] 27)) := (hb4.alloc hb4.size _).alloc (by have := hb4.size; simp; omega) _
          have c5 := (HSr.out.below hb4).k.cell 5
          simp only [styC, List.getElem?_cons_zero, List.getElem?_cons_succ, hvs] at c5
          have d1 := (hb4.cell (p := ⟨bs, fs + m * 4, none⟩) hbs).trans HD1.out
          have d2 := (hb4.cell (p := ⟨bs, fs + m * 4 + 1, none⟩) hbs).trans HD2.out
          have sl4 := hb4.size
          have sl3 : b < w4.heap.size := Nat.lt_of_lt_of_le sl2 sl4
          have sl5 : bs < w4.heap.size := Nat.lt_of_lt_of_le hbs sl4
          have HVS := Lib.hid hvs
          clear hEA hEB d3 d4 d0 HD1 HD2 hrs hls hus hvs
          go_wp2_with fail
          generalize hWW : (w4.alloc (Obj.cells #[.int .i64 EA, .int .i64 EB] 27)).alloc (Obj.cells #[.int .i64 s.lo, .int .i64 s.hi] 27) = W at *
          have hBW := hbl.trans (hbW.mono hsz)
          have HRW := Lib.hid (hR.out.below hbW)
          have hTW := hT.out.below hbW
          have HSW := Lib.hid (HSr.out.below hbW)
          have y6 := HRW.out.cell 7
          have y0 := hx4.cell 1
          have y3 := hy4.cell 1
          have y1 := HRW.out.lt
          have y2 := hx4.lt
          have y4 := hy4.lt
          simp only [rnC, List.getElem?_cons_zero, List.getElem?_cons_succ] at y6 y0 y3
          clear d1 d2 c5
          refine WpK.begin (S := fun _ => True) (kp := fun _ => true) (f := 13) (up := #[false, false, false, false, false, false, false, false, false, false, false, false, false]) (by kernel_rfl) (by kernel_rfl) (by kernel_rfl) ?_
          refine WpK.take (i := 0) (v := ?_) ((toArray_at _ _).trans rfl) (by kernel_rfl) (by kernel_rfl) (by kernel_rfl) (by kernel_rfl) (by kernel_rfl) (fun _ _ _ h => h) (Or.inl ⟨by rfl, ?_⟩) trivial ?_
          rotate_left
          · (intro x hx; go_simp <;> with_reducible rfl)
          simp only [Act.put, puts]
          refine WpK.take (i := 2) (v := ?_) ((toArray_at _ _).trans rfl) (by kernel_rfl) (by kernel_rfl) (by kernel_rfl) (by kernel_rfl) (by kernel_rfl) (fun _ _ _ h => h) (Or.inl ⟨by rfl, ?_⟩) trivial ?_
          rotate_left
          · (intro x hx; go_simp <;> with_reducible rfl)
          simp only [Act.put, puts]
          refine WpK.take (i := 4) (v := ?_) ((toArray_at _ _).trans rfl) (by kernel_rfl) (by kernel_rfl) (by kernel_rfl) (by kernel_rfl) (by kernel_rfl) (fun _ _ _ h => h) (Or.inl ⟨by rfl, ?_⟩) trivial ?_
          rotate_left
          · (intro x hx; go_simp <;> with_reducible rfl)
          simp only [Act.put, puts]
          refine WpK.take (i := 5) (v := ?_) ((toArray_at _ _).trans rfl) (by kernel_rfl) (by kernel_rfl) (by kernel_rfl) (by kernel_rfl) (by kernel_rfl) (fun _ _ _ h => h) (Or.inl ⟨by rfl, ?_⟩) trivial ?_
          rotate_left
          · (intro x hx; go_simp <;> with_reducible rfl)
          simp only [Act.put, puts]
          refine WpK.weaken (S := fun x => Below W.heap.size W x) (kp := (fun i => decide (i < 10))) (fun _ => trivial) _ ?_
          have hS0 := (show Below W.heap.size W W.drew from (Below.refl _ _).drew)
          refine WpK.take (i := 1) (v := ?_) ((toArray_at _ _).trans rfl) (by kernel_rfl) (by kernel_rfl) (by kernel_rfl) (by kernel_rfl) (by kernel_rfl) (fun _ _ _ h => h) (Or.inl ⟨by rfl, ?_⟩) hS0 ?_
          rotate_left
          · (intro x hx; obtain ⟨hcx, hfx⟩ := bcell hx; go_simp <;> with_reducible rfl)
          try simp only [Act.put, puts]
          refine WpK.take (i := 3) (v := ?_) ((toArray_at _ _).trans rfl) (by kernel_rfl) (by kernel_rfl) (by kernel_rfl) (by kernel_rfl) (by kernel_rfl) (fun _ _ _ h => h) (Or.inl ⟨by rfl, ?_⟩) hS0 ?_
          rotate_left
          · (intro x hx; obtain ⟨hcx, hfx⟩ := bcell hx; go_simp <;> with_reducible rfl)
          try simp only [Act.put, puts]
          refine WpK.take (i := 6) (v := ?_) ((toArray_at _ _).trans rfl) (by kernel_rfl) (by kernel_rfl) (by kernel_rfl) (by kernel_rfl) (by kernel_rfl) (fun _ _ _ h => h) (Or.inl ⟨by rfl, ?_⟩) hS0 ?_
          rotate_left
          · (intro x hx; obtain ⟨hcx, hfx⟩ := bcell hx; go_simp <;> with_reducible rfl)
          try simp only [Act.put, puts]
          clear hS0
          refine WpK.one (i := 7) (by kernel_rfl) ((toArray_at _ _).trans rfl) ?_
          intro K hK
          have HK := Lib.hid hK
          clear hK
          go_simp
          refine (time_any F b vv vs pv (EB) _ (HSW.out.below (Below.drew (Below.refl _ _))) (by omega) (by omega)).mono ?_
          rintro e W2 ⟨rfl, hbq⟩
          have hW2 : Below W.heap.size W W2 := Below.trans (Below.drew (Below.refl _ _)) hbq
          clear hbq
          skip
          refine HK.out _ _ (fun _ => hW2) (fun _ => ?_)
          clear HK K
          try simp only [puts]
          refine WpK.one (i := 8) (by kernel_rfl) ((toArray_at _ _).trans rfl) ?_
          intro K hK
          have HK := Lib.hid hK
          clear hK
          go_simp
          refine HK.out _ _ (fun _ => hW2) (fun _ => ?_)
          clear HK K
          try simp only [puts]
          refine WpK.one (i := 9) (by kernel_rfl) ((toArray_at _ _).trans rfl) ?_
          intro K hK
          have HK := Lib.hid hK
          clear hK
          go_simp
          refine HK.out _ _ (fun _ => hW2.alloc hW2.size _) (fun _ => ?_)
          clear HK K
          try simp only [puts]
          refine WpK.one (i := 10) (by kernel_rfl) ((toArray_at _ _).trans rfl) ?_
          intro K hK
          have HK := Lib.hid hK
          clear hK
          have hz2 := hW2.size
          refine step_line rfl (.tmp 58) (.tmp 66) rfl (w2.heap.size + 1) vb B va A rfl (hTW.swap.below (hW2.alloc hW2.size _)) W2.heap.size 1 (lnT F.v s.hi EB false) rfl (Bk.new _ _ [_, _, _, _]) (by omega) (by have := hBW.size; have := HRW.out.lt; simp; omega) ?_
          intro g1 c1 q1 hT1 hP1 hG1
          have hBq1 : Below (w2.heap.size + 1) W q1 := Below.trans (Below.mono (B := W.heap.size) (hW2.alloc hW2.size _) HRW.out.lt) hP1
          refine HK.out _ _ (fun h => absurd h (by decide)) (fun _ => ?_)
          clear HK K
          try simp only [puts]
          have hRq1 := (hBq1.block w2.heap.size (Nat.lt_succ_self _)).trans HRW.out
          have hRq1 : Bk q1 w2.heap.size 100 _ := hRq1
          have cq := hRq1.cell 7
          have fq := hRq1.frozen 7
          simp only [rnC, List.getElem?_cons_zero, List.getElem?_cons_succ] at cq
          refine WpK.one (i := 11) (by kernel_rfl) ((toArray_at _ _).trans rfl) ?_
          intro K hK
          have HK := Lib.hid hK
          clear hK
          go_simp
          refine HK.out _ _ (fun h => absurd h (by decide)) (fun _ => ?_)
          clear HK K
          try simp only [puts]
          refine WpK.one (i := 12) (by kernel_rfl) ((toArray_at _ _).trans rfl) ?_
          intro K hK
          have HK := Lib.hid hK
          clear hK
          go_simp
          refine HK.out _ _ (fun h => absurd h (by decide)) (fun _ => ?_)
          clear HK K
          try simp only [puts]
          refine WpK.done (by kernel_rfl) ?_
          clear hz2 cq fq
          have hVA : ∀ g, w4.heap.size ≤ g → vb.ownBlock ≠ some g := fun g hg e => by have := (World.ownsRow.lt hT.out.b _ e).2; have := hb4.size; omega
          have hxq : Bk q1 w4.heap.size 27 [.int .i64 EA, .int .i64 EB] := (hG1.block _ (by have := hW2.size; simp; omega) (fun e => hVA _ (Nat.le_refl _) e.symm)).trans ((hx4.below hW2).alloc _)
          have hyq : Bk q1 (w4.heap.size + 1) 27 [.int .i64 s.lo, .int .i64 s.hi] := (hG1.block _ (by have := hW2.size; simp; omega) (fun e => hVA _ (Nat.le_succ _) e.symm)).trans ((hy4.below hW2).alloc _)
          have hne : w4.heap.size ≠ w2.heap.size := by have := hb4.size; omega
          have hne2 : w4.heap.size + 1 ≠ w2.heap.size := by have := hb4.size; omega
          have hVS : Below w2.heap.size w2 (q1.setCell ⟨w2.heap.size, 7, none⟩ (.slice (some ⟨g1, 0, none⟩) (B.length + 1) c1)) := (hBW.trans (hBq1.mono (Nat.le_succ _))).setCell (Nat.le_refl _) _
          have hRn := hRq1.set 7 (.slice (some ⟨g1, 0, none⟩) (B.length + 1) c1)
          have hTn := hT1.setCell (b := w2.heap.size) (j := 7) (Nat.lt_succ_self _) (.slice (some ⟨g1, 0, none⟩) (B.length + 1) c1)
          have hXn := hxq.far (p := ⟨w2.heap.size, 7, none⟩) hne (.slice (some ⟨g1, 0, none⟩) (B.length + 1) c1)
          have hYn := hyq.far (p := ⟨w2.heap.size, 7, none⟩) hne2 (.slice (some ⟨g1, 0, none⟩) (B.length + 1) c1)
          have z0 := hxq.cell 0
          simp only [List.getElem?_cons_zero] at z0
          clear hR hT HRW hTW HSW hRq1 hT1 hG1 hP1 hBq1 hBW hx4 hb4 hbW y6 y0 y1 y2 hWW hVA hW2 HSr hxq hyq hy4 y3 y4
          by_cases ha : 0 < EA
          · go_wp2_with fail
            generalize hVD : Value.slice (some ⟨g1, 0, none⟩) (B.length + 1) c1 = V1 at *
            generalize hWW : q1.setCell ⟨w2.heap.size, 7, none⟩ V1 = W at *
            have HRW : Hid (Bk W w2.heap.size 100 (rnC R va V1)) := Lib.hid hRn
            have HSW := Lib.hid (HS2.out.below hVS)
            have hBW := hVS
            have y6 := HRW.out.cell 6
            have y0 := hXn.cell 0
            have y3 := hYn.cell 0
            have y1 := HRW.out.lt
            have y2 := hXn.lt
            have y4 := hYn.lt
            simp only [rnC, List.getElem?_cons_zero, List.getElem?_cons_succ] at y6 y0 y3
            clear hRn hWW hVD z0
            refine WpK.begin (S := fun _ => True) (kp := fun _ => true) (f := 13) (up := #[false, false, false, false, false, false, false, false, false, false, false, false, false]) (by kernel_rfl) (by kernel_rfl) (by kernel_rfl) ?_
            refine WpK.take (i := 0) (v := ?_) ((toArray_at _ _).trans rfl) (by kernel_rfl) (by kernel_rfl) (by kernel_rfl) (by kernel_rfl) (by kernel_rfl) (fun _ _ _ h => h) (Or.inl ⟨by rfl, ?_⟩) trivial ?_
            rotate_left
            · (intro x hx; go_simp <;> with_reducible rfl)
            simp only [Act.put, puts]
            refine WpK.take (i := 2) (v := ?_) ((toArray_at _ _).trans rfl) (by kernel_rfl) (by kernel_rfl) (by kernel_rfl) (by kernel_rfl) (by kernel_rfl) (fun _ _ _ h => h) (Or.inl ⟨by rfl, ?_⟩) trivial ?_
            rotate_left
            · (intro x hx; go_simp <;> with_reducible rfl)
            simp only [Act.put, puts]
            refine WpK.take (i := 4) (v := ?_) ((toArray_at _ _).trans rfl) (by kernel_rfl) (by kernel_rfl) (by kernel_rfl) (by kernel_rfl) (by kernel_rfl) (fun _ _ _ h => h) (Or.inl ⟨by rfl, ?_⟩) trivial ?_
            rotate_left
            · (intro x hx; go_simp <;> with_reducible rfl)
            simp only [Act.put, puts]
            refine WpK.take (i := 5) (v := ?_) ((toArray_at _ _).trans rfl) (by kernel_rfl) (by kernel_rfl) (by kernel_rfl) (by kernel_rfl) (by kernel_rfl) (fun _ _ _ h => h) (Or.inl ⟨by rfl, ?_⟩) trivial ?_
            rotate_left
            · (intro x hx; go_simp <;> with_reducible rfl)
            simp only [Act.put, puts]
            refine WpK.weaken (S := fun x => Below W.heap.size W x) (kp := (fun i => decide (i < 10))) (fun _ => trivial) _ ?_
            have hS0 := (show Below W.heap.size W W.drew from (Below.refl _ _).drew)
            refine WpK.take (i := 1) (v := ?_) ((toArray_at _ _).trans rfl) (by kernel_rfl) (by kernel_rfl) (by kernel_rfl) (by kernel_rfl) (by kernel_rfl) (fun _ _ _ h => h) (Or.inl ⟨by rfl, ?_⟩) hS0 ?_
            rotate_left
            · (intro x hx; obtain ⟨hcx, hfx⟩ := bcell hx; go_simp <;> with_reducible rfl)
            try simp only [Act.put, puts]
            refine WpK.take (i := 3) (v := ?_) ((toArray_at _ _).trans rfl) (by kernel_rfl) (by kernel_rfl) (by kernel_rfl) (by kernel_rfl) (by kernel_rfl) (fun _ _ _ h => h) (Or.inl ⟨by rfl, ?_⟩) hS0 ?_
            rotate_left
            · (intro x hx; obtain ⟨hcx, hfx⟩ := bcell hx; go_simp <;> with_reducible rfl)
            try simp only [Act.put, puts]
            refine WpK.take (i := 6) (v := ?_) ((toArray_at _ _).trans rfl) (by kernel_rfl) (by kernel_rfl) (by kernel_rfl) (by kernel_rfl) (by kernel_rfl) (fun _ _ _ h => h) (Or.inl ⟨by rfl, ?_⟩) hS0 ?_
            rotate_left
            · (intro x hx; obtain ⟨hcx, hfx⟩ := bcell hx; go_simp <;> with_reducible rfl)
            try simp only [Act.put, puts]
            clear hS0
            refine WpK.one (i := 7) (by kernel_rfl) ((toArray_at _ _).trans rfl) ?_
            intro K hK
            have HK := Lib.hid hK
            clear hK
            go_simp
            refine (time_any F b vv vs pv (EA) _ (HSW.out.below (Below.drew (Below.refl _ _))) (by omega) (by omega)).mono ?_
            rintro e W2 ⟨rfl, hbq⟩
            have hW2 : Below W.heap.size W W2 := Below.trans (Below.drew (Below.refl _ _)) hbq
            clear hbq
            skip
            refine HK.out _ _ (fun _ => hW2) (fun _ => ?_)
            clear HK K
            try simp only [puts]
            refine WpK.one (i := 8) (by kernel_rfl) ((toArray_at _ _).trans rfl) ?_
            intro K hK
            have HK := Lib.hid hK
            clear hK
            go_simp
            refine HK.out _ _ (fun _ => hW2) (fun _ => ?_)
            clear HK K
            try simp only [puts]
            refine WpK.one (i := 9) (by kernel_rfl) ((toArray_at _ _).trans rfl) ?_
            intro K hK
            have HK := Lib.hid hK
            clear hK
            go_simp
            refine HK.out _ _ (fun _ => hW2.alloc hW2.size _) (fun _ => ?_)
            clear HK K
            try simp only [puts]
            refine WpK.one (i := 10) (by kernel_rfl) ((toArray_at _ _).trans rfl) ?_
            intro K hK
            have HK := Lib.hid hK
            clear hK
            have hz2 := hW2.size
            refine step_line rfl (.tmp 73) (.tmp 81) rfl (w2.heap.size + 1) va A V1 (B ++ [lnT F.v s.hi EB false]) rfl (hTn.swap.below (hW2.alloc hW2.size _)) W2.heap.size 1 (lnT F.v s.lo EA false) rfl (Bk.new _ _ [_, _, _, _]) (by omega) (by have := hBW.size; have := HRW.out.lt; simp; omega) ?_
            intro g2 c2 q2 hT2 hP2 hG2
            have hBq2 : Below (w2.heap.size + 1) W q2 := Below.trans (Below.mono (B := W.heap.size) (hW2.alloc hW2.size _) HRW.out.lt) hP2
            refine HK.out _ _ (fun h => absurd h (by decide)) (fun _ => ?_)
            clear HK K
            try simp only [puts]
            have hRq2 := (hBq2.block w2.heap.size (Nat.lt_succ_self _)).trans HRW.out
            have hRq2 : Bk q2 w2.heap.size 100 _ := hRq2
            have cq := hRq2.cell 6
            have fq := hRq2.frozen 6
            simp only [rnC, List.getElem?_cons_zero, List.getElem?_cons_succ] at cq
            refine WpK.one (i := 11) (by kernel_rfl) ((toArray_at _ _).trans rfl) ?_
            intro K hK
            have HK := Lib.hid hK
            clear hK
            go_simp
            refine HK.out _ _ (fun h => absurd h (by decide)) (fun _ => ?_)
            clear HK K
            try simp only [puts]
            refine WpK.one (i := 12) (by kernel_rfl) ((toArray_at _ _).trans rfl) ?_
            intro K hK
            have HK := Lib.hid hK
            clear hK
            go_simp
            refine HK.out _ _ (fun h => absurd h (by decide)) (fun _ => ?_)
            clear HK K
            try simp only [puts]
            refine WpK.done (by kernel_rfl) ?_
            clear hz2 cq fq
            go_wp2_with fail
            refine ⟨⟨k + 1, .slice (some ⟨g2, 0, none⟩) (A.length + 1) c2, V1, by omega, by go_num, ?_, ?_, ?_⟩, by simp [intOf]; omega⟩
            · rw [HRS.out]; exact hRq2.set 6 _
            · rw [HLS.out, HUS.out, if_pos ha]; exact (hT2.setCell (b := w2.heap.size) (j := 6) (Nat.lt_succ_self _) _)
            · exact (hBW.trans (hBq2.mono (Nat.le_succ _))).setCell (Nat.le_refl _) _
          · go_wp2_with fail
            refine ⟨⟨k + 1, va, .slice (some ⟨g1, 0, none⟩) (B.length + 1) c1, by omega, by go_num, ?_, ?_, hVS⟩, by simp [intOf]; omega⟩
            · rw [HRS.out]; exact hRn
            · rw [HLS.out, HUS.out, if_neg ha]; show TwoL _ _ _ _ _ _; simpa [lows, ups] using hTn.swap
    · have hkn : k = ni := by omega
      subst hkn
      have htk : I.take k = I := by rw [← hl.out]; exact List.take_length
      rw [htk] at hR hT
      obtain ⟨oa, ca, rfl, ma⟩ := hT.out.a.row.parts
      obtain ⟨ob, cb, rfl, mb⟩ := hT.out.b.row.parts
      obtain ⟨R, hR0⟩ : ∃ r, rnW F I = r := ⟨_, rfl⟩
      rw [hR0] at hR
      have HR0 := Lib.hid hR0
      clear hR0
      have q0 := hR.out.cell 0
      have q1 := hR.out.cell 1
      have q2 := hR.out.cell 2
      have q3 := hR.out.cell 3
      have q4 := hR.out.cell 4
      have q5 := hR.out.cell 5
      have q6 := hR.out.cell 6
      have q7 := hR.out.cell 7
      have q8 := hR.out.cell 8
      simp only [rnC, List.getElem?_cons_zero, List.getElem?_cons_succ] at q0 q1 q2 q3 q4 q5 q6 q7 q8
      have hB03 := bthen hb1 hb2
      have hB04 := bthen hB03 (Below.mono (B := w2.heap.size) hbl (Nat.le_refl _))
      have hZn := HZ0.out.below hB04
      have hzl := hZn.lt
      have f0 := hZn.frozen 0
      have p0 := hZn.cell 0
      have f1 := hZn.frozen 1
      have p1 := hZn.cell 1
      have f2 := hZn.frozen 2
      have p2 := hZn.cell 2
      have f3 := hZn.frozen 3
      have p3 := hZn.cell 3
      have f4 := hZn.frozen 4
      have p4 := hZn.cell 4
      have f5 := hZn.frozen 5
      have p5 := hZn.cell 5
      have f6 := hZn.frozen 6
      have p6 := hZn.cell 6
      have f7 := hZn.frozen 7
      have p7 := hZn.cell 7
      have f8 := hZn.frozen 8
      have p8 := hZn.cell 8
      have hzlt := HZ0.out.lt
      simp only [List.getElem?_cons_zero, List.getElem?_cons_succ] at p0 p1 p2 p3 p4 p5 p6 p7 p8
      have HZN := Lib.hid hZn
      clear hZn
      go_wp2_with fail
      have hfar : ∀ (W : World) (j : Nat) (u : Value), Bes w.heap.size wr W → Bes w.heap.size wr (W.setCell ⟨w.heap.size, j, none⟩ u) := fun W j u h => h.setCell j u
      have hBs := hfar _ 8 (.bool R.e) (hfar _ 7 (.slice ob (ups (linesL F I)).length cb) (hfar _ 6 (.slice oa (lows (linesL F I)).length ca) (hfar _ 5 (.bool R.hi.s) (hfar _ 4 (.int .i64 R.hi.d) (hfar _ 3 (.int .i64 R.hi.n) (hfar _ 2 (.bool R.lo.s) (hfar _ 1 (.int .i64 R.lo.d) (hfar _ 0 (.int .i64 R.lo.n) (Bes.refl _ _)))))))))
      have hzB := ((((((((((HZN.out.set 0 (.int .i64 R.lo.n)).set 1 (.int .i64 R.lo.d)).set 2 (.bool R.lo.s)).set 3 (.int .i64 R.hi.n)).set 4 (.int .i64 R.hi.d)).set 5 (.bool R.hi.s)).set 6 (.slice oa (lows (linesL F I)).length ca)).set 7 (.slice ob (ups (linesL F I)).length cb)).set 8 (.bool R.e)))
      refine bodyPost_ret (v := rnV R (.slice oa (lows (linesL F I)).length ca) (.slice ob (ups (linesL F I)).length cb)) (results_cell_row rfl _ _ w.heap.size _ _ (0, 0) _ rfl hzB Tryz.underlying100 rfl (by kernel_rfl)) rfl ⟨.slice oa (lows (linesL F I)).length ca, .slice ob (ups (linesL F I)).length cb, by rw [HR0.out], ?_, ?_, ?_⟩
      · exact bes_then ((Below.alloc (Below.refl _ _) (Nat.le_refl _) _).trans (hB04.mono (by simp))) hBs (Nat.le_refl _) (by omega)
      · exact ⟨OwnR.row (owns_bes hT.out.a hBs (by simp at hzlt; have := hB03.size; simp at this; omega)), OwnR.cap hT.out.a⟩
      · exact ⟨OwnR.row (owns_bes hT.out.b hBs (by simp at hzlt; have := hB03.size; simp at this; omega)), OwnR.cap hT.out.b⟩
end Go.Proofs.YtnfndiafabhhdaaGreat
