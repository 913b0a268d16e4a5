/- Walk of Seen (Wear). -/
import Derived.Test.YtnfndiafabhhdaaGreatD7
namespace Go.Proofs.YtnfndiafabhhdaaGreat
open Go.ChangeShapes Go.WideShapes Go.ChangeAt Go.RowKit
set_option maxRecDepth 100000 in
set_option maxHeartbeats 4000000 in
theorem Seen_any (F : Fl) (vv vs : Value) (m : Int) (w : World) (hF : FlIn w F vv vs) : Calls Tryz.prog 24 #[flV F vv vs, .int .i64 m] w fun e w' => e = .returned (seV F m) ∧ Below w.heap.size w w' := by
  obtain ⟨rq, hrq⟩ : ∃ q, inB m 0 ((F.s.length : Int) - 1) = q := ⟨_, rfl⟩
  have b2 := (Bk.new1 w (flO F vv vs) 3 [.int .i64 m]).alloc (Obj.cells #[.int .i64 0, .int .i64 0] 27)
  have b3 := Bk.new1 (w.alloc (flO F vv vs)) (Obj.cells #[.int .i64 m] 3) 27 [.int .i64 0, .int .i64 0]
  simp only [World.size_alloc] at b3
  have hO := ready_any F vv vs 81 #[.pointer (some ⟨w.heap.size + 1, 0, none⟩)] rq _ (((hF.alloc (flO F vv vs)).alloc (Obj.cells #[.int .i64 m] 3)).alloc (Obj.cells #[.int .i64 0, .int .i64 0] 27))
    (fun args W => by simp [go_sem]) (fun _ b pv W hb hS => by rw [← hrq]; exact Seen1_any F b _ _ pv m _ W hS ((b2.below hb).cell 0))
  obtain ⟨os, cs, rfl, ms⟩ := hF.s.parts
  obtain ⟨ov, cv, rfl, mv⟩ := hF.v.parts
  have HRQ := Lib.hid hrq
  have HO := Lib.hid hO
  have B2 := Lib.hid b2
  have B3 := Lib.hid b3
  clear hO hF b2 b3 hrq
  go_enter Tryz.func24, Tryz.ntmps24
  go_wp2_with fail
  refine HO.out.mono ?_
  rintro e w1 (⟨h0, rfl, hb1⟩ | ⟨h0, b, pv, va, vb, rfl, hb1, hK⟩)
  · have hwe : seV F m = .tuple #[raZ, .int .i64 (rdE F rq)] := by unfold seV; rw [HRQ.out, if_neg h0]
    obtain ⟨er, her⟩ : ∃ x, rdE F rq = x := ⟨_, rfl⟩
    have hbd := rdE_bd F rq
    rw [her] at h0 hbd hwe ⊢
    have hne : (er == 0) = false := by simpa using h0
    have HWE := Lib.hid hwe
    have hs1 := hb1.size
    simp only [World.size_alloc] at hs1
    have hbw : Below w.heap.size w w1 := Below.trans (Below.alloc (Below.alloc (Below.alloc (Below.refl _ _) (Nat.le_refl _) _) (by simp) _) (by simp; omega) _) (hb1.mono (by simp; omega))
    have h3 := (B3.out.below hb1).alloc (Obj.cells #[.pointer none, .int .i64 0, .int .i64 0, .bool false, .int .i64 0, .int .i64 0, .bool false, .slice none 0 0, .slice none 0 0, .bool false] 102)
    have H3 := Lib.hid h3
    have HBW := Lib.hid (hbw.alloc hbw.size (Obj.cells #[.pointer none, .int .i64 0, .int .i64 0, .bool false, .int .i64 0, .int .i64 0, .bool false, .slice none 0 0, .slice none 0 0, .bool false] 102))
    clear hbw hb1 her h3 hwe
    go_wp2_with (refine st_at rfl (T := 27) rfl rfl (cs := [.int .i64 0, .int .i64 0]) rfl H3.out (by kernel_rfl) rfl rfl ?_; intro wk hkk hsk)
    refine bodyPost_ret (ret_cell_tmp rfl _ _ rfl hkk Tryz.underlying27 rfl (by kernel_rfl)) rfl ⟨by rw [HWE.out]; rfl, ?_⟩
    exact bes_then HBW.out hsk (by omega) (by simp; omega)
  · have hR : rq = true := by
      rcases bool_ft rq with hf | hf
      · rw [hf] at h0
        unfold rdE at h0
        cases ho : okFl F <;> simp [ho] at h0
      · exact hf
    have HWE := Lib.hid (show seV F m = .tuple #[seS F m, .int .i64 0] by unfold seV; rw [HRQ.out, if_pos h0])
    obtain ⟨m0, m1⟩ := inB_t (HRQ.out.trans hR)
    obtain ⟨k, rfl⟩ : ∃ k : Nat, m = (k : Int) := ⟨m.toNat, by omega⟩
    have hk : k < F.s.length := by omega
    have n24 := hK.s.o.n
    obtain ⟨oa, ca, rfl, _⟩ := hK.a.parts
    obtain ⟨ob, cb, rfl, _⟩ := hK.b.parts
    obtain ⟨bs, fs, rfl, hbs, hcs⟩ := hK.s.f.s.cells (by omega)
    have hs1 := hb1.size
    simp only [World.size_alloc] at hs1
    have hbw : Below w.heap.size w w1 := Below.trans (Below.alloc (Below.alloc (Below.alloc (Below.refl _ _) (Nat.le_refl _) _) (by simp) _) (by simp; omega) _) (hb1.mono (by simp; omega))
    have hso : okSn (hgt F.v) (snA F.s k) = true := hK.s.o.s _ (by rw [snA, List.getElem?_eq_getElem hk, Option.getD_some]; exact List.getElem_mem hk)
    have d1 := hcs k 0 hk (by omega)
    have d2 := hcs k 1 hk (by omega)
    have d3 := hcs k 2 hk (by omega)
    have d4 := hcs k 3 hk (by omega)
    simp only [snF, Nat.add_zero] at d1 d2 d3 d4
    have hkn : (k : Int).toNat = k := by omega
    unfold seS at HWE
    rw [hkn] at HWE
    obtain ⟨s, hs⟩ : ∃ s, snA F.s k = s := ⟨_, rfl⟩
    rw [hs] at d1 d2 d3 d4 hso HWE
    have hlk : okLk (hgt F.v) s.k = true := by simp only [okSn, Bool.and_eq_true] at hso; exact hso.2
    obtain ⟨⟨n1, n2⟩, n3, n4⟩ := end_in hlk
    have c0 := hK.s.k.cell 5
    simp only [styC, List.getElem?_cons_zero, List.getElem?_cons_succ] at c0
    have hlt := hK.s.k.lt
    have hb4 := Bk.new w1 102 (knL b (knR F) (.slice oa (lows (linesL F (allL F))).length ca) (.slice ob (ups (linesL F (allL F))).length cb))
    have h2 := (B2.out.below hb1).cell 0
    simp only [List.getElem?_cons_zero] at h2
    have h2l := (B2.out.below hb1).lt
    have h3 := B3.out.below hb1
    obtain ⟨kr, hkr⟩ : ∃ r, knR F = r := ⟨_, rfl⟩
    have HKR := Lib.hid hkr
    rw [hkr] at hb4 ⊢
    obtain ⟨KO, hKO⟩ : ∃ o, Obj.cells #[.pointer (some ⟨b, 0, none⟩), .int .i64 kr.lo.n, .int .i64 kr.lo.d, .bool kr.lo.s, .int .i64 kr.hi.n, .int .i64 kr.hi.d, .bool kr.hi.s, .slice oa (lows (linesL F (allL F))).length ca, .slice ob (ups (linesL F (allL F))).length cb, .bool kr.e] 102 = o := ⟨_, rfl⟩
    have hB5 := ballo w1 KO
    have d1 := (hB5.cell (p := ⟨bs, fs + k * 4, none⟩) hbs).trans d1
    have d2 := (hB5.cell (p := ⟨bs, fs + k * 4 + 1, none⟩) hbs).trans d2
    have d3 := (hB5.cell (p := ⟨bs, fs + k * 4 + 2, none⟩) hbs).trans d3
    have d4 := (hB5.cell (p := ⟨bs, fs + k * 4 + 3, none⟩) hbs).trans d4
    have c0 := (hB5.cell (p := ⟨b, 5, none⟩) hlt).trans c0
    have h2 := (hB5.cell (p := ⟨w.heap.size + 1, 0, none⟩) h2l).trans h2
    have y0 := hb4.cell 0
    simp only [knL, List.getElem?_cons_zero] at y0
    have hbs := Nat.lt_of_lt_of_le hbs hB5.size
    have hlt := Nat.lt_of_lt_of_le hlt hB5.size
    have h2l := Nat.lt_of_lt_of_le h2l hB5.size
    have hwl := hb4.lt
    have HKN := Lib.hid (hK.alloc KO)
    have H3 := Lib.hid (h3.alloc KO)
    have HB4 := Lib.hid hb4
    have HBW := Lib.hid (hbw.alloc hbw.size KO)
    obtain ⟨N, hN⟩ : ∃ n, F.s.length = n := ⟨_, rfl⟩
    rw [hN] at hk n24 c0 m1 ⊢
    have HSZ := Lib.hid (show (w1.alloc KO).heap.size = w1.heap.size + 1 by simp)
    clear hcs hb1 hbw h3 hs hK hkn hso hN h0 hR hB5 hkr
    go_wp2_with fail
    try rw [hKO]
    obtain ⟨W, hWW⟩ : ∃ W, w1.alloc KO = W := ⟨_, rfl⟩
    have hb4' : w1.alloc (Obj.cells #[.pointer (some ⟨b, 0, none⟩), .int .i64 kr.lo.n, .int .i64 kr.lo.d, .bool kr.lo.s, .int .i64 kr.hi.n, .int .i64 kr.hi.d, .bool kr.hi.s, .slice oa (lows (linesL F (allL F))).length ca, .slice ob (ups (linesL F (allL F))).length cb, .bool kr.e] 102) = W := by rw [hKO]; exact hWW
    rw [hb4'] at hb4 y0 hwl
    rw [hWW] at d1 d2 d3 d4 c0 h2 hbs hlt h2l HKN H3 HBW HSZ ⊢
    clear hb4' hWW hKO
    go_region
    have hVW : Below W.heap.size W (W.alloc (Obj.cells #[.int .i64 s.lo, .int .i64 s.hi] 27)).drew := (Below.alloc (Below.refl _ _) (Nat.le_refl _) _).drew
    have hX := (Bk.new W 27 [.int .i64 s.lo, .int .i64 s.hi]).drew
    generalize hVV : (W.alloc (Obj.cells #[.int .i64 s.lo, .int .i64 s.hi] 27)).drew = V at *
    have hX : Bk V W.heap.size 27 [.int .i64 s.lo, .int .i64 s.hi] := by rw [← hVV]; exact (Bk.new W _ [_, _]).drew
    clear hVV
    go_wp2_with fail
    refine WpK.begin (S := fun _ => True) (kp := fun _ => true) (f := 15) (up := #[false, false, false, false, false, false, false, false, false, false, false, false, false, false, false]) (by kernel_rfl) (by kernel_rfl) (by kernel_rfl) ?_
    refine WpK.take (i := 0) (v := ?_) ((toArray_at _ _).trans rfl) (by kernel_rfl) (by kernel_rfl) (by kernel_rfl) (by kernel_rfl) (by kernel_rfl) (fun _ _ _ h => h) (Or.inl ⟨by rfl, ?_⟩) trivial ?_
    rotate_left
    · (intro x hx; go_simp <;> with_reducible rfl)
    simp only [Act.put, puts]
    refine WpK.take (i := 2) (v := ?_) ((toArray_at _ _).trans rfl) (by kernel_rfl) (by kernel_rfl) (by kernel_rfl) (by kernel_rfl) (by kernel_rfl) (fun _ _ _ h => h) (Or.inl ⟨by rfl, ?_⟩) trivial ?_
    rotate_left
    · (intro x hx; go_simp <;> with_reducible rfl)
    simp only [Act.put, puts]
    refine WpK.weaken (S := fun x => Below W.heap.size W x) (kp := (fun i => decide (i < 14))) (fun _ => trivial) _ ?_
    have hS0 := (show Below W.heap.size W V.drew from hVW.drew)
    refine WpK.take (i := 1) (v := ?_) ((toArray_at _ _).trans rfl) (by kernel_rfl) (by kernel_rfl) (by kernel_rfl) (by kernel_rfl) (by kernel_rfl) (fun _ _ _ h => h) (Or.inl ⟨by rfl, ?_⟩) hS0 ?_
    rotate_left
    · (intro x hx; obtain ⟨hcx, hfx⟩ := bcell hx; go_simp <;> with_reducible rfl)
    try simp only [Act.put, puts]
    refine WpK.take (i := 3) (v := ?_) ((toArray_at _ _).trans rfl) (by kernel_rfl) (by kernel_rfl) (by kernel_rfl) (by kernel_rfl) (by kernel_rfl) (fun _ _ _ h => h) (Or.inl ⟨by rfl, ?_⟩) hS0 ?_
    rotate_left
    · (intro x hx; obtain ⟨hcx, hfx⟩ := bcell hx; go_simp <;> with_reducible rfl)
    try simp only [Act.put, puts]
    refine WpK.take (i := 4) (v := ?_) ((toArray_at _ _).trans rfl) (by kernel_rfl) (by kernel_rfl) (by kernel_rfl) (by kernel_rfl) (by kernel_rfl) (fun _ _ _ h => h) (Or.inl ⟨by rfl, ?_⟩) hS0 ?_
    rotate_left
    · (intro x hx; obtain ⟨hcx, hfx⟩ := bcell hx; go_simp <;> with_reducible rfl)
    try simp only [Act.put, puts]
    refine WpK.take (i := 5) (v := ?_) ((toArray_at _ _).trans rfl) (by kernel_rfl) (by kernel_rfl) (by kernel_rfl) (by kernel_rfl) (by kernel_rfl) (fun _ _ _ h => h) (Or.inl ⟨by rfl, ?_⟩) hS0 ?_
    rotate_left
    · (intro x hx; obtain ⟨hcx, hfx⟩ := bcell hx; go_simp <;> with_reducible rfl)
    try simp only [Act.put, puts]
    refine WpK.take (i := 6) (v := ?_) ((toArray_at _ _).trans rfl) (by kernel_rfl) (by kernel_rfl) (by kernel_rfl) (by kernel_rfl) (by kernel_rfl) (fun _ _ _ h => h) (Or.inl ⟨by rfl, ?_⟩) hS0 ?_
    rotate_left
    · (intro x hx; obtain ⟨hcx, hfx⟩ := bcell hx; go_simp <;> with_reducible rfl)
    try simp only [Act.put, puts]
    refine WpK.take (i := 7) (v := ?_) ((toArray_at _ _).trans rfl) (by kernel_rfl) (by kernel_rfl) (by kernel_rfl) (by kernel_rfl) (by kernel_rfl) (fun _ _ _ h => h) (Or.inl ⟨by rfl, ?_⟩) hS0 ?_
    rotate_left
    · (intro x hx; obtain ⟨hcx, hfx⟩ := bcell hx; go_simp <;> with_reducible rfl)
    try simp only [Act.put, puts]
    refine WpK.take (i := 8) (v := ?_) ((toArray_at _ _).trans rfl) (by kernel_rfl) (by kernel_rfl) (by kernel_rfl) (by kernel_rfl) (by kernel_rfl) (fun _ _ _ h => h) (Or.inl ⟨by rfl, ?_⟩) hS0 ?_
    rotate_left
    · (intro x hx; obtain ⟨hcx, hfx⟩ := bcell hx; go_simp <;> with_reducible rfl)
    try simp only [Act.put, puts]
    refine WpK.take (i := 9) (v := ?_) ((toArray_at _ _).trans rfl) (by kernel_rfl) (by kernel_rfl) (by kernel_rfl) (by kernel_rfl) (by kernel_rfl) (fun _ _ _ h => h) (Or.inl ⟨by rfl, ?_⟩) hS0 ?_
    rotate_left
    · (intro x hx; obtain ⟨hcx, hfx⟩ := bcell hx; go_simp <;> with_reducible rfl)
    try simp only [Act.put, puts]
    refine WpK.take (i := 10) (v := ?_) ((toArray_at _ _).trans rfl) (by kernel_rfl) (by kernel_rfl) (by kernel_rfl) (by kernel_rfl) (by kernel_rfl) (fun _ _ _ h => h) (Or.inl ⟨by rfl, ?_⟩) hS0 ?_
    rotate_left
    · (intro x hx; obtain ⟨hcx, hfx⟩ := bcell hx; go_simp <;> with_reducible rfl)
    try simp only [Act.put, puts]
    refine WpK.take (i := 11) (v := ?_) ((toArray_at _ _).trans rfl) (by kernel_rfl) (by kernel_rfl) (by kernel_rfl) (by kernel_rfl) (by kernel_rfl) (fun _ _ _ h => h) (Or.inl ⟨by rfl, ?_⟩) hS0 ?_
    rotate_left
    · (intro x hx; obtain ⟨hcx, hfx⟩ := bcell hx; go_simp <;> with_reducible rfl)
    try simp only [Act.put, puts]
    clear hS0
    refine WpK.two (i := 12) (k := 13) (by kernel_rfl) ((toArray_at _ _).trans rfl) ((toArray_at _ _).trans rfl) ?_ ?_
    all_goals
      intro K hK
      have HK := Lib.hid hK
      clear hK
    · go_simp
      refine (levels_any F b _ _ pv s.k _ (HKN.out.s.below (hVW.trans (Below.drew (Below.mono (Below.refl _ _) hVW.size)))) hlk).mono ?_
      rintro e W2 ⟨rfl, hbq⟩
      have hW2 : Below W.heap.size W W2 := hVW.trans ((Below.drew (Below.refl _ _)).trans (hbq.mono hVW.size))
      have hX2 : Bk W2 W.heap.size 27 [.int .i64 s.lo, .int .i64 s.hi] := hX.drew.below hbq
      refine HK.out _ _ (fun _ => hW2) (fun _ => ?_)
      clear HK K
      try simp only [puts]
      refine WpK.one (i := 13) (by kernel_rfl) ((toArray_at _ _).trans rfl) ?_
      intro K hK
      have HK := Lib.hid hK
      clear hK
      go_simp
      refine HK.out _ _ (fun _ => hW2.alloc hW2.size _) (fun _ => ?_)
      clear HK K
      try simp only [puts]
      refine WpK.one (i := 14) (by kernel_rfl) ((toArray_at _ _).trans rfl) ?_
      intro K hK
      have HK := Lib.hid hK
      clear hK
      go_simp
      refine HK.out _ _ (fun h => absurd h (by decide)) (fun _ => ?_)
      clear HK K
      try simp only [puts]
      refine WpK.done (by kernel_rfl) ?_
      have hU := hW2.alloc hW2.size (Obj.cells #[.int .i64 (endA s.k), .int .i64 (endB (hgt F.v) s.k)] 27)
      have hXU := hX2.alloc (Obj.cells #[.int .i64 (endA s.k), .int .i64 (endB (hgt F.v) s.k)] 27)
      have hLU := Bk.new W2 27 [.int .i64 (endA s.k), .int .i64 (endB (hgt F.v) s.k)]
      have hne : W.heap.size ≠ W2.heap.size := by have := hX2.lt; omega
      have hge : W.heap.size ≤ W2.heap.size := hW2.size
      obtain ⟨lb, hlb⟩ : ∃ x, W2.heap.size = x := ⟨_, rfl⟩
      rw [hlb] at hLU hne hge ⊢
      generalize hUU : W2.alloc (Obj.cells #[.int .i64 (endA s.k), .int .i64 (endB (hgt F.v) s.k)] 27) = U at *
      have hLU : Bk U lb 27 [.int .i64 (endA s.k), .int .i64 (endB (hgt F.v) s.k)] := by rw [← hUU, ← hlb]; exact Bk.new W2 _ [_, _]
      clear hX2 hW2 hbq hX hVW hUU hlb
      go_wp2_with fail
      have hUs := hU.size
      have hlbl := hLU.lt
      have hxl := hXU.lt
      have u0 := hXU.cell 0
      have u1 := hXU.cell 1
      have l0 := hLU.cell 0
      have l1 := hLU.cell 1
      simp only [List.getElem?_cons_zero, List.getElem?_cons_succ] at u0 u1 l0 l1
      have hkU := hb4.below hU
      have yl := hkU.lt
      have y0 := hkU.cell 0
      have y1 := hkU.cell 1
      have y2 := hkU.cell 2
      have y3 := hkU.cell 3
      have y4 := hkU.cell 4
      have y5 := hkU.cell 5
      have y6 := hkU.cell 6
      have y7 := hkU.cell 7
      have y8 := hkU.cell 8
      have y9 := hkU.cell 9
      simp only [knL, List.getElem?_cons_zero, List.getElem?_cons_succ] at y0 y1 y2 y3 y4 y5 y6 y7 y8 y9
      refine WpK.begin (S := fun _ => True) (kp := fun _ => true) (f := 10) (up := #[false, false, false, false, false, false, false, false, false, false]) (by kernel_rfl) (by kernel_rfl) (by kernel_rfl) ?_
      refine WpK.take (i := 0) (v := ?_) ((toArray_at _ _).trans rfl) (by kernel_rfl) (by kernel_rfl) (by kernel_rfl) (by kernel_rfl) (by kernel_rfl) (fun _ _ _ h => h) (Or.inl ⟨by rfl, ?_⟩) trivial ?_
      rotate_left
      · (intro x hx; go_simp <;> with_reducible rfl)
      simp only [Act.put, puts]
      refine WpK.take (i := 3) (v := ?_) ((toArray_at _ _).trans rfl) (by kernel_rfl) (by kernel_rfl) (by kernel_rfl) (by kernel_rfl) (by kernel_rfl) (fun _ _ _ h => h) (Or.inl ⟨by rfl, ?_⟩) trivial ?_
      rotate_left
      · (intro x hx; go_simp <;> with_reducible rfl)
      simp only [Act.put, puts]
      refine WpK.weaken (S := fun x => Below U.heap.size U x) (kp := (fun i => decide (i < 8))) (fun _ => trivial) _ ?_
      have hS0 := (show Below U.heap.size U U.drew from (Below.refl _ _).drew)
      refine WpK.take (i := 1) (v := ?_) ((toArray_at _ _).trans rfl) (by kernel_rfl) (by kernel_rfl) (by kernel_rfl) (by kernel_rfl) (by kernel_rfl) (fun _ _ _ h => h) (Or.inl ⟨by rfl, ?_⟩) hS0 ?_
      rotate_left
      · (intro x hx; obtain ⟨hcx, hfx⟩ := bcell hx; go_simp <;> with_reducible rfl)
      try simp only [Act.put, puts]
      refine WpK.take (i := 2) (v := ?_) ((toArray_at _ _).trans rfl) (by kernel_rfl) (by kernel_rfl) (by kernel_rfl) (by kernel_rfl) (by kernel_rfl) (fun _ _ _ h => h) (Or.inl ⟨by rfl, ?_⟩) hS0 ?_
      rotate_left
      · (intro x hx; obtain ⟨hcx, hfx⟩ := bcell hx; go_simp <;> with_reducible rfl)
      try simp only [Act.put, puts]
      refine WpK.take (i := 4) (v := ?_) ((toArray_at _ _).trans rfl) (by kernel_rfl) (by kernel_rfl) (by kernel_rfl) (by kernel_rfl) (by kernel_rfl) (fun _ _ _ h => h) (Or.inl ⟨by rfl, ?_⟩) hS0 ?_
      rotate_left
      · (intro x hx; obtain ⟨hcx, hfx⟩ := bcell hx; go_simp <;> with_reducible rfl)
      try simp only [Act.put, puts]
      clear hS0
      refine WpK.one (i := 5) (by kernel_rfl) ((toArray_at _ _).trans rfl) ?_
      intro K hK
      have HK := Lib.hid hK
      clear hK
      go_simp
      have hR := reached_any F b _ _ pv oa ob ca cb (endB (hgt F.v) s.k) U.drew ((HKN.out.below hU).below (Below.drew (Below.refl _ _))) (by omega) n4
      rw [HKR.out] at hR
      refine hR.mono ?_
      rintro e U2 ⟨rfl, hbu⟩
      have hU2 : Below U.heap.size U U2 := (Below.drew (Below.refl _ _)).trans hbu
      have hX2 := hXU.below hU2
      have hL2 := hLU.below hU2
      have hu2 := hU2.size
      have u0 := hX2.cell 0
      have f0 := hX2.frozen 0
      have u1 := hX2.cell 1
      have l0 := hL2.cell 0
      simp only [List.getElem?_cons_zero, List.getElem?_cons_succ] at u0 u1 l0
      refine HK.out _ _ (fun _ => hU2) (fun _ => ?_)
      clear HK K
      try simp only [puts]
      refine WpK.one (i := 6) (by kernel_rfl) ((toArray_at _ _).trans rfl) ?_
      intro K hK
      have HK := Lib.hid hK
      clear hK
      go_simp
      refine HK.out _ _ (fun _ => hU2) (fun _ => ?_)
      clear HK K
      try simp only [puts]
      refine WpK.one (i := 7) (by kernel_rfl) ((toArray_at _ _).trans rfl) ?_
      intro K hK
      have HK := Lib.hid hK
      clear hK
      go_simp
      refine HK.out _ _ (fun _ => hU2) (fun _ => ?_)
      clear HK K
      try simp only [puts]
      refine WpK.one (i := 8) (by kernel_rfl) ((toArray_at _ _).trans rfl) ?_
      intro K hK
      have HK := Lib.hid hK
      clear hK
      go_simp
      refine HK.out _ _ (fun h => absurd h (by decide)) (fun _ => ?_)
      clear HK K
      try simp only [puts]
      refine WpK.one (i := 9) (by kernel_rfl) ((toArray_at _ _).trans rfl) ?_
      intro K hK
      have HK := Lib.hid hK
      clear hK
      go_simp
      refine HK.out _ _ (fun h => absurd h (by decide)) (fun _ => ?_)
      clear HK K
      try simp only [puts]
      refine WpK.done (by kernel_rfl) ?_
      obtain ⟨XL, hXL⟩ : ∃ x, max s.lo (lastNot (fun n => decide (0 < n) && unB F (endB (hgt F.v) s.k) n) 24 0 2097152) = x := ⟨_, rfl⟩
      rw [hXL]
      have HXL := Lib.hid (show seL F s = XL from hXL)
      have hX3 := hX2.set 0 (.int .i64 XL)
      have hL3 := hL2.far (p := ⟨W.heap.size, 0, none⟩) hne.symm (.int .i64 XL)
      have hU3 : Below W.heap.size W (U2.setCell ⟨W.heap.size, 0, none⟩ (.int .i64 XL)) := (hU.trans (hU2.mono hUs)).setCell (Nat.le_refl _) _
      clear hXL u0 u1 l0 l1 f0 hR hbu hU2 hX2 hL2 y0 y1 y2 y3 y4 y5 y6 y7 y8 y9 yl hkU hXU hLU hU hUs hlbl hxl hu2
      generalize hU3e : U2.setCell ⟨W.heap.size, 0, none⟩ (.int .i64 XL) = U at *
      have u0 := hX3.cell 0
      have u1 := hX3.cell 1
      have u2 := hX3.lt
      have l0 := hL3.cell 0
      have l2 := hL3.lt
      simp only [List.getElem?_cons_zero, List.getElem?_cons_succ, List.set_cons_zero] at u0 u1 l0 hX3
      by_cases hea : 0 < endA s.k
      · have hUs := hU3.size
        have hkU := hb4.below hU3
        have yl := hkU.lt
        have y0 := hkU.cell 0
        have y1 := hkU.cell 1
        have y2 := hkU.cell 2
        have y3 := hkU.cell 3
        have y4 := hkU.cell 4
        have y5 := hkU.cell 5
        have y6 := hkU.cell 6
        have y7 := hkU.cell 7
        have y8 := hkU.cell 8
        have y9 := hkU.cell 9
        simp only [knL, List.getElem?_cons_zero, List.getElem?_cons_succ] at y0 y1 y2 y3 y4 y5 y6 y7 y8 y9
        go_wp2_with fail
        refine WpK.begin (S := fun _ => True) (kp := fun _ => true) (f := 10) (up := #[false, false, false, false, false, false, false, false, false, false]) (by kernel_rfl) (by kernel_rfl) (by kernel_rfl) ?_
        refine WpK.take (i := 0) (v := ?_) ((toArray_at _ _).trans rfl) (by kernel_rfl) (by kernel_rfl) (by kernel_rfl) (by kernel_rfl) (by kernel_rfl) (fun _ _ _ h => h) (Or.inl ⟨by rfl, ?_⟩) trivial ?_
        rotate_left
        · (intro x hx; go_simp <;> with_reducible rfl)
        simp only [Act.put, puts]
        refine WpK.take (i := 3) (v := ?_) ((toArray_at _ _).trans rfl) (by kernel_rfl) (by kernel_rfl) (by kernel_rfl) (by kernel_rfl) (by kernel_rfl) (fun _ _ _ h => h) (Or.inl ⟨by rfl, ?_⟩) trivial ?_
        rotate_left
        · (intro x hx; go_simp <;> with_reducible rfl)
        simp only [Act.put, puts]
        refine WpK.weaken (S := fun x => Below U.heap.size U x) (kp := (fun i => decide (i < 8))) (fun _ => trivial) _ ?_
        have hS0 := (show Below U.heap.size U U.drew from (Below.refl _ _).drew)
        refine WpK.take (i := 1) (v := ?_) ((toArray_at _ _).trans rfl) (by kernel_rfl) (by kernel_rfl) (by kernel_rfl) (by kernel_rfl) (by kernel_rfl) (fun _ _ _ h => h) (Or.inl ⟨by rfl, ?_⟩) hS0 ?_
        rotate_left
        · (intro x hx; obtain ⟨hcx, hfx⟩ := bcell hx; go_simp <;> with_reducible rfl)
        try simp only [Act.put, puts]
        refine WpK.take (i := 2) (v := ?_) ((toArray_at _ _).trans rfl) (by kernel_rfl) (by kernel_rfl) (by kernel_rfl) (by kernel_rfl) (by kernel_rfl) (fun _ _ _ h => h) (Or.inl ⟨by rfl, ?_⟩) hS0 ?_
        rotate_left
        · (intro x hx; obtain ⟨hcx, hfx⟩ := bcell hx; go_simp <;> with_reducible rfl)
        try simp only [Act.put, puts]
        refine WpK.take (i := 4) (v := ?_) ((toArray_at _ _).trans rfl) (by kernel_rfl) (by kernel_rfl) (by kernel_rfl) (by kernel_rfl) (by kernel_rfl) (fun _ _ _ h => h) (Or.inl ⟨by rfl, ?_⟩) hS0 ?_
        rotate_left
        · (intro x hx; obtain ⟨hcx, hfx⟩ := bcell hx; go_simp <;> with_reducible rfl)
        try simp only [Act.put, puts]
        clear hS0
        refine WpK.one (i := 5) (by kernel_rfl) ((toArray_at _ _).trans rfl) ?_
        intro K hK
        have HK := Lib.hid hK
        clear hK
        go_simp
        have hR := reached_any F b _ _ pv oa ob ca cb (endA s.k) U.drew ((HKN.out.below hU3).below (Below.drew (Below.refl _ _))) (by omega) (by omega)
        rw [HKR.out] at hR
        refine hR.mono ?_
        rintro e U2 ⟨rfl, hbu⟩
        have hU2 : Below U.heap.size U U2 := (Below.drew (Below.refl _ _)).trans hbu
        have hX2 := hX3.below hU2
        have hu2 := hU2.size
        have v0 := hX2.cell 1
        have v1 := hX2.frozen 1
        simp only [List.getElem?_cons_zero, List.getElem?_cons_succ] at v0
        refine HK.out _ _ (fun _ => hU2) (fun _ => ?_)
        clear HK K
        try simp only [puts]
        refine WpK.one (i := 6) (by kernel_rfl) ((toArray_at _ _).trans rfl) ?_
        intro K hK
        have HK := Lib.hid hK
        clear hK
        go_simp
        refine HK.out _ _ (fun _ => hU2) (fun _ => ?_)
        clear HK K
        try simp only [puts]
        refine WpK.one (i := 7) (by kernel_rfl) ((toArray_at _ _).trans rfl) ?_
        intro K hK
        have HK := Lib.hid hK
        clear hK
        go_simp
        refine HK.out _ _ (fun _ => hU2) (fun _ => ?_)
        clear HK K
        try simp only [puts]
        refine WpK.one (i := 8) (by kernel_rfl) ((toArray_at _ _).trans rfl) ?_
        intro K hK
        have HK := Lib.hid hK
        clear hK
        go_simp
        refine HK.out _ _ (fun h => absurd h (by decide)) (fun _ => ?_)
        clear HK K
        try simp only [puts]
        refine WpK.one (i := 9) (by kernel_rfl) ((toArray_at _ _).trans rfl) ?_
        intro K hK
        have HK := Lib.hid hK
        clear hK
        go_simp
        refine HK.out _ _ (fun h => absurd h (by decide)) (fun _ => ?_)
        clear HK K
        try simp only [puts]
        refine WpK.done (by kernel_rfl) ?_
        obtain ⟨XH, hXH⟩ : ∃ x, min s.hi (firstNot (fun n => ovB F (endA s.k) n) 24 0 2097152) = x := ⟨_, rfl⟩
        rw [hXH]
        have HXH := Lib.hid (show seH F s = XH by unfold seH; rw [if_pos hea]; exact hXH)
        have hX4 := hX2.set 1 (.int .i64 XH)
        have hU4 : Below W.heap.size W (U2.setCell ⟨W.heap.size, 1, none⟩ (.int .i64 XH)) := (hU3.trans (hU2.mono hUs)).setCell (Nat.le_refl _) _
        have w0 := hX4.cell 0
        have w1 := hX4.cell 1
        simp only [List.getElem?_cons_zero, List.getElem?_cons_succ, List.set_cons_zero, List.set_cons_succ] at w0 w1
        have h3U := H3.out.below hU4
        have hw4 := hU4.size
        clear hXH u0 u1 l0 hR hbu hU2 hX2 y0 y1 y2 y3 y4 y5 y6 y7 y8 y9 yl hkU hU3 hUs hu2 hX4 v0 v1
        generalize hU4e : U2.setCell ⟨W.heap.size, 1, none⟩ (.int .i64 XH) = U4 at *
        have HU4 := Lib.hid hU4
        clear hU4
        go_wp2_with (refine st_at rfl (T := 27) rfl rfl (cs := [.int .i64 XL, .int .i64 XH]) rfl h3U (by kernel_rfl) rfl rfl ?_; intro wk hkk hsk)
        refine bodyPost_ret (ret_cell_tmp rfl _ _ rfl hkk Tryz.underlying27 rfl (by kernel_rfl)) rfl ⟨by rw [HWE.out, HXL.out, HXH.out]; rfl, ?_⟩
        exact bes_then (HBW.out.trans (HU4.out.mono HBW.out.size)) hsk (by omega) (by have := HBW.out.size; omega)
      · have HXH := Lib.hid (show seH F s = s.hi by unfold seH; rw [if_neg hea])
        have h3U := H3.out.below hU3
        have hw4 := hU3.size
        have HU3 := Lib.hid hU3
        clear hU3
        go_wp2_with (refine st_at rfl (T := 27) rfl rfl (cs := [.int .i64 XL, .int .i64 s.hi]) rfl h3U (by kernel_rfl) rfl rfl ?_; intro wk hkk hsk)
        refine bodyPost_ret (ret_cell_tmp rfl _ _ rfl hkk Tryz.underlying27 rfl (by kernel_rfl)) rfl ⟨by rw [HWE.out, HXL.out, HXH.out]; rfl, ?_⟩
        exact bes_then (HBW.out.trans (HU3.out.mono HBW.out.size)) hsk (by omega) (by have := HBW.out.size; omega)
    · go_simp
      have hVZ : Below W.heap.size W (V.drew.alloc (Obj.cells #[.int .i64 0, .int .i64 0] 27)) := (Below.drew hVW).alloc hVW.size _
      have hL : Bk (V.drew.alloc (Obj.cells #[.int .i64 0, .int .i64 0] 27)) V.heap.size 27 [.int .i64 0, .int .i64 0] := Bk.new V.drew _ [_, _]
      have hX0 := hX.drew.alloc (Obj.cells #[.int .i64 0, .int .i64 0] 27)
      refine HK.out _ _ (fun _ => hVZ) (fun _ => ?_)
      clear HK K
      try simp only [puts]
      refine WpK.one (i := 12) (by kernel_rfl) ((toArray_at _ _).trans rfl) ?_
      intro K hK
      have HK := Lib.hid hK
      clear hK
      go_simp
      refine (levels_any F b _ _ pv s.k _ (HKN.out.s.below hVZ) hlk).mono ?_
      rintro e W2 ⟨rfl, hbq⟩
      have hW2 : Below W.heap.size W W2 := hVZ.trans (hbq.mono hVZ.size)
      have hX2 : Bk W2 W.heap.size 27 [.int .i64 s.lo, .int .i64 s.hi] := hX0.below hbq
      have hL2 := hL.below hbq
      have hne : W.heap.size ≠ V.heap.size := by have := hX.lt; omega
      have hge : W.heap.size ≤ V.heap.size := hVW.size
      refine HK.out _ _ (fun _ => hW2) (fun _ => ?_)
      clear HK K
      try simp only [puts]
      have l0 := hL2.cell 0
      have l1 := hL2.cell 1
      have f0 := hL2.frozen 0
      have f1 := hL2.frozen 1
      simp only [List.getElem?_cons_zero, List.getElem?_cons_succ] at l0 l1
      refine WpK.one (i := 14) (by kernel_rfl) ((toArray_at _ _).trans rfl) ?_
      intro K hK
      have HK := Lib.hid hK
      clear hK
      go_simp
      refine HK.out _ _ (fun h => absurd h (by decide)) (fun _ => ?_)
      clear HK K
      try simp only [puts]
      refine WpK.done (by kernel_rfl) ?_
      have hU := (hW2.setCell (p := ⟨V.heap.size, 0, none⟩) hge (.int .i64 (endA s.k))).setCell (p := ⟨V.heap.size, 1, none⟩) hge (.int .i64 (endB (hgt F.v) s.k))
      have hXU := (hX2.far (p := ⟨V.heap.size, 0, none⟩) hne (.int .i64 (endA s.k))).far (p := ⟨V.heap.size, 1, none⟩) hne (.int .i64 (endB (hgt F.v) s.k))
      have hLU := (hL2.set 0 (.int .i64 (endA s.k))).set 1 (.int .i64 (endB (hgt F.v) s.k))
      simp only [List.set_cons_zero, List.set_cons_succ] at hLU
      obtain ⟨lb, hlb⟩ : ∃ x, V.heap.size = x := ⟨_, rfl⟩
      rw [hlb] at hLU hXU hU hne hge ⊢
      generalize hUU : (W2.setCell ⟨lb, 0, none⟩ (.int .i64 (endA s.k))).setCell ⟨lb, 1, none⟩ (.int .i64 (endB (hgt F.v) s.k)) = U at *
      clear l0 l1 f0 f1 hL hL2 hX0 hX2 hW2 hVZ hbq hX hVW hUU hlb
      go_wp2_with fail
      have hUs := hU.size
      have hlbl := hLU.lt
      have hxl := hXU.lt
      have u0 := hXU.cell 0
      have u1 := hXU.cell 1
      have l0 := hLU.cell 0
      have l1 := hLU.cell 1
      simp only [List.getElem?_cons_zero, List.getElem?_cons_succ] at u0 u1 l0 l1
      have hkU := hb4.below hU
      have yl := hkU.lt
      have y0 := hkU.cell 0
      have y1 := hkU.cell 1
      have y2 := hkU.cell 2
      have y3 := hkU.cell 3
      have y4 := hkU.cell 4
      have y5 := hkU.cell 5
      have y6 := hkU.cell 6
      have y7 := hkU.cell 7
      have y8 := hkU.cell 8
      have y9 := hkU.cell 9
      simp only [knL, List.getElem?_cons_zero, List.getElem?_cons_succ] at y0 y1 y2 y3 y4 y5 y6 y7 y8 y9
      refine WpK.begin (S := fun _ => True) (kp := fun _ => true) (f := 10) (up := #[false, false, false, false, false, false, false, false, false, false]) (by kernel_rfl) (by kernel_rfl) (by kernel_rfl) ?_
      refine WpK.take (i := 0) (v := ?_) ((toArray_at _ _).trans rfl) (by kernel_rfl) (by kernel_rfl) (by kernel_rfl) (by kernel_rfl) (by kernel_rfl) (fun _ _ _ h => h) (Or.inl ⟨by rfl, ?_⟩) trivial ?_
      rotate_left
      · (intro x hx; go_simp <;> with_reducible rfl)
      simp only [Act.put, puts]
      refine WpK.take (i := 3) (v := ?_) ((toArray_at _ _).trans rfl) (by kernel_rfl) (by kernel_rfl) (by kernel_rfl) (by kernel_rfl) (by kernel_rfl) (fun _ _ _ h => h) (Or.inl ⟨by rfl, ?_⟩) trivial ?_
      rotate_left
      · (intro x hx; go_simp <;> with_reducible rfl)
      simp only [Act.put, puts]
      refine WpK.weaken (S := fun x => Below U.heap.size U x) (kp := (fun i => decide (i < 8))) (fun _ => trivial) _ ?_
      have hS0 := (show Below U.heap.size U U.drew from (Below.refl _ _).drew)
      refine WpK.take (i := 1) (v := ?_) ((toArray_at _ _).trans rfl) (by kernel_rfl) (by kernel_rfl) (by kernel_rfl) (by kernel_rfl) (by kernel_rfl) (fun _ _ _ h => h) (Or.inl ⟨by rfl, ?_⟩) hS0 ?_
      rotate_left
      · (intro x hx; obtain ⟨hcx, hfx⟩ := bcell hx; go_simp <;> with_reducible rfl)
      try simp only [Act.put, puts]
      refine WpK.take (i := 2) (v := ?_) ((toArray_at _ _).trans rfl) (by kernel_rfl) (by kernel_rfl) (by kernel_rfl) (by kernel_rfl) (by kernel_rfl) (fun _ _ _ h => h) (Or.inl ⟨by rfl, ?_⟩) hS0 ?_
      rotate_left
      · (intro x hx; obtain ⟨hcx, hfx⟩ := bcell hx; go_simp <;> with_reducible rfl)
      try simp only [Act.put, puts]
      refine WpK.take (i := 4) (v := ?_) ((toArray_at _ _).trans rfl) (by kernel_rfl) (by kernel_rfl) (by kernel_rfl) (by kernel_rfl) (by kernel_rfl) (fun _ _ _ h => h) (Or.inl ⟨by rfl, ?_⟩) hS0 ?_
      rotate_left
      · (intro x hx; obtain ⟨hcx, hfx⟩ := bcell hx; go_simp <;> with_reducible rfl)
      try simp only [Act.put, puts]
      clear hS0
      refine WpK.one (i := 5) (by kernel_rfl) ((toArray_at _ _).trans rfl) ?_
      intro K hK
      have HK := Lib.hid hK
      clear hK
      go_simp
      have hR := reached_any F b _ _ pv oa ob ca cb (endB (hgt F.v) s.k) U.drew ((HKN.out.below hU).below (Below.drew (Below.refl _ _))) (by omega) n4
      rw [HKR.out] at hR
      refine hR.mono ?_
      rintro e U2 ⟨rfl, hbu⟩
      have hU2 : Below U.heap.size U U2 := (Below.drew (Below.refl _ _)).trans hbu
      have hX2 := hXU.below hU2
      have hL2 := hLU.below hU2
      have hu2 := hU2.size
      have u0 := hX2.cell 0
      have f0 := hX2.frozen 0
      have u1 := hX2.cell 1
      have l0 := hL2.cell 0
      simp only [List.getElem?_cons_zero, List.getElem?_cons_succ] at u0 u1 l0
      refine HK.out _ _ (fun _ => hU2) (fun _ => ?_)
      clear HK K
      try simp only [puts]
      refine WpK.one (i := 6) (by kernel_rfl) ((toArray_at _ _).trans rfl) ?_
      intro K hK
      have HK := Lib.hid hK
      clear hK
      go_simp
      refine HK.out _ _ (fun _ => hU2) (fun _ => ?_)
      clear HK K
      try simp only [puts]
      refine WpK.one (i := 7) (by kernel_rfl) ((toArray_at _ _).trans rfl) ?_
      intro K hK
      have HK := Lib.hid hK
      clear hK
      go_simp
      refine HK.out _ _ (fun _ => hU2) (fun _ => ?_)
      clear HK K
      try simp only [puts]
      refine WpK.one (i := 8) (by kernel_rfl) ((toArray_at _ _).trans rfl) ?_
      intro K hK
      have HK := Lib.hid hK
      clear hK
      go_simp
      refine HK.out _ _ (fun h => absurd h (by decide)) (fun _ => ?_)
      clear HK K
      try simp only [puts]
      refine WpK.one (i := 9) (by kernel_rfl) ((toArray_at _ _).trans rfl) ?_
      intro K hK
      have HK := Lib.hid hK
      clear hK
      go_simp
      refine HK.out _ _ (fun h => absurd h (by decide)) (fun _ => ?_)
      clear HK K
      try simp only [puts]
      refine WpK.done (by kernel_rfl) ?_
      obtain ⟨XL, hXL⟩ : ∃ x, max s.lo (lastNot (fun n => decide (0 < n) && unB F (endB (hgt F.v) s.k) n) 24 0 2097152) = x := ⟨_, rfl⟩
      rw [hXL]
      have HXL := Lib.hid (show seL F s = XL from hXL)
      have hX3 := hX2.set 0 (.int .i64 XL)
      have hL3 := hL2.far (p := ⟨W.heap.size, 0, none⟩) hne.symm (.int .i64 XL)
      have hU3 : Below W.heap.size W (U2.setCell ⟨W.heap.size, 0, none⟩ (.int .i64 XL)) := (hU.trans (hU2.mono hUs)).setCell (Nat.le_refl _) _
      clear hXL u0 u1 l0 l1 f0 hR hbu hU2 hX2 hL2 y0 y1 y2 y3 y4 y5 y6 y7 y8 y9 yl hkU hXU hLU hU hUs hlbl hxl hu2
      generalize hU3e : U2.setCell ⟨W.heap.size, 0, none⟩ (.int .i64 XL) = U at *
      have u0 := hX3.cell 0
      have u1 := hX3.cell 1
      have u2 := hX3.lt
      have l0 := hL3.cell 0
      have l2 := hL3.lt
      simp only [List.getElem?_cons_zero, List.getElem?_cons_succ, List.set_cons_zero] at u0 u1 l0 hX3
      by_cases hea : 0 < endA s.k
      · have hUs := hU3.size
        have hkU := hb4.below hU3
        have yl := hkU.lt
        have y0 := hkU.cell 0
        have y1 := hkU.cell 1
        have y2 := hkU.cell 2
        have y3 := hkU.cell 3
        have y4 := hkU.cell 4
        have y5 := hkU.cell 5
        have y6 := hkU.cell 6
        have y7 := hkU.cell 7
        have y8 := hkU.cell 8
        have y9 := hkU.cell 9
        simp only [knL, List.getElem?_cons_zero, List.getElem?_cons_succ] at y0 y1 y2 y3 y4 y5 y6 y7 y8 y9
        go_wp2_with fail
        refine WpK.begin (S := fun _ => True) (kp := fun _ => true) (f := 10) (up := #[false, false, false, false, false, false, false, false, false, false]) (by kernel_rfl) (by kernel_rfl) (by kernel_rfl) ?_
        refine WpK.take (i := 0) (v := ?_) ((toArray_at _ _).trans rfl) (by kernel_rfl) (by kernel_rfl) (by kernel_rfl) (by kernel_rfl) (by kernel_rfl) (fun _ _ _ h => h) (Or.inl ⟨by rfl, ?_⟩) trivial ?_
        rotate_left
        · (intro x hx; go_simp <;> with_reducible rfl)
        simp only [Act.put, puts]
        refine WpK.take (i := 3) (v := ?_) ((toArray_at _ _).trans rfl) (by kernel_rfl) (by kernel_rfl) (by kernel_rfl) (by kernel_rfl) (by kernel_rfl) (fun _ _ _ h => h) (Or.inl ⟨by rfl, ?_⟩) trivial ?_
        rotate_left
        · (intro x hx; go_simp <;> with_reducible rfl)
        simp only [Act.put, puts]
        refine WpK.weaken (S := fun x => Below U.heap.size U x) (kp := (fun i => decide (i < 8))) (fun _ => trivial) _ ?_
        have hS0 := (show Below U.heap.size U U.drew from (Below.refl _ _).drew)
        refine WpK.take (i := 1) (v := ?_) ((toArray_at _ _).trans rfl) (by kernel_rfl) (by kernel_rfl) (by kernel_rfl) (by kernel_rfl) (by kernel_rfl) (fun _ _ _ h => h) (Or.inl ⟨by rfl, ?_⟩) hS0 ?_
        rotate_left
        · (intro x hx; obtain ⟨hcx, hfx⟩ := bcell hx; go_simp <;> with_reducible rfl)
        try simp only [Act.put, puts]
        refine WpK.take (i := 2) (v := ?_) ((toArray_at _ _).trans rfl) (by kernel_rfl) (by kernel_rfl) (by kernel_rfl) (by kernel_rfl) (by kernel_rfl) (fun _ _ _ h => h) (Or.inl ⟨by rfl, ?_⟩) hS0 ?_
        rotate_left
        · (intro x hx; obtain ⟨hcx, hfx⟩ := bcell hx; go_simp <;> with_reducible rfl)
        try simp only [Act.put, puts]
        refine WpK.take (i := 4) (v := ?_) ((toArray_at _ _).trans rfl) (by kernel_rfl) (by kernel_rfl) (by kernel_rfl) (by kernel_rfl) (by kernel_rfl) (fun _ _ _ h => h) (Or.inl ⟨by rfl, ?_⟩) hS0 ?_
        rotate_left
        · (intro x hx; obtain ⟨hcx, hfx⟩ := bcell hx; go_simp <;> with_reducible rfl)
        try simp only [Act.put, puts]
        clear hS0
        refine WpK.one (i := 5) (by kernel_rfl) ((toArray_at _ _).trans rfl) ?_
        intro K hK
        have HK := Lib.hid hK
        clear hK
        go_simp
        have hR := reached_any F b _ _ pv oa ob ca cb (endA s.k) U.drew ((HKN.out.below hU3).below (Below.drew (Below.refl _ _))) (by omega) (by omega)
        rw [HKR.out] at hR
        refine hR.mono ?_
        rintro e U2 ⟨rfl, hbu⟩
        have hU2 : Below U.heap.size U U2 := (Below.drew (Below.refl _ _)).trans hbu
        have hX2 := hX3.below hU2
        have hu2 := hU2.size
        have v0 := hX2.cell 1
        have v1 := hX2.frozen 1
        simp only [List.getElem?_cons_zero, List.getElem?_cons_succ] at v0
        refine HK.out _ _ (fun _ => hU2) (fun _ => ?_)
        clear HK K
        try simp only [puts]
        refine WpK.one (i := 6) (by kernel_rfl) ((toArray_at _ _).trans rfl) ?_
        intro K hK
        have HK := Lib.hid hK
        clear hK
        go_simp
        refine HK.out _ _ (fun _ => hU2) (fun _ => ?_)
        clear HK K
        try simp only [puts]
        refine WpK.one (i := 7) (by kernel_rfl) ((toArray_at _ _).trans rfl) ?_
        intro K hK
        have HK := Lib.hid hK
        clear hK
        go_simp
        refine HK.out _ _ (fun _ => hU2) (fun _ => ?_)
        clear HK K
        try simp only [puts]
        refine WpK.one (i := 8) (by kernel_rfl) ((toArray_at _ _).trans rfl) ?_
        intro K hK
        have HK := Lib.hid hK
        clear hK
        go_simp
        refine HK.out _ _ (fun h => absurd h (by decide)) (fun _ => ?_)
        clear HK K
        try simp only [puts]
        refine WpK.one (i := 9) (by kernel_rfl) ((toArray_at _ _).trans rfl) ?_
        intro K hK
        have HK := Lib.hid hK
        clear hK
        go_simp
        refine HK.out _ _ (fun h => absurd h (by decide)) (fun _ => ?_)
        clear HK K
        try simp only [puts]
        refine WpK.done (by kernel_rfl) ?_
        obtain ⟨XH, hXH⟩ : ∃ x, min s.hi (firstNot (fun n => ovB F (endA s.k) n) 24 0 2097152) = x := ⟨_, rfl⟩
        rw [hXH]
        have HXH := Lib.hid (show seH F s = XH by unfold seH; rw [if_pos hea]; exact hXH)
        have hX4 := hX2.set 1 (.int .i64 XH)
        have hU4 : Below W.heap.size W (U2.setCell ⟨W.heap.size, 1, none⟩ (.int .i64 XH)) := (hU3.trans (hU2.mono hUs)).setCell (Nat.le_refl _) _
        have w0 := hX4.cell 0
        have w1 := hX4.cell 1
        simp only [List.getElem?_cons_zero, List.getElem?_cons_succ, List.set_cons_zero, List.set_cons_succ] at w0 w1
        have h3U := H3.out.below hU4
        have hw4 := hU4.size
        clear hXH u0 u1 l0 hR hbu hU2 hX2 y0 y1 y2 y3 y4 y5 y6 y7 y8 y9 yl hkU hU3 hUs hu2 hX4 v0 v1
        generalize hU4e : U2.setCell ⟨W.heap.size, 1, none⟩ (.int .i64 XH) = U4 at *
        have HU4 := Lib.hid hU4
        clear hU4
        go_wp2_with (refine st_at rfl (T := 27) rfl rfl (cs := [.int .i64 XL, .int .i64 XH]) rfl h3U (by kernel_rfl) rfl rfl ?_; intro wk hkk hsk)
        refine bodyPost_ret (ret_cell_tmp rfl _ _ rfl hkk Tryz.underlying27 rfl (by kernel_rfl)) rfl ⟨by rw [HWE.out, HXL.out, HXH.out]; rfl, ?_⟩
        exact bes_then (HBW.out.trans (HU4.out.mono HBW.out.size)) hsk (by omega) (by have := HBW.out.size; omega)
      · have HXH := Lib.hid (show seH F s = s.hi by unfold seH; rw [if_neg hea])
        have h3U := H3.out.below hU3
        have hw4 := hU3.size
        have HU3 := Lib.hid hU3
        clear hU3
        go_wp2_with (refine st_at rfl (T := 27) rfl rfl (cs := [.int .i64 XL, .int .i64 s.hi]) rfl h3U (by kernel_rfl) rfl rfl ?_; intro wk hkk hsk)
        refine bodyPost_ret (ret_cell_tmp rfl _ _ rfl hkk Tryz.underlying27 rfl (by kernel_rfl)) rfl ⟨by rw [HWE.out, HXL.out, HXH.out]; rfl, ?_⟩
        exact bes_then (HBW.out.trans (HU3.out.mono HBW.out.size)) hsk (by omega) (by have := HBW.out.size; omega)
end Go.Proofs.YtnfndiafabhhdaaGreat
