/- Walk of the reference's Seen where something is known (Wear). -/
import Derived.Test.YtnfndiafabhhdaaGreatG9
import Derived.Test.YtnfndiafabhhdaaGreatG6
import Derived.Test.YtnfndiafabhhdaaGreatG8
namespace Go.Proofs.YtnfndiafabhhdaaGreat
open Go.ChangeShapes Go.WideShapes Go.ChangeAt Go.RowKit
set_option maxRecDepth 100000 in
set_option maxHeartbeats 8000000 in
theorem rSeen_yes (F : Fl) (vv vs : Value) (k : Nat) (w : World) (hF : FlIn w F vv vs) (hk : k < F.s.length) (ho : okFl F = true) (hcan : canI F (allL F) = true) :
    Calls Tryz.prog 25 #[flV F vv vs, .int .i64 (k : Int)] w fun e w' => e = .returned (.tuple #[.agg #[.int .i64 (lastNot (fun j => unM F (allL F) (endB (hgt F.v) (snA F.s k).k) j) 24 (snA F.s k).lo (snA F.s k).hi), .int .i64 (if 0 < endA (snA F.s k).k then firstNot (fun j => ovM F (allL F) (endA (snA F.s k).k) j) 24 (snA F.s k).lo (snA F.s k).hi else (snA F.s k).hi)], .int .i64 0]) ∧ Below w.heap.size w w' := by
  have hO := (okFl_iff F).1 ho
  have hv := (okv_iff F.v).1 hO.v
  have hHt := (pt_bd hv (Nat.le_refl _)).1
  have hh : hgt F.v = vX F.v F.v.length := rfl
  rw [← hh] at hHt
  have hE0 : rdE F (asR F 0 0) = 0 := by
    have h2 : asR F 0 0 = true := by unfold asR; rw [inB_mk (by omega) (by omega), inB_mk (by omega) (by omega)]; rfl
    unfold rdE
    rw [if_pos ho, h2, if_pos rfl, if_pos hcan]
  have HE := Lib.hid hE0
  have HC := Lib.hid (show chkF F = 0 by unfold chkF; rw [if_pos ho])
  have hsn : okSn (hgt F.v) (snA F.s k) = true := by
    refine hO.s _ ?_
    simp [snA, List.getElem?_eq_getElem hk]
  obtain ⟨bs, off, hos, hbs, hcc⟩ := (show ∃ b off, (∃ c, vs = .slice (some ⟨b, off, none⟩) F.s.length c) ∧ b < w.heap.size ∧ ∀ i j, i < F.s.length → j < 4 → w.cell? ⟨b, off + i * 4 + j, none⟩ = some (snF F.s i j) from by
    obtain ⟨o, c, rfl, _⟩ := hF.s.parts
    obtain ⟨b, off, rfl, hb, hc⟩ := hF.s.cells (by omega)
    exact ⟨b, off, ⟨c, rfl⟩, hb, hc⟩)
  obtain ⟨cs, rfl⟩ := hos
  have d0 := hcc k 0 hk (by omega)
  have d1 := hcc k 1 hk (by omega)
  have d2 := hcc k 2 hk (by omega)
  have d3 := hcc k 3 hk (by omega)
  simp only [snF, Nat.add_zero] at d0 d1 d2 d3
  obtain ⟨_, _, hms, ms⟩ := hF.s.parts
  clear hms hcc
  obtain ⟨x, hx⟩ : ∃ x, snA F.s k = x := ⟨_, rfl⟩
  rw [hx] at d0 d1 d2 d3 hsn ⊢
  clear hx
  obtain ⟨xl, xh, xk⟩ := x
  simp only at d0 d1 d2 d3 ⊢
  have hlk : okLk (hgt F.v) xk = true := by simp only [okSn, Bool.and_eq_true] at hsn; exact hsn.2
  have hxs : 0 ≤ xl ∧ xl ≤ xh ∧ xh ≤ 1048576 := by simp only [okSn, Bool.and_eq_true, decide_eq_true_eq] at hsn; omega
  obtain ⟨⟨n1, n2⟩, n3, n4⟩ := end_in hlk
  have hf1 : xk.lv ≤ hgt F.v ∧ 0 ≤ xk.lv := by simp only [okLk, Bool.and_eq_true, decide_eq_true_eq] at hlk; omega
  have g0 := fun w h => Ends_any F.v vv xk w h hv hlk
  have gT : ∀ (y : Int) (w : World), 0 ≤ y → y ≤ hgt F.v → RgR w vv F.v → Calls Tryz.prog 74 #[vv, .int .i64 y] w fun e w' => e = .returned (.agg #[.int .i64 (tmN F.v y), .int .i64 (tmD F.v y)]) ∧ Below w.heap.size w w' := fun y w k0 k1 h => Time_any F.v vv y w h hv k0 k1
  obtain ⟨⟨b1, b2⟩, b3, b4⟩ := tm_bd hO.v (x := endB (hgt F.v) xk) (by omega) n4
  obtain ⟨⟨a1, a2⟩, a3, a4⟩ := tm_bd hO.v (x := endA xk) n1 (show endA xk ≤ hgt F.v by omega)
  have gN := fun w h => never_any F vv (.slice (some ⟨bs, off, none⟩) F.s.length cs) (tmN F.v (endB (hgt F.v) xk)) (tmD F.v (endB (hgt F.v) xk)) xl xh w h hO b1 b2 b3 b4 (by omega) (by omega) (by omega)
  have gE : 0 < endA xk → ∀ w h, _ := fun _ w h => ever_any F vv (.slice (some ⟨bs, off, none⟩) F.s.length cs) (tmN F.v (endA xk)) (tmD F.v (endA xk)) xl xh w h hO a1 a2 a3 a4 (by omega) (by omega) (by omega)
  have e1 : (fun j => unM F (allL F) (endB (hgt F.v) xk) j) = fun n => canM F (allL F) (⟨n, tmN F.v (endB (hgt F.v) xk), tmD F.v (endB (hgt F.v) xk), true⟩, true) := rfl
  have e2 : (fun j => ovM F (allL F) (endA xk) j) = fun n => canM F (allL F) (⟨n, tmN F.v (endA xk), tmD F.v (endA xk), true⟩, false) := rfl
  rw [← e1] at gN
  rw [← e2] at gE
  obtain ⟨a, ha⟩ : ∃ a, endA xk = a := ⟨_, rfl⟩
  obtain ⟨b, hb⟩ : ∃ a, endB (hgt F.v) xk = a := ⟨_, rfl⟩
  simp only [ha, hb] at g0 gN gE ⊢
  have hab : (0 ≤ a ∧ a ≤ hgt F.v) ∧ (0 ≤ b ∧ b ≤ hgt F.v) := by omega
  obtain ⟨tn, htn⟩ : ∃ t, tmN F.v b = t := ⟨_, rfl⟩
  obtain ⟨td, htd⟩ : ∃ t, tmD F.v b = t := ⟨_, rfl⟩
  obtain ⟨an, han⟩ : ∃ t, tmN F.v a = t := ⟨_, rfl⟩
  obtain ⟨ad, had⟩ : ∃ t, tmD F.v a = t := ⟨_, rfl⟩
  obtain ⟨X, hX⟩ : ∃ t, lastNot (fun j => unM F (allL F) b j) 24 xl xh = t := ⟨_, rfl⟩
  obtain ⟨Y0, hY0⟩ : ∃ t, firstNot (fun j => ovM F (allL F) a j) 24 xl xh = t := ⟨_, rfl⟩
  rw [hX, hY0]
  simp only [htn, htd, hX] at gN
  simp only [han, had, hY0] at gE
  have TN := Lib.hid htn
  have TD := Lib.hid htd
  have TNA := Lib.hid han
  have TDA := Lib.hid had
  obtain ⟨Y, hY⟩ : ∃ t, (if 0 < a then Y0 else xh) = t := ⟨_, rfl⟩
  rw [hY]
  have HY := Lib.hid hY
  obtain ⟨ov, cv, rfl, mv⟩ := hF.v.parts
  obtain ⟨ls, hls⟩ : ∃ n, F.s.length = n := ⟨_, rfl⟩
  obtain ⟨lv, hlv⟩ : ∃ n, F.v.length = n := ⟨_, rfl⟩
  rw [hls] at ms hF hk gN gE ⊢
  rw [hlv] at mv hF g0 gT gN gE ⊢
  have G0 := Lib.hid g0
  have GT := Lib.hid gT
  have GN := Lib.hid gN
  have GE := Lib.hid gE
  have HB := Lib.hid ((Bk.new w 30 (flL' F (.slice ov lv cv) (.slice (some ⟨bs, off, none⟩) ls cs))).alloc (Obj.cells #[.int .i64 0, .int .i64 0] 27))
  have HZ := Lib.hid (Bk.new1 w (flO F (.slice ov lv cv) (.slice (some ⟨bs, off, none⟩) ls cs)) 27 [.int .i64 0, .int .i64 0])
  have HF0 := Lib.hid ((hF.alloc (flO F (.slice ov lv cv) (.slice (some ⟨bs, off, none⟩) ls cs))).alloc (Obj.cells #[.int .i64 0, .int .i64 0] 27))
  clear g0 gT gN gE hF hO hv hE0 hcan ho htn htd han had hX hY0 hY hls hlv ha hb e1 e2 a1 a2 a3 a4 b1 b2 b3 b4 n1 n2 n3 n4 hf1 hlk hxs hsn hh
  obtain ⟨⟨ab1, ab2⟩, ab3, ab4⟩ := hab
  go_enter Tryz.func25, Tryz.ntmps25
  go_wp2_with (first | (refine ld_at rfl (T := 30) rfl rfl HB.out Tryz.underlying30 rfl (by kernel_rfl) ?_) | fail)
  refine (rCheck_any F _ _ _ HF0.out).mono ?_
  rw [HC.out]
  rintro e w1 ⟨rfl, hb⟩
  have HB1 := Lib.hid (HB.out.below hb)
  have HZ1 := Lib.hid (HZ.out.below hb)
  have HW1 := Lib.hid (bafter (bafter hb))
  have HF1 := Lib.hid (HF0.out.below hb)
  have c3 := HB1.out.cell 5
  have cl := HB1.out.lt
  simp only [List.getElem?_cons_zero, List.getElem?_cons_succ] at c3
  clear hb HB HZ HF0
  go_wp2_with (first | (refine ld_at rfl (T := 30) rfl rfl HB1.out Tryz.underlying30 rfl (by kernel_rfl) ?_) | fail)
  refine (rasked_any F _ _ 0 0 _ HF1.out).mono ?_
  rw [HE.out]
  rintro e w2 ⟨rfl, hb⟩
  have hB2 := HB1.out.below hb
  have HB2 := Lib.hid hB2
  have HZ2 := Lib.hid (HZ1.out.below hb)
  have HW2 := Lib.hid (bthen HW1.out hb)
  have HF2 := Lib.hid (HF1.out.below hb)
  have D0 := (HW2.out.cell hbs).trans d0
  have D1 := (HW2.out.cell hbs).trans d1
  have D2 := (HW2.out.cell hbs).trans d2
  have D3 := (HW2.out.cell hbs).trans d3
  have hb2' : bs < w2.heap.size := Nat.lt_of_lt_of_le hbs HW2.out.size
  have c0 := hB2.cell 0
  have c5 := hB2.cell 5
  have cl2 := hB2.lt
  simp only [List.getElem?_cons_zero, List.getElem?_cons_succ] at c0 c5
  have HS2 := Lib.hid (Bk.new w2 88 [.int .i64 xl, .int .i64 xh, .int .i64 xk.lv, .int .i64 xk.er])
  clear hb HB1 HZ1 HF1 HW1 c3 cl d0 d1 d2 d3 hB2
  go_wp2_with fail
  refine (G0.out _ (HF2.out.v.alloc (Obj.cells #[.int .i64 xl, .int .i64 xh, .int .i64 xk.lv, .int .i64 xk.er] 88))).mono ?_
  rintro e W ⟨rfl, hb⟩
  have hbW : Below w2.heap.size w2 W := bafter hb
  have hBW := HB2.out.below hbW
  have hSW := HS2.out.below hb
  have HBW := Lib.hid hBW
  have HSW := Lib.hid hSW
  have HZW := Lib.hid (HZ2.out.below hbW)
  have HFW := Lib.hid (HF2.out.below hbW)
  have HwW := Lib.hid (bthen HW2.out hbW)
  have HLT := Lib.hid (show w.heap.size + 1 < W.heap.size from HZW.out.lt)
  have q0 := hBW.cell 0
  have q1 := hBW.cell 1
  have q2 := hBW.cell 2
  have q3 := hBW.cell 3
  have q4 := hBW.cell 4
  have q5 := hBW.cell 5
  have ql := hBW.lt
  have s0 := hSW.cell 0
  have s1 := hSW.cell 1
  have sl := hSW.lt
  simp only [List.getElem?_cons_zero, List.getElem?_cons_succ] at q0 q1 q2 q3 q4 q5 s0 s1
  clear hb hbW hBW hSW c0 c5 cl2 D0 D1 D2 D3 hb2' HB2 HZ2 HF2 HS2
  go_wp2_with fail
  refine WpK.begin (S := fun _ => True) (kp := fun _ => true) (f := 18) (up := #[false, false, false, false, false, false, false, false, false, false, false, false, false, false, false, false, false, false]) (by kernel_rfl) (by kernel_rfl) (by kernel_rfl) ?_
  refine WpK.take (i := 1) (v := ?_) ((toArray_at _ _).trans rfl) (by kernel_rfl) (by kernel_rfl) (by kernel_rfl) (by kernel_rfl) (by kernel_rfl) (fun _ _ _ h => h) (Or.inl ⟨by rfl, ?_⟩) trivial ?_
  rotate_left
  · (intro x hx; go_simp <;> with_reducible rfl)
  simp only [Act.put, puts]
  refine WpK.take (i := 3) (v := ?_) ((toArray_at _ _).trans rfl) (by kernel_rfl) (by kernel_rfl) (by kernel_rfl) (by kernel_rfl) (by kernel_rfl) (fun _ _ _ h => h) (Or.inl ⟨by rfl, ?_⟩) trivial ?_
  rotate_left
  · (intro x hx; go_simp <;> with_reducible rfl)
  simp only [Act.put, puts]
  refine WpK.take (i := 5) (v := ?_) ((toArray_at _ _).trans rfl) (by kernel_rfl) (by kernel_rfl) (by kernel_rfl) (by kernel_rfl) (by kernel_rfl) (fun _ _ _ h => h) (Or.inl ⟨by rfl, ?_⟩) trivial ?_
  rotate_left
  · (intro x hx; go_simp <;> with_reducible rfl)
  simp only [Act.put, puts]
  refine WpK.take (i := 6) (v := ?_) ((toArray_at _ _).trans rfl) (by kernel_rfl) (by kernel_rfl) (by kernel_rfl) (by kernel_rfl) (by kernel_rfl) (fun _ _ _ h => h) (Or.inl ⟨by rfl, ?_⟩) trivial ?_
  rotate_left
  · (intro x hx; go_simp <;> with_reducible rfl)
  simp only [Act.put, puts]
  refine WpK.take (i := 8) (v := ?_) ((toArray_at _ _).trans rfl) (by kernel_rfl) (by kernel_rfl) (by kernel_rfl) (by kernel_rfl) (by kernel_rfl) (fun _ _ _ h => h) (Or.inl ⟨by rfl, ?_⟩) trivial ?_
  rotate_left
  · (intro x hx; go_simp <;> with_reducible rfl)
  simp only [Act.put, puts]
  refine WpK.take (i := 9) (v := ?_) ((toArray_at _ _).trans rfl) (by kernel_rfl) (by kernel_rfl) (by kernel_rfl) (by kernel_rfl) (by kernel_rfl) (fun _ _ _ h => h) (Or.inl ⟨by rfl, ?_⟩) trivial ?_
  rotate_left
  · (intro x hx; go_simp <;> with_reducible rfl)
  simp only [Act.put, puts]
  refine WpK.take (i := 12) (v := ?_) ((toArray_at _ _).trans rfl) (by kernel_rfl) (by kernel_rfl) (by kernel_rfl) (by kernel_rfl) (by kernel_rfl) (fun _ _ _ h => h) (Or.inl ⟨by rfl, ?_⟩) trivial ?_
  rotate_left
  · (intro x hx; go_simp <;> with_reducible rfl)
  simp only [Act.put, puts]
  refine WpK.take (i := 13) (v := ?_) ((toArray_at _ _).trans rfl) (by kernel_rfl) (by kernel_rfl) (by kernel_rfl) (by kernel_rfl) (by kernel_rfl) (fun _ _ _ h => h) (Or.inl ⟨by rfl, ?_⟩) trivial ?_
  rotate_left
  · (intro x hx; go_simp <;> with_reducible rfl)
  simp only [Act.put, puts]
  refine WpK.weaken (S := fun x => Below W.heap.size W x) (kp := (fun i => decide (i < 17))) (fun _ => trivial) _ ?_
  have hS0 := (show Below W.heap.size W W.drew from (Below.drew (Below.refl _ _)))
  refine WpK.take (i := 0) (v := ?_) ((toArray_at _ _).trans rfl) (by kernel_rfl) (by kernel_rfl) (by kernel_rfl) (by kernel_rfl) (by kernel_rfl) (fun _ _ _ h => h) (Or.inl ⟨by rfl, ?_⟩) hS0 ?_
  rotate_left
  · (intro x hx; obtain ⟨hcx, hfx⟩ := bcell hx; go_simp <;> with_reducible rfl)
  try simp only [Act.put, puts]
  refine WpK.take (i := 2) (v := ?_) ((toArray_at _ _).trans rfl) (by kernel_rfl) (by kernel_rfl) (by kernel_rfl) (by kernel_rfl) (by kernel_rfl) (fun _ _ _ h => h) (Or.inl ⟨by rfl, ?_⟩) hS0 ?_
  rotate_left
  · (intro x hx; obtain ⟨hcx, hfx⟩ := bcell hx; go_simp <;> with_reducible rfl)
  try simp only [Act.put, puts]
  refine WpK.take (i := 7) (v := ?_) ((toArray_at _ _).trans rfl) (by kernel_rfl) (by kernel_rfl) (by kernel_rfl) (by kernel_rfl) (by kernel_rfl) (fun _ _ _ h => h) (Or.inl ⟨by rfl, ?_⟩) hS0 ?_
  rotate_left
  · (intro x hx; obtain ⟨hcx, hfx⟩ := bcell hx; go_simp <;> with_reducible rfl)
  try simp only [Act.put, puts]
  refine WpK.take (i := 10) (v := ?_) ((toArray_at _ _).trans rfl) (by kernel_rfl) (by kernel_rfl) (by kernel_rfl) (by kernel_rfl) (by kernel_rfl) (fun _ _ _ h => h) (Or.inl ⟨by rfl, ?_⟩) hS0 ?_
  rotate_left
  · (intro x hx; obtain ⟨hcx, hfx⟩ := bcell hx; go_simp <;> with_reducible rfl)
  try simp only [Act.put, puts]
  refine WpK.take (i := 14) (v := ?_) ((toArray_at _ _).trans rfl) (by kernel_rfl) (by kernel_rfl) (by kernel_rfl) (by kernel_rfl) (by kernel_rfl) (fun _ _ _ h => h) (Or.inl ⟨by rfl, ?_⟩) hS0 ?_
  rotate_left
  · (intro x hx; obtain ⟨hcx, hfx⟩ := bcell hx; go_simp <;> with_reducible rfl)
  try simp only [Act.put, puts]
  clear hS0 q0 q1 q2 q3 q4 q5 s0 s1
  refine WpK.two (i := 4) (k := 16) (by kernel_rfl) ((toArray_at _ _).trans rfl) ((toArray_at _ _).trans rfl) ?_ ?_
  all_goals
    intro K hK
    have HK := Lib.hid hK
    clear hK
  · go_simp
    refine (GT.out b (_) (by omega) (by omega) (HFW.out.v.below (Below.drew (Below.refl _ _)))).mono ?_
    rintro e W2 ⟨rfl, hb2⟩
    rw [TN.out, TD.out]
    have hW2 : Below W.heap.size W W2 := Below.trans (Below.drew (Below.refl _ _)) hb2
    refine HK.out _ _ (fun _ => hW2) (fun _ => ?_)
    clear HK K
    try simp only [puts]
    refine WpK.two (i := 11) (k := 16) (by kernel_rfl) ((toArray_at _ _).trans rfl) ((toArray_at _ _).trans rfl) ?_ ?_
    all_goals
      intro K hK
      have HK := Lib.hid hK
      clear hK
    · go_simp
      refine (GN.out (_) (HFW.out.below (hW2))).mono ?_
      rintro e W3 ⟨rfl, hb3⟩
      have hW3 : Below W.heap.size W W3 := hW2.trans (hb3.mono hW2.size)
      refine HK.out _ _ (fun _ => hW3) (fun _ => ?_)
      clear HK K
      try simp only [puts]
      have hS0 := hW3
      refine WpK.take (i := 15) (v := ?_) ((toArray_at _ _).trans rfl) (by kernel_rfl) (by kernel_rfl) (by kernel_rfl) (by kernel_rfl) (by kernel_rfl) (fun _ _ _ h => h) (Or.inl ⟨by rfl, ?_⟩) hS0 ?_
      rotate_left
      · (intro x hx; clear hx; go_simp <;> with_reducible rfl)
      try simp only [Act.put, puts]
      clear hS0
      refine WpK.one (i := 16) (by kernel_rfl) ((toArray_at _ _).trans rfl) ?_
      intro K hK
      have HK := Lib.hid hK
      clear hK
      go_simp
      have hX : Below W.heap.size W (W3.alloc (Obj.cells #[.int .i64 0, .int .i64 0] 27)) := hW3.alloc hW3.size _
      refine HK.out _ _ (fun _ => hX) (fun _ => ?_)
      clear HK K
      try simp only [puts]
      have hBx := Bk.new W3 27 [.int .i64 0, .int .i64 0]
      have hbk : W.heap.size ≤ W3.heap.size := hW3.size
      refine WpK.one (i := 17) (by kernel_rfl) ((toArray_at _ _).trans rfl) ?_
      intro K hK
      have HK := Lib.hid hK
      clear hK
      refine step_st rfl rfl rfl (cs := [.int .i64 X, .int .i64 xh]) rfl hBx (by kernel_rfl) rfl rfl ?_
      intro WX hkk hsk
      refine HK.out _ _ (fun h => absurd h (by decide)) (fun _ => ?_)
      clear HK K
      try simp only [puts]
      refine WpK.done (by kernel_rfl) ?_
      have hWX := bes_then hX hsk hbk hX.size
      have HKK := Lib.hid hkk
      have HWX := Lib.hid hWX
      have HBK := Lib.hid hbk
      clear hkk hWX hsk hX hBx hbk
      have hBX := HBW.out.below HWX.out
      have hZX := HZW.out.below HWX.out
      have hSX := HSW.out.below HWX.out
      have HFX := Lib.hid (HFW.out.below HWX.out)
      have HZX := Lib.hid hZX
      by_cases ha0 : 0 < a
      · have hyy := HY.out
        rw [if_pos ha0] at hyy
        have HYY := Lib.hid hyy
        clear hyy
        have p0 := hBX.cell 0
        have p1 := hBX.cell 1
        have p2 := hBX.cell 2
        have p3 := hBX.cell 3
        have p4 := hBX.cell 4
        have p5 := hBX.cell 5
        have pl := hBX.lt
        have s0 := hSX.cell 0
        have s1 := hSX.cell 1
        have sl := hSX.lt
        simp only [List.getElem?_cons_zero, List.getElem?_cons_succ] at p0 p1 p2 p3 p4 p5 s0 s1
        have mc := @more_cell WX
        have k1 : ∀ i : More WX, _ := fun i => more_call (GT.out a i.x (by omega) (by omega) (HFX.out.v.below i.h))
        have k2 : ∀ i : More WX, _ := fun i => more_call (GE.out ha0 i.x (HFX.out.below i.h))
        rw [TNA.out, TDA.out] at k1
        have K1 := Lib.hid k1
        have K2 := Lib.hid k2
        clear k1 k2 hBX hZX hSX
        go_wp2_with fail
        refine wp_head_more [0, 1, 2, 3, 4, 5, 6, 7, 8, 9, 10, 11] [12, 13] (by kernel_rfl) (by kernel_rfl) ?_
        simp only [hPick, List.getElem?_cons_zero, List.getElem?_cons_succ]
        iterate 8 (try (first | go_big_quiet_step ((with_reducible first | exact K1.out _ | exact K2.out _)) | quiet_step ((with_reducible first | exact K1.out _ | exact K2.out _))))
        iterate 8 (try (first | go_big_quiet_step ((with_reducible first | exact K1.out _ | exact K2.out _)) | quiet_step ((with_reducible first | exact K1.out _ | exact K2.out _))))
        iterate 8 (try (first | go_big_quiet_step ((with_reducible first | exact K1.out _ | exact K2.out _)) | quiet_step ((with_reducible first | exact K1.out _ | exact K2.out _))))
        iterate 8 (try (first | go_big_quiet_step ((with_reducible first | exact K1.out _ | exact K2.out _)) | quiet_step ((with_reducible first | exact K1.out _ | exact K2.out _))))
        iterate 8 (try (first | go_big_quiet_step ((with_reducible first | exact K1.out _ | exact K2.out _)) | quiet_step ((with_reducible first | exact K1.out _ | exact K2.out _))))
        refine wpQuiet_nil ?_
        rintro ⟨wm, hbm⟩
        try dsimp only
        have hK2 := HKK.out.below hbm
        have HZM := Lib.hid (HZX.out.below hbm)
        have HWM := Lib.hid (HWX.out.trans (hbm.mono HWX.out.size))
        have m1 := hK2.cell 1
        have g1 := hK2.frozen 1
        have ml := hK2.lt
        simp only [List.getElem?_cons_zero, List.getElem?_cons_succ] at m1
        have hK3 : Bk (wm.setCell ⟨W3.heap.size, 1, none⟩ (.int .i64 Y0)) (W3.heap.size) 27 [.int .i64 X, .int .i64 Y0] := hK2.set 1 (.int .i64 Y0)
        have hZ3 := HZM.out.far (p := ⟨W3.heap.size, 1, none⟩) (by simp; have := HLT.out; have := HBK.out; omega) (.int .i64 Y0)
        have hW3 : Below w.heap.size w (wm.setCell ⟨W3.heap.size, 1, none⟩ (.int .i64 Y0)) := (HwW.out.trans (HWM.out.mono HwW.out.size)).setCell (by have := HBK.out; have := HwW.out.size; simp; omega) _
        have HK3 := Lib.hid hK3
        have HZ3 := Lib.hid hZ3
        have HW3 := Lib.hid hW3
        clear hK2 hK3 hZ3 hW3 hbm p0 p1 p2 p3 p4 p5 s0 s1 mc K1 K2
        go_wp2_with (first | (refine ld_at rfl (T := 27) rfl rfl HK3.out Tryz.underlying27 rfl (by kernel_rfl) ?_) | (refine st_at rfl (T := 27) rfl rfl (cs := [.int .i64 X, .int .i64 Y0]) rfl HZ3.out (by kernel_rfl) rfl rfl ?_; intro wk hkk hsk))
        refine bodyPost_ret (ret_cell_tmp rfl _ _ rfl hkk Tryz.underlying27 rfl (by kernel_rfl)) rfl ⟨by rw [← HYY.out]; rfl, ?_⟩
        exact bes_then HW3.out hsk (by omega) HW3.out.size
      · have hyy := HY.out
        rw [if_neg ha0] at hyy
        have HYY := Lib.hid hyy
        clear hyy
        clear hBX hZX hSX
        go_wp2_with (first | (refine ld_at rfl (T := 27) rfl rfl HKK.out Tryz.underlying27 rfl (by kernel_rfl) ?_) | (refine st_at rfl (T := 27) rfl rfl (cs := [.int .i64 X, .int .i64 xh]) rfl HZX.out (by kernel_rfl) rfl rfl ?_; intro wk hkk hsk))
        refine bodyPost_ret (ret_cell_tmp rfl _ _ rfl hkk Tryz.underlying27 rfl (by kernel_rfl)) rfl ⟨by rw [← HYY.out]; rfl, ?_⟩
        have h1 := HwW.out.trans (HWX.out.mono HwW.out.size)
        exact bes_then h1 hsk (by omega) h1.size
    · go_simp
      have hX2 : Below W.heap.size W (W2.alloc (Obj.cells #[.int .i64 0, .int .i64 0] 27)) := hW2.alloc hW2.size _
      refine HK.out _ _ (fun _ => hX2) (fun _ => ?_)
      clear HK K
      try simp only [puts]
      refine WpK.one (i := 11) (by kernel_rfl) ((toArray_at _ _).trans rfl) ?_
      intro K hK
      have HK := Lib.hid hK
      clear hK
      go_simp
      refine (GN.out (_) (HFW.out.below (hX2))).mono ?_
      rintro e W3 ⟨rfl, hb3⟩
      have hW3 : Below W.heap.size W W3 := hX2.trans (hb3.mono hX2.size)
      refine HK.out _ _ (fun _ => hW3) (fun _ => ?_)
      clear HK K
      try simp only [puts]
      have hS0 := hW3
      refine WpK.take (i := 15) (v := ?_) ((toArray_at _ _).trans rfl) (by kernel_rfl) (by kernel_rfl) (by kernel_rfl) (by kernel_rfl) (by kernel_rfl) (fun _ _ _ h => h) (Or.inl ⟨by rfl, ?_⟩) hS0 ?_
      rotate_left
      · (intro x hx; clear hx; go_simp <;> with_reducible rfl)
      try simp only [Act.put, puts]
      clear hS0
      have hX := hW3
      have hBx := (Bk.new W2 27 [.int .i64 0, .int .i64 0]).below hb3
      have hbk : W.heap.size ≤ W2.heap.size := hW2.size
      refine WpK.one (i := 17) (by kernel_rfl) ((toArray_at _ _).trans rfl) ?_
      intro K hK
      have HK := Lib.hid hK
      clear hK
      refine step_st rfl rfl rfl (cs := [.int .i64 X, .int .i64 xh]) rfl hBx (by kernel_rfl) rfl rfl ?_
      intro WX hkk hsk
      refine HK.out _ _ (fun h => absurd h (by decide)) (fun _ => ?_)
      clear HK K
      try simp only [puts]
      refine WpK.done (by kernel_rfl) ?_
      have hWX := bes_then hX hsk hbk hX.size
      have HKK := Lib.hid hkk
      have HWX := Lib.hid hWX
      have HBK := Lib.hid hbk
      clear hkk hWX hsk hX hBx hbk
      have hBX := HBW.out.below HWX.out
      have hZX := HZW.out.below HWX.out
      have hSX := HSW.out.below HWX.out
      have HFX := Lib.hid (HFW.out.below HWX.out)
      have HZX := Lib.hid hZX
      by_cases ha0 : 0 < a
      · have hyy := HY.out
        rw [if_pos ha0] at hyy
        have HYY := Lib.hid hyy
        clear hyy
        have p0 := hBX.cell 0
        have p1 := hBX.cell 1
        have p2 := hBX.cell 2
        have p3 := hBX.cell 3
        have p4 := hBX.cell 4
        have p5 := hBX.cell 5
        have pl := hBX.lt
        have s0 := hSX.cell 0
        have s1 := hSX.cell 1
        have sl := hSX.lt
        simp only [List.getElem?_cons_zero, List.getElem?_cons_succ] at p0 p1 p2 p3 p4 p5 s0 s1
        have mc := @more_cell WX
        have k1 : ∀ i : More WX, _ := fun i => more_call (GT.out a i.x (by omega) (by omega) (HFX.out.v.below i.h))
        have k2 : ∀ i : More WX, _ := fun i => more_call (GE.out ha0 i.x (HFX.out.below i.h))
        rw [TNA.out, TDA.out] at k1
        have K1 := Lib.hid k1
        have K2 := Lib.hid k2
        clear k1 k2 hBX hZX hSX
        go_wp2_with fail
        refine wp_head_more [0, 1, 2, 3, 4, 5, 6, 7, 8, 9, 10, 11] [12, 13] (by kernel_rfl) (by kernel_rfl) ?_
        simp only [hPick, List.getElem?_cons_zero, List.getElem?_cons_succ]
        iterate 8 (try (first | go_big_quiet_step ((with_reducible first | exact K1.out _ | exact K2.out _)) | quiet_step ((with_reducible first | exact K1.out _ | exact K2.out _))))
        iterate 8 (try (first | go_big_quiet_step ((with_reducible first | exact K1.out _ | exact K2.out _)) | quiet_step ((with_reducible first | exact K1.out _ | exact K2.out _))))
        iterate 8 (try (first | go_big_quiet_step ((with_reducible first | exact K1.out _ | exact K2.out _)) | quiet_step ((with_reducible first | exact K1.out _ | exact K2.out _))))
        iterate 8 (try (first | go_big_quiet_step ((with_reducible first | exact K1.out _ | exact K2.out _)) | quiet_step ((with_reducible first | exact K1.out _ | exact K2.out _))))
        iterate 8 (try (first | go_big_quiet_step ((with_reducible first | exact K1.out _ | exact K2.out _)) | quiet_step ((with_reducible first | exact K1.out _ | exact K2.out _))))
        refine wpQuiet_nil ?_
        rintro ⟨wm, hbm⟩
        try dsimp only
        have hK2 := HKK.out.below hbm
        have HZM := Lib.hid (HZX.out.below hbm)
        have HWM := Lib.hid (HWX.out.trans (hbm.mono HWX.out.size))
        have m1 := hK2.cell 1
        have g1 := hK2.frozen 1
        have ml := hK2.lt
        simp only [List.getElem?_cons_zero, List.getElem?_cons_succ] at m1
        have hK3 : Bk (wm.setCell ⟨W2.heap.size, 1, none⟩ (.int .i64 Y0)) (W2.heap.size) 27 [.int .i64 X, .int .i64 Y0] := hK2.set 1 (.int .i64 Y0)
        have hZ3 := HZM.out.far (p := ⟨W2.heap.size, 1, none⟩) (by simp; have := HLT.out; have := HBK.out; omega) (.int .i64 Y0)
        have hW3 : Below w.heap.size w (wm.setCell ⟨W2.heap.size, 1, none⟩ (.int .i64 Y0)) := (HwW.out.trans (HWM.out.mono HwW.out.size)).setCell (by have := HBK.out; have := HwW.out.size; simp; omega) _
        have HK3 := Lib.hid hK3
        have HZ3 := Lib.hid hZ3
        have HW3 := Lib.hid hW3
        clear hK2 hK3 hZ3 hW3 hbm p0 p1 p2 p3 p4 p5 s0 s1 mc K1 K2
        go_wp2_with (first | (refine ld_at rfl (T := 27) rfl rfl HK3.out Tryz.underlying27 rfl (by kernel_rfl) ?_) | (refine st_at rfl (T := 27) rfl rfl (cs := [.int .i64 X, .int .i64 Y0]) rfl HZ3.out (by kernel_rfl) rfl rfl ?_; intro wk hkk hsk))
        refine bodyPost_ret (ret_cell_tmp rfl _ _ rfl hkk Tryz.underlying27 rfl (by kernel_rfl)) rfl ⟨by rw [← HYY.out]; rfl, ?_⟩
        exact bes_then HW3.out hsk (by omega) HW3.out.size
      · have hyy := HY.out
        rw [if_neg ha0] at hyy
        have HYY := Lib.hid hyy
        clear hyy
        clear hBX hZX hSX
        go_wp2_with (first | (refine ld_at rfl (T := 27) rfl rfl HKK.out Tryz.underlying27 rfl (by kernel_rfl) ?_) | (refine st_at rfl (T := 27) rfl rfl (cs := [.int .i64 X, .int .i64 xh]) rfl HZX.out (by kernel_rfl) rfl rfl ?_; intro wk hkk hsk))
        refine bodyPost_ret (ret_cell_tmp rfl _ _ rfl hkk Tryz.underlying27 rfl (by kernel_rfl)) rfl ⟨by rw [← HYY.out]; rfl, ?_⟩
        have h1 := HwW.out.trans (HWX.out.mono HwW.out.size)
        exact bes_then h1 hsk (by omega) h1.size
  · go_simp
    have hX1 : Below W.heap.size W (W.drew.alloc (Obj.cells #[.int .i64 0, .int .i64 0] 27)) := (Below.drew (Below.refl _ _)).alloc (Nat.le_refl _) _
    refine HK.out _ _ (fun _ => hX1) (fun _ => ?_)
    clear HK K
    try simp only [puts]
    refine WpK.one (i := 4) (by kernel_rfl) ((toArray_at _ _).trans rfl) ?_
    intro K hK
    have HK := Lib.hid hK
    clear hK
    go_simp
    refine (GT.out b (_) (by omega) (by omega) (HFW.out.v.below (hX1))).mono ?_
    rintro e W2 ⟨rfl, hb2⟩
    rw [TN.out, TD.out]
    have hW2 : Below W.heap.size W W2 := hX1.trans (hb2.mono hX1.size)
    refine HK.out _ _ (fun _ => hW2) (fun _ => ?_)
    clear HK K
    try simp only [puts]
    refine WpK.one (i := 11) (by kernel_rfl) ((toArray_at _ _).trans rfl) ?_
    intro K hK
    have HK := Lib.hid hK
    clear hK
    go_simp
    refine (GN.out (_) (HFW.out.below (hW2))).mono ?_
    rintro e W3 ⟨rfl, hb3⟩
    have hW3 : Below W.heap.size W W3 := hW2.trans (hb3.mono hW2.size)
    refine HK.out _ _ (fun _ => hW3) (fun _ => ?_)
    clear HK K
    try simp only [puts]
    have hS0 := hW3
    refine WpK.take (i := 15) (v := ?_) ((toArray_at _ _).trans rfl) (by kernel_rfl) (by kernel_rfl) (by kernel_rfl) (by kernel_rfl) (by kernel_rfl) (fun _ _ _ h => h) (Or.inl ⟨by rfl, ?_⟩) hS0 ?_
    rotate_left
    · (intro x hx; clear hx; go_simp <;> with_reducible rfl)
    try simp only [Act.put, puts]
    clear hS0
    have hX := hW3
    have hBx : Bk W3 W.heap.size 27 [.int .i64 0, .int .i64 0] := ((Bk.new W.drew 27 [.int .i64 0, .int .i64 0]).below hb2).below hb3
    have hbk : W.heap.size ≤ W.heap.size := Nat.le_refl _
    refine WpK.one (i := 17) (by kernel_rfl) ((toArray_at _ _).trans rfl) ?_
    intro K hK
    have HK := Lib.hid hK
    clear hK
    refine step_st rfl rfl rfl (cs := [.int .i64 X, .int .i64 xh]) rfl hBx (by kernel_rfl) rfl rfl ?_
    intro WX hkk hsk
    refine HK.out _ _ (fun h => absurd h (by decide)) (fun _ => ?_)
    clear HK K
    try simp only [puts]
    refine WpK.done (by kernel_rfl) ?_
    have hWX := bes_then hX hsk hbk hX.size
    have HKK := Lib.hid hkk
    have HWX := Lib.hid hWX
    have HBK := Lib.hid hbk
    clear hkk hWX hsk hX hBx hbk
    have hBX := HBW.out.below HWX.out
    have hZX := HZW.out.below HWX.out
    have hSX := HSW.out.below HWX.out
    have HFX := Lib.hid (HFW.out.below HWX.out)
    have HZX := Lib.hid hZX
    by_cases ha0 : 0 < a
    · have hyy := HY.out
      rw [if_pos ha0] at hyy
      have HYY := Lib.hid hyy
      clear hyy
      have p0 := hBX.cell 0
      have p1 := hBX.cell 1
      have p2 := hBX.cell 2
      have p3 := hBX.cell 3
      have p4 := hBX.cell 4
      have p5 := hBX.cell 5
      have pl := hBX.lt
      have s0 := hSX.cell 0
      have s1 := hSX.cell 1
      have sl := hSX.lt
      simp only [List.getElem?_cons_zero, List.getElem?_cons_succ] at p0 p1 p2 p3 p4 p5 s0 s1
      have mc := @more_cell WX
      have k1 : ∀ i : More WX, _ := fun i => more_call (GT.out a i.x (by omega) (by omega) (HFX.out.v.below i.h))
      have k2 : ∀ i : More WX, _ := fun i => more_call (GE.out ha0 i.x (HFX.out.below i.h))
      rw [TNA.out, TDA.out] at k1
      have K1 := Lib.hid k1
      have K2 := Lib.hid k2
      clear k1 k2 hBX hZX hSX
      go_wp2_with fail
      refine wp_head_more [0, 1, 2, 3, 4, 5, 6, 7, 8, 9, 10, 11] [12, 13] (by kernel_rfl) (by kernel_rfl) ?_
      simp only [hPick, List.getElem?_cons_zero, List.getElem?_cons_succ]
      iterate 8 (try (first | go_big_quiet_step ((with_reducible first | exact K1.out _ | exact K2.out _)) | quiet_step ((with_reducible first | exact K1.out _ | exact K2.out _))))
      iterate 8 (try (first | go_big_quiet_step ((with_reducible first | exact K1.out _ | exact K2.out _)) | quiet_step ((with_reducible first | exact K1.out _ | exact K2.out _))))
      iterate 8 (try (first | go_big_quiet_step ((with_reducible first | exact K1.out _ | exact K2.out _)) | quiet_step ((with_reducible first | exact K1.out _ | exact K2.out _))))
      iterate 8 (try (first | go_big_quiet_step ((with_reducible first | exact K1.out _ | exact K2.out _)) | quiet_step ((with_reducible first | exact K1.out _ | exact K2.out _))))
      iterate 8 (try (first | go_big_quiet_step ((with_reducible first | exact K1.out _ | exact K2.out _)) | quiet_step ((with_reducible first | exact K1.out _ | exact K2.out _))))
      refine wpQuiet_nil ?_
      rintro ⟨wm, hbm⟩
      try dsimp only
      have hK2 := HKK.out.below hbm
      have HZM := Lib.hid (HZX.out.below hbm)
      have HWM := Lib.hid (HWX.out.trans (hbm.mono HWX.out.size))
      have m1 := hK2.cell 1
      have g1 := hK2.frozen 1
      have ml := hK2.lt
      simp only [List.getElem?_cons_zero, List.getElem?_cons_succ] at m1
      have hK3 : Bk (wm.setCell ⟨W.heap.size, 1, none⟩ (.int .i64 Y0)) (W.heap.size) 27 [.int .i64 X, .int .i64 Y0] := hK2.set 1 (.int .i64 Y0)
      have hZ3 := HZM.out.far (p := ⟨W.heap.size, 1, none⟩) (by simp; have := HLT.out; have := HBK.out; omega) (.int .i64 Y0)
      have hW3 : Below w.heap.size w (wm.setCell ⟨W.heap.size, 1, none⟩ (.int .i64 Y0)) := (HwW.out.trans (HWM.out.mono HwW.out.size)).setCell (by have := HBK.out; have := HwW.out.size; simp; omega) _
      have HK3 := Lib.hid hK3
      have HZ3 := Lib.hid hZ3
      have HW3 := Lib.hid hW3
      clear hK2 hK3 hZ3 hW3 hbm p0 p1 p2 p3 p4 p5 s0 s1 mc K1 K2
      go_wp2_with (first | (refine ld_at rfl (T := 27) rfl rfl HK3.out Tryz.underlying27 rfl (by kernel_rfl) ?_) | (refine st_at rfl (T := 27) rfl rfl (cs := [.int .i64 X, .int .i64 Y0]) rfl HZ3.out (by kernel_rfl) rfl rfl ?_; intro wk hkk hsk))
      refine bodyPost_ret (ret_cell_tmp rfl _ _ rfl hkk Tryz.underlying27 rfl (by kernel_rfl)) rfl ⟨by rw [← HYY.out]; rfl, ?_⟩
      exact bes_then HW3.out hsk (by omega) HW3.out.size
    · have hyy := HY.out
      rw [if_neg ha0] at hyy
      have HYY := Lib.hid hyy
      clear hyy
      clear hBX hZX hSX
      go_wp2_with (first | (refine ld_at rfl (T := 27) rfl rfl HKK.out Tryz.underlying27 rfl (by kernel_rfl) ?_) | (refine st_at rfl (T := 27) rfl rfl (cs := [.int .i64 X, .int .i64 xh]) rfl HZX.out (by kernel_rfl) rfl rfl ?_; intro wk hkk hsk))
      refine bodyPost_ret (ret_cell_tmp rfl _ _ rfl hkk Tryz.underlying27 rfl (by kernel_rfl)) rfl ⟨by rw [← HYY.out]; rfl, ?_⟩
      have h1 := HwW.out.trans (HWX.out.mono HwW.out.size)
      exact bes_then h1 hsk (by omega) h1.size
theorem rt_un {F : Fl} (hc : canI F (allL F) = true) (x : Int) : (fun n => decide (0 < n) && unB F x n) = fun n => decide (0 < n) && unM F (allL F) x n := funext fun n => by rw [unB_eq hc]
theorem rt_ov {F : Fl} (hc : canI F (allL F) = true) (x : Int) : (fun n => ovB F x n) = fun n => ovM F (allL F) x n := funext fun n => ovB_eq hc x n
theorem lastNot_fuel {P : Int → Bool} (mono : ∀ m m', m ≤ m' → P m = true → P m' = true) {f g : Nat} {lo hi : Int} (h : lo ≤ hi) (hf : (hi - lo).toNat < 2 ^ f) (hg : (hi - lo).toNat < 2 ^ g) : lastNot P f lo hi = lastNot P g lo hi := by
  obtain ⟨a, b⟩ := lastNot_spec mono g lo hi h hg
  obtain ⟨i1, i2⟩ := lastNot_in P g lo hi h
  exact lastNot_eq f lo hi i1 i2 a b hf
theorem firstNot_fuel {P : Int → Bool} (mono : ∀ m m', m ≤ m' → P m' = true → P m = true) {f g : Nat} {lo hi : Int} (h : lo ≤ hi) (hf : (hi - lo).toNat < 2 ^ f) (hg : (hi - lo).toNat < 2 ^ g) : firstNot P f lo hi = firstNot P g lo hi := by
  obtain ⟨a, b⟩ := firstNot_spec mono g lo hi h hg
  obtain ⟨i1, i2⟩ := firstNot_in P g lo hi h
  exact firstNot_eq f lo hi i1 i2 a b hf
theorem big_lo {U : Int → Bool} (mono : ∀ m m', m ≤ m' → U m = true → U m' = true) : lastNot (fun m => decide (0 < m) && U m) 24 0 2097152 = lastNot (fun m => decide (0 < m) && U m) 22 0 2097152 := by
  refine lastNot_fuel (fun m m' k h => ?_) (by omega) (by omega) (by omega)
  simp only [Bool.and_eq_true, decide_eq_true_eq] at h ⊢
  exact ⟨by omega, mono m m' k h.2⟩
theorem big_hi {V : Int → Bool} (mono : ∀ m m', m ≤ m' → V m' = true → V m = true) : firstNot V 24 0 2097152 = firstNot V 22 0 2097152 := firstNot_fuel mono (by omega) (by omega) (by omega)
section
variable {F : Fl}
theorem rd_x (x : Int) : rdE F (inB x 0 (hgt F.v)) = rdE F (asR F x 0) := by
  unfold asR
  rw [show inB 0 0 2097152 = true from rt_tt (by omega) (by omega), Bool.and_true]
theorem reV_c (x : Int) : reV F x = .tuple #[.agg #[.int .i64 (rcA F x), .int .i64 (rcB F x)], .int .i64 (rdE F (asR F x 0))] := by
  unfold reV rcA rcB
  rw [rd_x]
  by_cases h : rdE F (asR F x 0) = 0
  · obtain ⟨_, _, hc⟩ := rdE_0' h
    rw [if_pos h, if_pos h, if_pos h, h]
    unfold rcS
    rw [rt_un hc, rt_ov hc]
    rfl
  · rw [if_neg h, if_neg h, if_neg h]
theorem seV_c (n : Int) : seV F n = .tuple #[.agg #[.int .i64 (seA F n), .int .i64 (seB F n)], .int .i64 (rdE F (inB n 0 ((F.s.length : Int) - 1)))] := by
  unfold seV seA seB
  by_cases h : rdE F (inB n 0 ((F.s.length : Int) - 1)) = 0
  · obtain ⟨ho, hR, hc⟩ := rdE_0' h
    have hO := (okFl_iff F).1 ho
    have hn := inB_t hR
    have hI : ∀ i ∈ allL F, i < F.s.length := fun i hi => (allL_ok F i hi).2
    rw [if_pos h, if_pos h, if_pos h, h]
    have hsn : okSn (hgt F.v) (sn F n) = true := hO.s _ (by unfold sn; rw [List.getElem?_eq_getElem (show n.toNat < F.s.length by omega), Option.getD_some]; exact List.getElem_mem _)
    have hmem : n ∈ allL F := List.mem_map.2 ⟨(n + 2).toNat, List.mem_range.2 (by omega), by omega⟩
    have hlin : ∀ y ∈ itemL F n, y ∈ linesL F (allL F) := fun y hy => List.mem_append.2 (.inr (List.mem_flatMap.2 ⟨n, hmem, by rw [if_neg (by omega)]; exact hy⟩))
    have hit : itemL F n = (lnT F.v (sn F n).hi (endB (hgt F.v) (sn F n).k) false, true) :: (if 0 < endA (sn F n).k then [(lnT F.v (sn F n).lo (endA (sn F n).k) false, false)] else []) := by unfold itemL; rw [if_neg (by omega)]
    have e0 : snA F.s n.toNat = sn F n := rfl
    obtain ⟨s, hs⟩ : ∃ s, sn F n = s := ⟨_, rfl⟩
    rw [hs] at hsn hit
    have hlk : okLk (hgt F.v) s.k = true := by simp only [okSn, Bool.and_eq_true] at hsn; exact hsn.2
    have hxs : 0 ≤ s.lo ∧ s.lo ≤ s.hi ∧ s.hi ≤ 1048576 := by simp only [okSn, Bool.and_eq_true, decide_eq_true_eq] at hsn; omega
    obtain ⟨⟨n1, n2⟩, n3, n4⟩ := end_in hlk
    have hf1 : s.k.lv ≤ hgt F.v ∧ 0 ≤ s.k.lv := by simp only [okLk, Bool.and_eq_true, decide_eq_true_eq] at hlk; omega
    have b0 : 0 ≤ endB (hgt F.v) s.k := by omega
    have monoU : ∀ m m', m ≤ m' → unM F (allL F) (endB (hgt F.v) s.k) m = true → unM F (allL F) (endB (hgt F.v) s.k) m' = true := fun m m' k => un_min hO hI b0 n4 k
    have e1 : seL F s = lastNot (fun k => unM F (allL F) (endB (hgt F.v) s.k) k) 24 s.lo s.hi := by
      have he : unM F (allL F) (endB (hgt F.v) s.k) (s.hi + 1) = true := by
        refine under_after hO hI (tm_bd hO.v b0 n4).2.1 (k := s.hi) (s := false) (by omega) ?_ hc
        exact mem_ups.2 (hlin _ (by rw [hit]; exact List.mem_cons_self))
      have k := seen_lo monoU hxs.1 hxs.2.1 hxs.2.2 he
      have k2 := big_lo monoU
      have k3 := lastNot_fuel monoU (f := 24) (g := 21) hxs.2.1 (by omega) (by omega)
      unfold seL rlB
      rw [rt_un hc]
      exact (congrArg (max s.lo) k2).trans (k.trans k3.symm)
    have e2 : seH F s = if 0 < endA s.k then firstNot (fun k => ovM F (allL F) (endA s.k) k) 24 s.lo s.hi else s.hi := by
      unfold seH
      split
      · rename_i h0
        have a1 : endA s.k ≤ hgt F.v := by omega
        have monoV : ∀ m m', m ≤ m' → ovM F (allL F) (endA s.k) m' = true → ovM F (allL F) (endA s.k) m = true := fun m m' k => ov_min hO hI n1 a1 k
        have he : ovM F (allL F) (endA s.k) (s.lo - 1) = true := by
          refine over_before hO hI (tm_bd hO.v n1 a1).2.1 (k := s.lo) (s := false) (by omega) ?_ hc
          exact mem_lows.2 (hlin _ (by rw [hit, if_pos h0]; exact List.mem_cons_of_mem _ List.mem_cons_self))
        have k := seen_hi monoV hxs.1 hxs.2.1 hxs.2.2 he
        have k2 := big_hi monoV
        have k3 := firstNot_fuel monoV (f := 24) (g := 21) hxs.2.1 (by omega) (by omega)
        unfold rhB
        rw [rt_ov hc]
        exact (congrArg (min s.hi) k2).trans (k.trans k3.symm)
      · rfl
    unfold seS
    rw [e0, hs, e1, e2]
  · rw [if_neg h, if_neg h, if_neg h]
end
theorem rSeen_any (F : Fl) (vv vs : Value) (n : Int) (w : World) (hF : FlIn w F vv vs) :
    Calls Tryz.prog 25 #[flV F vv vs, .int .i64 n] w fun e w' => e = .returned (.tuple #[.agg #[.int .i64 (seA F n), .int .i64 (seB F n)], .int .i64 (rdE F (inB n 0 ((F.s.length : Int) - 1)))]) ∧ Below w.heap.size w w' := by
  unfold seA seB
  by_cases h : rdE F (inB n 0 ((F.s.length : Int) - 1)) = 0
  · obtain ⟨ho, hR, hc⟩ := rdE_0' h
    have hn := inB_t hR
    rw [if_pos h, if_pos h, h]
    obtain ⟨k, rfl⟩ : ∃ k : Nat, n = k := ⟨n.toNat, by omega⟩
    exact rSeen_yes F vv vs k w hF (by omega) ho hc
  · rw [if_neg h, if_neg h]
    exact rSeen_no F vv vs n _ w hF rfl h
end Go.Proofs.YtnfndiafabhhdaaGreat
