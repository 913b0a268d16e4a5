/- Walks of Parse on both sides. -/
import Derived.Test.YtpjnlcdmbkbfcaaDoorPs
namespace Go.Proofs.YtpjnlcdmbkbfcaaDoor
open Go.ChangeShapes Go.WideShapes Go.ChangeAt Go.RowKit Go.BigFrame

theorem lists_c (l : List UInt8) : (⟨l.toArray⟩ : ByteArray).data.toList = l := by simp
theorem cut_l (l : List UInt8) (sep : ByteArray) (sp a r : List UInt8) (w : World) (hs : l.length ≤ 100) (hv : VarC w) (hp : sep.data.toList = sp) (ha : (Lib.cut l sp).1 = a) (hr : (Lib.cut l sp).2.1 = r) :
    Calls Tryd.prog 105 #[.string ⟨l.toArray⟩, .string sep] w fun e w' => ∃ t, e = .returned (.tuple #[.string ⟨a.toArray⟩, .string ⟨r.toArray⟩, .bool t]) ∧ Below w.heap.size w w' :=
  cut_c ⟨l.toArray⟩ sep a r w (by show l.toArray.size ≤ 100; simpa using hs) hv (by rw [lists_c, hp]; exact ha) (by rw [lists_c, hp]; exact hr)
theorem atoi_okl (l : List UInt8) (v : Int) (w : World) (hs : l.length ≤ 100) (h : Lib.atoiAll l = .ok v) :
    Calls Tryd.prog 106 #[.string ⟨l.toArray⟩] w fun e w' => e = .returned (.tuple #[.int .i64 v, .nilIface]) ∧ Below w.heap.size w w' :=
  atoi_ok ⟨l.toArray⟩ v w (by show l.toArray.size ≤ 100; simpa using hs) (by rw [lists_c]; exact h)
theorem atoi_badl (l : List UInt8) (w : World) (hs : l.length ≤ 100) (hv : VarC w) (h : ∀ v, Lib.atoiAll l ≠ .ok v) :
    Calls Tryd.prog 106 #[.string ⟨l.toArray⟩] w fun e w' => ∃ v T N, e = .returned (.tuple #[.int .i64 v, .iface T (.pointer (some ⟨N, 0, none⟩))]) ∧ Below w.heap.size w w' :=
  atoi_bad ⟨l.toArray⟩ w (by show l.toArray.size ≤ 100; simpa using hs) hv (by rw [lists_c]; exact h)
theorem Print_c (nt : Bool) (h p : Int) (l : List UInt8) (c : Int) (w : World) (hl : prV nt h p = l) (hc : prE h p = c) :
    Calls Tryd.prog 63 #[.agg #[.bool nt, .int .i64 h, .int .i64 p]] w fun e w' => e = .returned (.tuple #[.string ⟨l.toArray⟩, .int .i64 c]) ∧ Below w.heap.size w w' := by
  rw [← hl, ← hc]; exact Print_any nt h p w
theorem Box.trio {w : World} {b : Nat} {x y z : Value} (h : Box w b [x, y, z]) (x' y' z' : Value) : Box (((w.setCell ⟨b, 0, none⟩ x').setCell ⟨b, 1, none⟩ y').setCell ⟨b, 2, none⟩ z') b [x', y', z'] := by
  have h0 : w.cell? ⟨b, 0, none⟩ = some x := h.c 0 (by simp)
  have h1 : w.cell? ⟨b, 1, none⟩ = some y := h.c 1 (by simp)
  have h2 : w.cell? ⟨b, 2, none⟩ = some z := h.c 2 (by simp)
  have a0 : (w.setCell ⟨b, 0, none⟩ x').cell? ⟨b, 0, none⟩ = some x' := World.cell?_setCell_same' _ _ _ (by rw [h0]; rfl)
  have a1 : (w.setCell ⟨b, 0, none⟩ x').cell? ⟨b, 1, none⟩ = some y := (World.cell?_setCell_other _ _ _ _ (fun e => by cases e)).trans h1
  have a2 : (w.setCell ⟨b, 0, none⟩ x').cell? ⟨b, 2, none⟩ = some z := (World.cell?_setCell_other _ _ _ _ (fun e => by cases e)).trans h2
  have b0 : ((w.setCell ⟨b, 0, none⟩ x').setCell ⟨b, 1, none⟩ y').cell? ⟨b, 0, none⟩ = some x' := (World.cell?_setCell_other _ _ _ _ (fun e => by cases e)).trans a0
  have b1 : ((w.setCell ⟨b, 0, none⟩ x').setCell ⟨b, 1, none⟩ y').cell? ⟨b, 1, none⟩ = some y' := World.cell?_setCell_same' _ _ _ (by rw [a1]; rfl)
  have b2 : ((w.setCell ⟨b, 0, none⟩ x').setCell ⟨b, 1, none⟩ y').cell? ⟨b, 2, none⟩ = some z := (World.cell?_setCell_other _ _ _ _ (fun e => by cases e)).trans a2
  refine ⟨by simpa using h.lt, fun j hj => ?_⟩
  obtain rfl | rfl | rfl : j = 0 ∨ j = 1 ∨ j = 2 := by simp at hj; omega
  · exact (World.cell?_setCell_other _ _ _ _ (fun e => by cases e)).trans b0
  · exact (World.cell?_setCell_other _ _ _ _ (fun e => by cases e)).trans b1
  · exact World.cell?_setCell_same' _ _ _ (by rw [b2]; rfl)
theorem wordT_eq (nt : Bool) : (wordT nt == [110, 105, 103, 104, 116]) = nt := by cases nt <;> decide
set_option maxHeartbeats 1000000 in
theorem Parse_yes (nt : Bool) (h p : Int) (w : World) (hk : okH h p = true) (hv : VarC w) :
    Calls Tryd.prog 65 #[.string ⟨(prT nt h p).toArray⟩] w fun e w' => e = .returned (.tuple #[.agg #[.bool nt, .int .i64 h, .int .i64 p], .int .i64 0]) ∧ Below w.heap.size w w' := by
  obtain ⟨c1, c2, c3⟩ := chk_all (nt := nt) hk
  have hl := prT_len (nt := nt) hk
  have l1 := (cut_len (prT nt h p) [32]).2
  obtain ⟨r, hr⟩ : ∃ x, (Lib.cut (prT nt h p) [32]).2.1 = x := ⟨_, rfl⟩
  rw [hr] at c2 c3 l1
  have l2 := cut_len r [58]
  obtain ⟨a, ha⟩ : ∃ x, (Lib.cut r [58]).1 = x := ⟨_, rfl⟩
  obtain ⟨b, hb⟩ : ∃ x, (Lib.cut r [58]).2.1 = x := ⟨_, rfl⟩
  rw [ha] at c2 l2
  rw [hb] at c3 l2
  have HPV := Lib.hid (show prV nt h p = prT nt h p by unfold prV; rw [hk]; rfl)
  have HPE := Lib.hid (show prE h p = 0 by unfold prE; rw [hk]; rfl)
  obtain ⟨s, hs⟩ : ∃ s, prT nt h p = s := ⟨_, rfl⟩
  rw [hs] at HPV hl l1 c1 hr ⊢
  obtain ⟨m1, m2⟩ := l2
  have C1 := Lib.hid c1
  have C2 := Lib.hid c2
  have C3 := Lib.hid c3
  have HR := Lib.hid hr
  have HA := Lib.hid ha
  have HB := Lib.hid hb
  have HV := Lib.hid hv
  clear c1 c2 c3 hr ha hb hv hs
  go_enter Tryd.func65, Tryd.ntmps65
  go_wp2_with fail
  refine (cut_l s ⟨#[32]⟩ [32] (wordT nt) r _ (by omega) (HV.out.alloc _) rfl C1.out HR.out).mono ?_
  rintro e w1 ⟨t1, rfl, hb1⟩
  have hX1 := bafter hb1
  go_wp2_with fail
  refine (cut_l r ⟨#[58]⟩ [58] a b _ (by omega) (HV.out.below hX1) rfl HA.out HB.out).mono ?_
  rintro e w2 ⟨t2, rfl, hb2⟩
  have hX2 := bthen hX1 hb2
  go_wp2_with fail
  refine (atoi_okl a h _ (by omega) C2.out).mono ?_
  rintro e w3 ⟨rfl, hb3⟩
  have hX3 := bthen hX2 hb3
  go_wp2_with fail
  refine (atoi_okl b p _ (by omega) C3.out).mono ?_
  rintro e w4 ⟨rfl, hb4⟩
  have hX4 := bthen hX3 hb4
  go_wp2_with fail
  rw [wordT_eq]
  refine (Print_c nt h p s 0 _ HPV.out HPE.out).mono ?_
  rintro e w5 ⟨rfl, hb5⟩
  have hA4 := bthen (bthen (bthen hb1 hb2) hb3) hb4
  have hL := ((((Bx.none w).cons [.bool false, .int .i64 0, .int .i64 0] 37).below hA4).cons [.bool nt, .int .i64 h, .int .i64 p] 37).below hb5
  have hC := hL.facts
  simp only [AllC, RowC, Nat.zero_add, Nat.reduceAdd] at hC
  have lt0 : w.heap.size < w4.heap.size := by have := hA4.size; simp at this; omega
  have hA5 := bthen hA4 (bafter hb5)
  have fr0 := (hA5.frozen (p := ⟨w.heap.size, 0, none⟩) (by simp)).trans (frozen_new_row w #[.bool false, .int .i64 0, .int .i64 0] 37 0)
  have fr1 := (hA5.frozen (p := ⟨w.heap.size, 1, none⟩) (by simp)).trans (frozen_new_row w #[.bool false, .int .i64 0, .int .i64 0] 37 1)
  have fr2 := (hA5.frozen (p := ⟨w.heap.size, 2, none⟩) (by simp)).trans (frozen_new_row w #[.bool false, .int .i64 0, .int .i64 0] 37 2)
  have na : ¬ w.heap.size = w4.heap.size := by omega
  have nb : ¬ w4.heap.size = w.heap.size := by omega
  go_wp2_with fail
  have hBx := (hL (w.heap.size, [.bool false, .int .i64 0, .int .i64 0]) (by simp)).trio (.bool nt) (.int .i64 h) (.int .i64 p)
  have q0 := hBx.c 0 (by simp)
  have q1 := hBx.c 1 (by simp)
  have q2 := hBx.c 2 (by simp)
  simp only [List.getElem?_cons_zero, List.getElem?_cons_succ, Option.getD_some] at q0 q1 q2
  refine bodyPost_ret (v := .tuple #[.agg #[.bool nt, .int .i64 h, .int .i64 p], .int .i64 0]) (by simp [results, Tryd.results65, go_sem, q0, q1, q2]) rfl ⟨rfl, ?_⟩
  exact (((bafter hA5).setCell (Nat.le_refl _) _).setCell (Nat.le_refl _) _).setCell (Nat.le_refl _) _
theorem prV_cases (nt : Bool) (h p : Int) : (prE h p = 1 ∧ prV nt h p = []) ∨ (okH h p = true ∧ prE h p = 0 ∧ prV nt h p = prT nt h p) := by
  cases hk : okH h p
  · exact .inl ⟨by unfold prE; rw [hk]; rfl, by unfold prV; rw [hk]; rfl⟩
  · exact .inr ⟨rfl, by unfold prE; rw [hk]; rfl, by unfold prV; rw [hk]; rfl⟩
set_option maxHeartbeats 2000000 in
theorem Parse_no (s : List UInt8) (w : World) (hl : s.length ≤ 100) (hno : ∀ nt h p, okH h p = true → prT nt h p ≠ s) (hv : VarC w) :
    Calls Tryd.prog 65 #[.string ⟨s.toArray⟩] w fun e w' => e = .returned (.tuple #[.agg #[.bool false, .int .i64 0, .int .i64 0], .int .i64 3]) ∧ Below w.heap.size w w' := by
  have l1 := (cut_len s [32]).2
  obtain ⟨o, ho⟩ : ∃ x, (Lib.cut s [32]).1 = x := ⟨_, rfl⟩
  obtain ⟨r, hr⟩ : ∃ x, (Lib.cut s [32]).2.1 = x := ⟨_, rfl⟩
  rw [hr] at l1
  have l2 := cut_len r [58]
  obtain ⟨a, ha⟩ : ∃ x, (Lib.cut r [58]).1 = x := ⟨_, rfl⟩
  obtain ⟨b, hb⟩ : ∃ x, (Lib.cut r [58]).2.1 = x := ⟨_, rfl⟩
  rw [ha, hb] at l2
  obtain ⟨m1, m2⟩ := l2
  obtain ⟨nt, hnt⟩ : ∃ x, (o == [110, 105, 103, 104, 116]) = x := ⟨_, rfl⟩
  have C1 := Lib.hid ho
  have HR := Lib.hid hr
  have HA := Lib.hid ha
  have HB := Lib.hid hb
  have HN := Lib.hid hnt
  have HV := Lib.hid hv
  have HNO := Lib.hid hno
  clear ho hr ha hb hv hno hnt
  go_enter Tryd.func65, Tryd.ntmps65
  go_wp2_with fail
  refine (cut_l s ⟨#[32]⟩ [32] o r _ hl (HV.out.alloc _) rfl C1.out HR.out).mono ?_
  rintro e w1 ⟨t1, rfl, hb1⟩
  have hX1 := bafter hb1
  go_wp2_with fail
  refine (cut_l r ⟨#[58]⟩ [58] a b _ (by omega) (HV.out.below hX1) rfl HA.out HB.out).mono ?_
  rintro e w2 ⟨t2, rfl, hb2⟩
  have hX2 := bthen hX1 hb2
  go_wp2_with fail
  by_cases ka : ∃ v, Lib.atoiAll a = .ok v
  · obtain ⟨v1, hv1⟩ := ka
    have K1 := Lib.hid hv1
    clear hv1
    refine (atoi_okl a v1 _ (by omega) K1.out).mono ?_
    rintro e w3 ⟨rfl, hb3⟩
    have hX3 := bthen hX2 hb3
    go_wp2_with fail
    by_cases kb : ∃ v, Lib.atoiAll b = .ok v
    · obtain ⟨v2, hv2⟩ := kb
      have K2 := Lib.hid hv2
      clear hv2
      refine (atoi_okl b v2 _ (by omega) K2.out).mono ?_
      rintro e w4 ⟨rfl, hb4⟩
      rcases prV_cases nt v1 v2 with ⟨e1, e2⟩ | ⟨e0, e1, e2⟩
      · obtain ⟨l, hl2⟩ : ∃ x, prV nt v1 v2 = x := ⟨_, rfl⟩
        obtain ⟨c, hc⟩ : ∃ x, prE v1 v2 = x := ⟨_, rfl⟩
        rw [hc] at e1
        subst e1
        have HPV := Lib.hid hl2
        have HPE := Lib.hid hc
        clear e2 hl2 hc
        go_wp2_with fail
        rw [HN.out]
        refine (Print_c nt v1 v2 l 1 _ HPV.out HPE.out).mono ?_
        rintro e w5 ⟨rfl, hb5⟩
        have hA4 := bthen (bthen (bthen hb1 hb2) hb3) hb4
        have hL := ((((Bx.none w).cons [.bool false, .int .i64 0, .int .i64 0] 37).below hA4).cons [.bool nt, .int .i64 v1, .int .i64 v2] 37).below hb5
        have hC := hL.facts
        simp only [AllC, RowC, Nat.zero_add, Nat.reduceAdd] at hC
        have lt0 : w.heap.size < w4.heap.size := by have := hA4.size; simp at this; omega
        have hA5 := bthen hA4 (bafter hb5)
        have fr0 := (hA5.frozen (p := ⟨w.heap.size, 0, none⟩) (by simp)).trans (frozen_new_row w #[.bool false, .int .i64 0, .int .i64 0] 37 0)
        have fr1 := (hA5.frozen (p := ⟨w.heap.size, 1, none⟩) (by simp)).trans (frozen_new_row w #[.bool false, .int .i64 0, .int .i64 0] 37 1)
        have fr2 := (hA5.frozen (p := ⟨w.heap.size, 2, none⟩) (by simp)).trans (frozen_new_row w #[.bool false, .int .i64 0, .int .i64 0] 37 2)
        have na : ¬ w.heap.size = w4.heap.size := by omega
        have nb : ¬ w4.heap.size = w.heap.size := by omega
        go_wp2_with fail
        have hBx := (hL (w.heap.size, [.bool false, .int .i64 0, .int .i64 0]) (by simp)).trio (.bool false) (.int .i64 0) (.int .i64 0)
        have q0 := hBx.c 0 (by simp)
        have q1 := hBx.c 1 (by simp)
        have q2 := hBx.c 2 (by simp)
        simp only [List.getElem?_cons_zero, List.getElem?_cons_succ, Option.getD_some] at q0 q1 q2
        refine bodyPost_ret (v := .tuple #[.agg #[.bool false, .int .i64 0, .int .i64 0], .int .i64 3]) (by simp [results, Tryd.results65, go_sem, q0, q1, q2]) rfl ⟨rfl, ?_⟩
        exact (((bafter hA5).setCell (Nat.le_refl _) _).setCell (Nat.le_refl _) _).setCell (Nat.le_refl _) _
      · obtain ⟨l, hl2⟩ : ∃ x, prV nt v1 v2 = x := ⟨_, rfl⟩
        have hne : ¬ l = s := fun h => HNO.out nt v1 v2 e0 (by rw [← e2, hl2, h])
        have hne2 : (l == s) = false := by simpa using hne
        have hne3 : ¬ s = l := fun h => hne h.symm
        have HPV := Lib.hid hl2
        have HPE := Lib.hid e1
        clear e2 hl2 e1 e0
        go_wp2_with fail
        rw [HN.out]
        refine (Print_c nt v1 v2 l 0 _ HPV.out HPE.out).mono ?_
        rintro e w5 ⟨rfl, hb5⟩
        have hA4 := bthen (bthen (bthen hb1 hb2) hb3) hb4
        have hL := ((((Bx.none w).cons [.bool false, .int .i64 0, .int .i64 0] 37).below hA4).cons [.bool nt, .int .i64 v1, .int .i64 v2] 37).below hb5
        have hC := hL.facts
        simp only [AllC, RowC, Nat.zero_add, Nat.reduceAdd] at hC
        have lt0 : w.heap.size < w4.heap.size := by have := hA4.size; simp at this; omega
        have hA5 := bthen hA4 (bafter hb5)
        have fr0 := (hA5.frozen (p := ⟨w.heap.size, 0, none⟩) (by simp)).trans (frozen_new_row w #[.bool false, .int .i64 0, .int .i64 0] 37 0)
        have fr1 := (hA5.frozen (p := ⟨w.heap.size, 1, none⟩) (by simp)).trans (frozen_new_row w #[.bool false, .int .i64 0, .int .i64 0] 37 1)
        have fr2 := (hA5.frozen (p := ⟨w.heap.size, 2, none⟩) (by simp)).trans (frozen_new_row w #[.bool false, .int .i64 0, .int .i64 0] 37 2)
        have na : ¬ w.heap.size = w4.heap.size := by omega
        have nb : ¬ w4.heap.size = w.heap.size := by omega
        go_wp2_with fail
        have hBx := (hL (w.heap.size, [.bool false, .int .i64 0, .int .i64 0]) (by simp)).trio (.bool false) (.int .i64 0) (.int .i64 0)
        have q0 := hBx.c 0 (by simp)
        have q1 := hBx.c 1 (by simp)
        have q2 := hBx.c 2 (by simp)
        simp only [List.getElem?_cons_zero, List.getElem?_cons_succ, Option.getD_some] at q0 q1 q2
        refine bodyPost_ret (v := .tuple #[.agg #[.bool false, .int .i64 0, .int .i64 0], .int .i64 3]) (by simp [results, Tryd.results65, go_sem, q0, q1, q2]) rfl ⟨rfl, ?_⟩
        exact (((bafter hA5).setCell (Nat.le_refl _) _).setCell (Nat.le_refl _) _).setCell (Nat.le_refl _) _
    · refine (atoi_badl b _ (by omega) (HV.out.below hX3) (fun v h => kb ⟨v, h⟩)).mono ?_
      rintro e w4 ⟨v2, T, N, rfl, hb4⟩
      obtain ⟨l, hl2⟩ : ∃ x, prV nt v1 v2 = x := ⟨_, rfl⟩
      obtain ⟨c, hc⟩ : ∃ x, prE v1 v2 = x := ⟨_, rfl⟩
      have HPV := Lib.hid hl2
      have HPE := Lib.hid hc
      clear hl2 hc kb
      go_wp2_with fail
      rw [HN.out]
      refine (Print_c nt v1 v2 l c _ HPV.out HPE.out).mono ?_
      rintro e w5 ⟨rfl, hb5⟩
      have hA4 := bthen (bthen (bthen hb1 hb2) hb3) hb4
      have hL := ((((Bx.none w).cons [.bool false, .int .i64 0, .int .i64 0] 37).below hA4).cons [.bool nt, .int .i64 v1, .int .i64 v2] 37).below hb5
      have hC := hL.facts
      simp only [AllC, RowC, Nat.zero_add, Nat.reduceAdd] at hC
      have lt0 : w.heap.size < w4.heap.size := by have := hA4.size; simp at this; omega
      have hA5 := bthen hA4 (bafter hb5)
      have fr0 := (hA5.frozen (p := ⟨w.heap.size, 0, none⟩) (by simp)).trans (frozen_new_row w #[.bool false, .int .i64 0, .int .i64 0] 37 0)
      have fr1 := (hA5.frozen (p := ⟨w.heap.size, 1, none⟩) (by simp)).trans (frozen_new_row w #[.bool false, .int .i64 0, .int .i64 0] 37 1)
      have fr2 := (hA5.frozen (p := ⟨w.heap.size, 2, none⟩) (by simp)).trans (frozen_new_row w #[.bool false, .int .i64 0, .int .i64 0] 37 2)
      have na : ¬ w.heap.size = w4.heap.size := by omega
      have nb : ¬ w4.heap.size = w.heap.size := by omega
      go_wp2_with fail
      have hBx := (hL (w.heap.size, [.bool false, .int .i64 0, .int .i64 0]) (by simp)).trio (.bool false) (.int .i64 0) (.int .i64 0)
      have q0 := hBx.c 0 (by simp)
      have q1 := hBx.c 1 (by simp)
      have q2 := hBx.c 2 (by simp)
      simp only [List.getElem?_cons_zero, List.getElem?_cons_succ, Option.getD_some] at q0 q1 q2
      refine bodyPost_ret (v := .tuple #[.agg #[.bool false, .int .i64 0, .int .i64 0], .int .i64 3]) (by simp [results, Tryd.results65, go_sem, q0, q1, q2]) rfl ⟨rfl, ?_⟩
      exact (((bafter hA5).setCell (Nat.le_refl _) _).setCell (Nat.le_refl _) _).setCell (Nat.le_refl _) _
  · refine (atoi_badl a _ (by omega) (HV.out.below hX2) (fun v h => ka ⟨v, h⟩)).mono ?_
    rintro e w3 ⟨v1, T, N, rfl, hb3⟩
    have hX3 := bthen hX2 hb3
    clear ka
    go_wp2_with fail
    by_cases kb : ∃ v, Lib.atoiAll b = .ok v
    · obtain ⟨v2, hv2⟩ := kb
      have K2 := Lib.hid hv2
      clear hv2
      refine (atoi_okl b v2 _ (by omega) K2.out).mono ?_
      rintro e w4 ⟨rfl, hb4⟩
      obtain ⟨l, hl2⟩ : ∃ x, prV nt v1 v2 = x := ⟨_, rfl⟩
      obtain ⟨c, hc⟩ : ∃ x, prE v1 v2 = x := ⟨_, rfl⟩
      have HPV := Lib.hid hl2
      have HPE := Lib.hid hc
      clear hl2 hc
      go_wp2_with fail
      rw [HN.out]
      refine (Print_c nt v1 v2 l c _ HPV.out HPE.out).mono ?_
      rintro e w5 ⟨rfl, hb5⟩
      have hA4 := bthen (bthen (bthen hb1 hb2) hb3) hb4
      have hL := ((((Bx.none w).cons [.bool false, .int .i64 0, .int .i64 0] 37).below hA4).cons [.bool nt, .int .i64 v1, .int .i64 v2] 37).below hb5
      have hC := hL.facts
      simp only [AllC, RowC, Nat.zero_add, Nat.reduceAdd] at hC
      have lt0 : w.heap.size < w4.heap.size := by have := hA4.size; simp at this; omega
      have hA5 := bthen hA4 (bafter hb5)
      have fr0 := (hA5.frozen (p := ⟨w.heap.size, 0, none⟩) (by simp)).trans (frozen_new_row w #[.bool false, .int .i64 0, .int .i64 0] 37 0)
      have fr1 := (hA5.frozen (p := ⟨w.heap.size, 1, none⟩) (by simp)).trans (frozen_new_row w #[.bool false, .int .i64 0, .int .i64 0] 37 1)
      have fr2 := (hA5.frozen (p := ⟨w.heap.size, 2, none⟩) (by simp)).trans (frozen_new_row w #[.bool false, .int .i64 0, .int .i64 0] 37 2)
      have na : ¬ w.heap.size = w4.heap.size := by omega
      have nb : ¬ w4.heap.size = w.heap.size := by omega
      go_wp2_with fail
      have hBx := (hL (w.heap.size, [.bool false, .int .i64 0, .int .i64 0]) (by simp)).trio (.bool false) (.int .i64 0) (.int .i64 0)
      have q0 := hBx.c 0 (by simp)
      have q1 := hBx.c 1 (by simp)
      have q2 := hBx.c 2 (by simp)
      simp only [List.getElem?_cons_zero, List.getElem?_cons_succ, Option.getD_some] at q0 q1 q2
      refine bodyPost_ret (v := .tuple #[.agg #[.bool false, .int .i64 0, .int .i64 0], .int .i64 3]) (by simp [results, Tryd.results65, go_sem, q0, q1, q2]) rfl ⟨rfl, ?_⟩
      exact (((bafter hA5).setCell (Nat.le_refl _) _).setCell (Nat.le_refl _) _).setCell (Nat.le_refl _) _
    · refine (atoi_badl b _ (by omega) (HV.out.below hX3) (fun v h => kb ⟨v, h⟩)).mono ?_
      rintro e w4 ⟨v2, T2, N2, rfl, hb4⟩
      obtain ⟨l, hl2⟩ : ∃ x, prV nt v1 v2 = x := ⟨_, rfl⟩
      obtain ⟨c, hc⟩ : ∃ x, prE v1 v2 = x := ⟨_, rfl⟩
      have HPV := Lib.hid hl2
      have HPE := Lib.hid hc
      clear hl2 hc kb
      go_wp2_with fail
      rw [HN.out]
      refine (Print_c nt v1 v2 l c _ HPV.out HPE.out).mono ?_
      rintro e w5 ⟨rfl, hb5⟩
      have hA4 := bthen (bthen (bthen hb1 hb2) hb3) hb4
      have hL := ((((Bx.none w).cons [.bool false, .int .i64 0, .int .i64 0] 37).below hA4).cons [.bool nt, .int .i64 v1, .int .i64 v2] 37).below hb5
      have hC := hL.facts
      simp only [AllC, RowC, Nat.zero_add, Nat.reduceAdd] at hC
      have lt0 : w.heap.size < w4.heap.size := by have := hA4.size; simp at this; omega
      have hA5 := bthen hA4 (bafter hb5)
      have fr0 := (hA5.frozen (p := ⟨w.heap.size, 0, none⟩) (by simp)).trans (frozen_new_row w #[.bool false, .int .i64 0, .int .i64 0] 37 0)
      have fr1 := (hA5.frozen (p := ⟨w.heap.size, 1, none⟩) (by simp)).trans (frozen_new_row w #[.bool false, .int .i64 0, .int .i64 0] 37 1)
      have fr2 := (hA5.frozen (p := ⟨w.heap.size, 2, none⟩) (by simp)).trans (frozen_new_row w #[.bool false, .int .i64 0, .int .i64 0] 37 2)
      have na : ¬ w.heap.size = w4.heap.size := by omega
      have nb : ¬ w4.heap.size = w.heap.size := by omega
      go_wp2_with fail
      have hBx := (hL (w.heap.size, [.bool false, .int .i64 0, .int .i64 0]) (by simp)).trio (.bool false) (.int .i64 0) (.int .i64 0)
      have q0 := hBx.c 0 (by simp)
      have q1 := hBx.c 1 (by simp)
      have q2 := hBx.c 2 (by simp)
      simp only [List.getElem?_cons_zero, List.getElem?_cons_succ, Option.getD_some] at q0 q1 q2
      refine bodyPost_ret (v := .tuple #[.agg #[.bool false, .int .i64 0, .int .i64 0], .int .i64 3]) (by simp [results, Tryd.results65, go_sem, q0, q1, q2]) rfl ⟨rfl, ?_⟩
      exact (((bafter hA5).setCell (Nat.le_refl _) _).setCell (Nat.le_refl _) _).setCell (Nat.le_refl _) _
end Go.Proofs.YtpjnlcdmbkbfcaaDoor
