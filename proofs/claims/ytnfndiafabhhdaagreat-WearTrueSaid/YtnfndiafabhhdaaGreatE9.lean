/- Walks of slices.Clone and Delete at a filling's rows (Wear). -/
import Derived.Test.YtnfndiafabhhdaaGreatD1
import Derived.Test.YtnfndiafabhhdaaGreatE8
import Derived.Lib.SliceRun
namespace Go.Proofs.YtnfndiafabhhdaaGreat
open Go.ChangeShapes Go.WideShapes Go.ChangeAt Go.RowKit
theorem row_news {w : World} {o : Addr} {c k n : Nat} {f : Nat → Nat → Value} (h : Row w (.slice (some o) n c) k n f) (hk : 0 < k) : ∀ j u, (cellsL f k n)[j]? = some u → w.cell? (o.add j) = some u := row_list h hk o rfl
theorem row_nil {w : World} {c k n m : Nat} {f : Nat → Nat → Value} (h : Row w (.slice none m c) k n f) : n = 0 := by
  rcases Nat.eq_zero_or_pos n with h0 | h0
  · exact h0
  · obtain ⟨b, off, e, _⟩ := h.cells h0
    cases e
theorem ring_el : ElI 169 3 24 := el_of (z := .agg #[.int .i64 0, .int .i64 0, .int .i64 0]) (by kernel_rfl) (by decide)
theorem seen_el : ElI 88 4 32 := el_of (z := .agg #[.int .i64 0, .int .i64 0, .int .i64 0, .int .i64 0]) (by kernel_rfl) (by decide)
set_option maxRecDepth 100000 in
set_option maxHeartbeats 1000000 in
theorem cloneV_any (v : Value) (n : Nat) (f : Nat → Nat → Value) (w : World) (h : Row w v 3 n f) (hn : n ≤ 1000) (h1 : ∀ u ∈ cellsL f 3 n, u.oneCell' = true) :
    Calls Tryz.prog 169 #[v] w fun e w' => ∃ v', e = .returned v' ∧ Below w.heap.size w w' ∧ OwnR w' w.heap.size 169 3 v' n f := by
  obtain ⟨i0, z, hi, hz0, hz1, hz2, hz3⟩ := ring_el
  have q22 : ∀ (w : World) (a : Option Addr) (n c n' c' : Nat), (binOp .eql 23 (.slice a n c) (.slice none n' c')).run Tryz.prog w = .ok (.bool a.isNone) w := fun w a n c n' c' => Lib.run_eql_slice_nil w _ _ a n c n' c' Tryz.underlying23
  obtain ⟨o, c, rfl, hm⟩ := h.parts
  cases o with
  | none =>
    obtain rfl := row_nil h
    clear h h1 hi hz0 hz1 hz2 hz3
    go_enter Tryz.func169, Tryz.ntmps169
    go_wp2_with fail
    go_ret
    exact ⟨_, rfl, Below.refl _ _, OwnR.nil _ _ _ _ _⟩
  | some a =>
    obtain ⟨p, off, sp⟩ := a
    have hb := ballo w (Obj.cells #[] 169)
    have hnw := row_news (h.below hb) (by decide)
    have HN := Lib.hid hnw
    have H1 := Lib.hid h1
    have HE := Lib.hid (show Tryz.prog.info? 169 = some i0 ∧ i0.zero = some z ∧ i0.size = 3 ∧ i0.bytes = 24 ∧ z.cells.size = 3 from ⟨hi, hz0, hz1, hz2, hz3⟩)
    have HL := Lib.hid (cellsL_len f 3 n)
    have HM := Lib.hid (World.ownsRow_made w (e := 169) (size := 3) (base := w.heap.size) #[] 0 (Nat.le_refl _) (Nat.zero_le _) (by simp))
    have HB := Lib.hid hb
    clear h h1 hi hz0 hz1 hz2 hz3 hnw hb
    go_enter Tryz.func169, Tryz.ntmps169
    go_wp2_with (at_builtin; refine wpList_append_own _ rfl _ _ 23 rfl w.heap.size 169 i0 z 3 24 Tryz.underlying23 HE.out.1 HE.out.2.1 HE.out.2.2.1 HE.out.2.2.2.1 HE.out.2.2.2.2 (by decide) _ _ _ rfl HM.out ⟨p, off, sp⟩ n c (cellsL f 3 n) rfl HL.out HN.out H1.out (by unfold maxLen; omega) (by omega) (by simp) ?_; intro v' w1 hown hgrow hnil)
    have HO := Lib.hid hown
    have HG := Lib.hid hgrow
    clear hown hgrow hnil
    go_wp2_with fail
    go_ret
    refine ⟨_, rfl, HB.out.grown HG.out (by simp) (fun k hk => (HM.out.lt k hk).1), ?_⟩
    have := HO.out
    rw [Nat.zero_add, List.nil_append] at this
    exact this
set_option maxRecDepth 100000 in
set_option maxHeartbeats 1000000 in
theorem cloneS_any (v : Value) (n : Nat) (f : Nat → Nat → Value) (w : World) (h : Row w v 4 n f) (hn : n ≤ 1000) (h1 : ∀ u ∈ cellsL f 4 n, u.oneCell' = true) :
    Calls Tryz.prog 64 #[v] w fun e w' => ∃ v', e = .returned v' ∧ Below w.heap.size w w' ∧ OwnR w' w.heap.size 88 4 v' n f := by
  obtain ⟨i0, z, hi, hz0, hz1, hz2, hz3⟩ := seen_el
  have q22 : ∀ (w : World) (a : Option Addr) (n c n' c' : Nat), (binOp .eql 28 (.slice a n c) (.slice none n' c')).run Tryz.prog w = .ok (.bool a.isNone) w := fun w a n c n' c' => Lib.run_eql_slice_nil w _ _ a n c n' c' Tryz.underlying28
  obtain ⟨o, c, rfl, hm⟩ := h.parts
  cases o with
  | none =>
    obtain rfl := row_nil h
    clear h h1 hi hz0 hz1 hz2 hz3
    go_enter Tryz.func64, Tryz.ntmps64
    go_wp2_with fail
    go_ret
    exact ⟨_, rfl, Below.refl _ _, OwnR.nil _ _ _ _ _⟩
  | some a =>
    obtain ⟨p, off, sp⟩ := a
    have hb := ballo w (Obj.cells #[] 88)
    have hnw := row_news (h.below hb) (by decide)
    have HN := Lib.hid hnw
    have H1 := Lib.hid h1
    have HE := Lib.hid (show Tryz.prog.info? 88 = some i0 ∧ i0.zero = some z ∧ i0.size = 4 ∧ i0.bytes = 32 ∧ z.cells.size = 4 from ⟨hi, hz0, hz1, hz2, hz3⟩)
    have HL := Lib.hid (cellsL_len f 4 n)
    have HM := Lib.hid (World.ownsRow_made w (e := 88) (size := 4) (base := w.heap.size) #[] 0 (Nat.le_refl _) (Nat.zero_le _) (by simp))
    have HB := Lib.hid hb
    clear h h1 hi hz0 hz1 hz2 hz3 hnw hb
    go_enter Tryz.func64, Tryz.ntmps64
    go_wp2_with (at_builtin; refine wpList_append_own _ rfl _ _ 28 rfl w.heap.size 88 i0 z 4 32 Tryz.underlying28 HE.out.1 HE.out.2.1 HE.out.2.2.1 HE.out.2.2.2.1 HE.out.2.2.2.2 (by decide) _ _ _ rfl HM.out ⟨p, off, sp⟩ n c (cellsL f 4 n) rfl HL.out HN.out H1.out (by unfold maxLen; omega) (by omega) (by simp) ?_; intro v' w1 hown hgrow hnil)
    have HO := Lib.hid hown
    have HG := Lib.hid hgrow
    clear hown hgrow hnil
    go_wp2_with fail
    go_ret
    refine ⟨_, rfl, HB.out.grown HG.out (by simp) (fun k hk => (HM.out.lt k hk).1), ?_⟩
    have := HO.out
    rw [Nat.zero_add, List.nil_append] at this
    exact this
theorem step_run {P : Program} {ops : Array Oper} {o : Oper} {a : Act} {w : World} {K : Act → World → Prop} {Q : Exit → Act → World → Prop} {X : Prop} (hgd : o.guard = none) (s x : Operand) (t tn : TypeId)
    (ho : o.op = .call { callee := .builtin .append, args := #[s, x], argTypes := #[t, tn] }) (vs vx : Value) (hs : a.eval s = vs) (hx : a.eval x = vx)
    (v' : Value) (w' : World) (hr : (Builtin.append_ #[t, tn] o.type #[vs, vx]).run P w = .ok v' w') (h : K (a.put o.dst v') w') : if Region.wanted o (yielded ops a.tmps) = true then Oper.wp P o a w K Q else X := by
  have hw : Region.wanted o (yielded ops a.tmps) = true := by simp [Region.wanted, hgd]
  rw [if_pos hw]
  exact Lib.wp_append_run w s x t tn ho vs vx hs hx v' w' hr h
def skF (f : Nat → Nat → Value) (i : Nat) : Nat → Nat → Value := fun t j => f (if t < i then t else t + 1) j
theorem setRow_at {w : World} {g : Nat} {cur cs : Array Value} {t : TypeId} (h : w.heap[g]? = some (.cells cur t (0, 0))) : (w.setRow g cs).heap[g]? = some (.cells cs t (0, 0)) := by
  have := setRow_heap w g cur cs t (0, 0) h
  exact this
set_option maxRecDepth 100000 in
set_option maxHeartbeats 2000000 in
theorem delS_any (B i n : Nat) (v : Value) (f : Nat → Nat → Value) (w : World) (h : OwnR w B 88 4 v n f) (hi : i < n) (hn : n ≤ 1000) (h1 : ∀ u ∈ cellsL f 4 n, u.oneCell' = true) :
    Calls Tryz.prog 170 #[v, .int .i64 (i : Int), .int .i64 ((i : Int) + 1)] w fun e w' => ∃ v', e = .returned v' ∧ Below B w w' ∧ OwnR w' B 88 4 v' (n - 1) (skF f i) := by
  obtain ⟨i0, z, hi0, hz0, hz1, hz2, hz3⟩ := seen_el
  rcases h.2 with ⟨h0, _⟩ | ⟨g, cap, cur, rfl, hbg, hg, hnc, hcm, hcs, hct⟩
  · omega
  · have hlen : (cellsL f 4 n).length = n * 4 := cellsL_len f 4 n
    have hcl : cur.toList.length = cap * 4 := by simpa using hcs
    have hgl : g < w.heap.size := by
      rcases Nat.lt_or_ge g w.heap.size with hlt | hlt
      · exact hlt
      · rw [Array.getElem?_eq_none hlt] at hg; cases hg
    have hcell : ∀ q u, (cellsL f 4 n)[q]? = some u → w.cell? ⟨g, q, none⟩ = some u := fun q u hq => by
      have hq' : q < n * 4 := by rw [← hlen]; exact (List.getElem?_eq_some_iff.1 hq).1
      rw [← hct, List.getElem?_take_of_lt hq'] at hq
      simp only [World.cell?, hg]
      simpa using hq
    -- what is moved
    obtain ⟨news, hnews⟩ : ∃ l, (cellsL f 4 n).drop ((i + 1) * 4) = l := ⟨_, rfl⟩
    have hnl : news.length = (n - (i + 1)) * 4 := by rw [← hnews, List.length_drop, hlen]; omega
    obtain ⟨A, hA, hsrc⟩ : ∃ A : Addr, (if cap = i + 1 then some (⟨g, 0, none⟩ : Addr) else some ⟨g, (i + 1) * 4, none⟩) = some A ∧ ∀ j u, news[j]? = some u → w.drew.cell? (A.add j) = some u := by
      by_cases hc : cap = i + 1
      · refine ⟨⟨g, 0, none⟩, by rw [if_pos hc], fun j u hj => ?_⟩
        have : j < news.length := (List.getElem?_eq_some_iff.1 hj).1
        rw [hnl] at this
        omega
      · refine ⟨⟨g, (i + 1) * 4, none⟩, by rw [if_neg hc], fun j u hj => ?_⟩
        rw [add_off]
        rw [← hnews, List.getElem?_drop] at hj
        exact hcell _ u hj
    have hone : ∀ u ∈ news, u.oneCell' = true := fun u hu => h1 u (by rw [← hnews] at hu; exact List.mem_of_mem_drop hu)
    have hr1 := fun ty => run_append_room (P := Tryz.prog) w.drew 28 ty 88 i0 Tryz.underlying28 hi0 g i cap cur hg A (n - (i + 1)) (cap - (i + 1)) news (by rw [hz1]; exact hnl) hsrc hone (by omega) (by rw [hz1, hnl, hcs]; have := Nat.mul_le_mul_right 4 hnc; omega)
    rw [hz1, hnl] at hr1
    obtain ⟨C1, hC1⟩ : ∃ c, (cur.toList.take (i * 4) ++ news ++ cur.toList.drop (i * 4 + (n - (i + 1)) * 4)).toArray = c := ⟨_, rfl⟩
    simp only [hC1] at hr1
    have hC1s : C1.size = cap * 4 := by
      rw [← hC1]
      simp only [List.size_toArray, List.length_append, List.length_take, List.length_drop, hcl, hnl]
      have := Nat.mul_le_mul_right 4 hnc
      omega
    have hg1 : (w.drew.setRow g C1).heap[g]? = some (.cells C1 88 (0, 0)) := setRow_at hg
    have hB1 : Below B w (w.drew.setRow g C1) := bes_then ((Below.refl B w).drew) (bes_setRow C1) hbg (by show B ≤ w.heap.size; omega)
    obtain ⟨W1, hW1⟩ : ∃ W, w.drew.setRow g C1 = W := ⟨_, rfl⟩
    rw [hW1] at hg1 hB1
    simp only [hW1] at hr1
    -- the last element made zero
    obtain ⟨M, rfl⟩ : ∃ M, n = M + 1 := ⟨n - 1, by omega⟩
    obtain ⟨zs, hzs⟩ : ∃ l : List Value, l = [.int .i64 0, .int .i64 0, .int .i64 0, .int .i64 0] := ⟨_, rfl⟩
    have hzc : (Builtin.zeroCells (Value.agg #[.int .i64 0, .int .i64 0, .int .i64 0, .int .i64 0]).cells 1).toList = zs := by rw [hzs]; first | kernel_rfl | simp [Builtin.zeroCells, Value.cells] | decide
    have hst := run_storeCells_at Tryz.prog g (M * 4) 88 zs 0 C1 W1 hg1 (by rw [hzs, hC1s]; simp only [List.length_cons, List.length_nil]; omega) (by rw [hzs]; intro u hu; simp at hu; subst hu; rfl)
    have hcl2 : ∀ ty, (Builtin.clear_ #[28] ty #[.slice (some ⟨g, M * 4, none⟩) 1 (cap - M)]).run Tryz.prog W1 = .ok (.tuple #[]) (W1.setRow g (C1.toList.take (M * 4) ++ zs ++ C1.toList.drop (M * 4 + zs.length)).toArray) := fun ty => by
      simp only [Nat.add_zero] at hst
      simp [Builtin.clear_, run_underlying Tryz.underlying28, Tryz.zeroValue88, hzc, hst]
    obtain ⟨C2, hC2⟩ : ∃ c, (C1.toList.take (M * 4) ++ zs ++ C1.toList.drop (M * 4 + zs.length)).toArray = c := ⟨_, rfl⟩
    simp only [hC2] at hcl2
    have hg2 : (W1.setRow g C2).heap[g]? = some (.cells C2 88 (0, 0)) := setRow_at hg1
    have hB2 : Below B w (W1.setRow g C2) := bes_then hB1 (bes_setRow C2) hbg (Nat.le_trans (by omega) hB1.size)
    obtain ⟨W2, hW2⟩ : ∃ W, W1.setRow g C2 = W := ⟨_, rfl⟩
    rw [hW2] at hg2 hB2
    simp only [hW2] at hcl2
    have hC2s : C2.size = cap * 4 := by
      rw [← hC2, hzs]
      simp only [List.size_toArray, List.length_append, List.length_take, List.length_drop, Array.length_toList, hC1s, List.length_cons, List.length_nil]
      omega
    have hat : ∀ t j, t < M → j < 4 → C2.toList[t * 4 + j]? = some (skF f i t j) := fun t j ht hj => by
      have hp : t * 4 + j < M * 4 := by omega
      have e2 : C2.toList[t * 4 + j]? = C1.toList[t * 4 + j]? := by
        rw [← hC2]
        simp only [List.append_assoc]
        rw [List.getElem?_append_left (by rw [List.length_take, Array.length_toList, hC1s]; omega), List.getElem?_take_of_lt hp]
      have e3 : C1.toList[t * 4 + j]? = (cellsL f 4 (M + 1))[(if t < i then t else t + 1) * 4 + j]? := by
        rw [← hC1]
        simp only [List.append_assoc]
        by_cases hti : t < i
        · rw [if_pos hti, List.getElem?_append_left (by rw [List.length_take, hcl]; omega), List.getElem?_take_of_lt (by omega), ← hct, List.getElem?_take_of_lt (by omega)]
        · rw [if_neg hti, List.getElem?_append_right (by rw [List.length_take, hcl]; omega), List.length_take, hcl, Nat.min_eq_left (by omega), List.getElem?_append_left (by rw [hnl]; omega), ← hnews, List.getElem?_drop]
          congr 1
          omega
      rw [e2, e3]
      exact cellsL_at f (by split <;> omega) hj
    have hrow : OwnR W2 B 88 4 (.slice (some ⟨g, 0, none⟩) M cap) M (skF f i) := by
      refine ⟨cellsL_len _ _ _, .inr ⟨g, cap, C2, rfl, hbg, hg2, by omega, hcm, hC2s, ?_⟩⟩
      apply List.ext_getElem?
      intro p
      rcases Nat.lt_or_ge p (M * 4) with hp | hp
      · have h1 := hat (p / 4) (p % 4) (by omega) (by omega)
        have h2 := cellsL_at (skF f i) (k := 4) (n := M) (i := p / 4) (j := p % 4) (by omega) (by omega)
        have e : p / 4 * 4 + p % 4 = p := by omega
        rw [e] at h1 h2
        rw [List.getElem?_take_of_lt hp, h1, h2]
      · rw [List.getElem?_eq_none (by rw [List.length_take]; omega), List.getElem?_eq_none (by rw [cellsL_len]; omega)]
    have HROW := Lib.hid hrow
    have HB2 := Lib.hid hB2
    have HR1 := Lib.hid hr1
    obtain ⟨D, hD⟩ : ∃ D, M - i = D := ⟨_, rfl⟩
    have e5 : M + 1 - (i + 1) = D := by omega
    rw [e5] at HR1
    have e6 : i + D = M := by omega
    rw [e6] at HR1
    have k1 : i ≤ cap := by omega
    have k2 : i + 1 ≤ cap := by omega
    have k3 : M + 1 ≤ cap := hnc
    have k4 : ¬ cap = M := by omega
    have k5 : (0 : Int) ≤ (i : Int) + 1 := by omega
    have k6 : (i : Int) + 1 ≤ (M : Int) + 1 := by omega
    have k7 : ((i : Int) + 1).toNat = i + 1 := by omega
    have k8 : ((i : Int) == (i : Int) + 1) = false := by simp; omega
    have k9 : cap ≤ 9223372036854775807 := by unfold maxLen at hcm; omega
    have HA := Lib.hid hA
    have HCL := Lib.hid hcl2
    clear hrow hat hC2s hB2 hr1 hcl2 hst hC1 hC2 hW1 hW2 hg1 hg2 hnews hnl hcell hlen hcl hct hcs hg hone hsrc hC1s hB1 hcm h h1 hA hi0 hz0 hz1 hz2 hz3 e5 hzc
    go_enter Tryz.func170, Tryz.ntmps170
    go_wp2_with fail
    refine WpK.begin (S := fun _ => True) (kp := fun _ => true) (f := 8) (up := #[false, false, false, false, false, false, false, false]) (by kernel_rfl) (by kernel_rfl) (by kernel_rfl) ?_
    refine WpK.take (i := 0) (v := ?_) ((toArray_at _ _).trans rfl) (by kernel_rfl) (by kernel_rfl) (by kernel_rfl) (by kernel_rfl) (by kernel_rfl) (fun _ _ _ h => h) (Or.inl ⟨by rfl, ?_⟩) trivial ?_
    rotate_left
    · (intro x hx; go_simp <;> with_reducible rfl)
    simp only [Act.put, puts]
    refine WpK.take (i := 1) (v := ?_) ((toArray_at _ _).trans rfl) (by kernel_rfl) (by kernel_rfl) (by kernel_rfl) (by kernel_rfl) (by kernel_rfl) (fun _ _ _ h => h) (Or.inl ⟨by rfl, ?_⟩) trivial ?_
    rotate_left
    · (intro x hx; go_simp <;> with_reducible rfl)
    simp only [Act.put, puts]
    refine WpK.take (i := 3) (v := ?_) ((toArray_at _ _).trans rfl) (by kernel_rfl) (by kernel_rfl) (by kernel_rfl) (by kernel_rfl) (by kernel_rfl) (fun _ _ _ h => h) (Or.inl ⟨by rfl, ?_⟩) trivial ?_
    rotate_left
    · (intro x hx; go_simp <;> with_reducible rfl)
    simp only [Act.put, puts]
    refine WpK.take (i := 4) (v := ?_) ((toArray_at _ _).trans rfl) (by kernel_rfl) (by kernel_rfl) (by kernel_rfl) (by kernel_rfl) (by kernel_rfl) (fun _ _ _ h => h) (Or.inl ⟨by rfl, ?_⟩) trivial ?_
    rotate_left
    · (intro x hx; go_simp <;> with_reducible rfl)
    simp only [Act.put, puts]
    refine WpK.take (i := 2) (v := ?_) ((toArray_at _ _).trans rfl) (by kernel_rfl) (by kernel_rfl) (by kernel_rfl) (by kernel_rfl) (by kernel_rfl) (fun _ _ _ h => h) (Or.inl ⟨by rfl, ?_⟩) trivial ?_
    rotate_left
    · (intro x hx; go_simp <;> with_reducible rfl)
    simp only [Act.put, puts]
    refine WpK.weaken (S := fun _ => True) (kp := (fun _ => true)) (fun _ => trivial) _ ?_
    have hS0 := trivial
    have HA2 := HA.out
    refine WpK.take (i := 5) (v := ?_) ((toArray_at _ _).trans rfl) (by kernel_rfl) (by kernel_rfl) (by kernel_rfl) (by kernel_rfl) (by kernel_rfl) (fun _ _ _ h => h) (Or.inl ⟨by rfl, ?_⟩) hS0 ?_
    rotate_left
    · (intro x hx; skip; go_simp <;> with_reducible rfl)
    try simp only [Act.put, puts]
    clear HA2 hS0
    refine WpK.one (i := 6) (by kernel_rfl) ((toArray_at _ _).trans rfl) ?_
    intro K hK
    have HK := Lib.hid hK
    clear hK
    refine step_run rfl (.tmp 22) (.tmp 25) _ _ rfl _ _ rfl rfl _ _ (HR1.out _) ?_
    refine HK.out _ _ (fun _ => trivial) (fun _ => ?_)
    clear HK K
    try simp only [Act.put, puts]
    refine WpK.one (i := 7) (by kernel_rfl) ((toArray_at _ _).trans rfl) ?_
    intro K hK
    have HK := Lib.hid hK
    clear hK
    go_simp
    refine HK.out _ _ (fun _ => trivial) (fun _ => ?_)
    clear HK K
    try simp only [puts]
    refine WpK.done (by kernel_rfl) ?_
    have hclr := HCL.out
    go_wp2_with fail
    go_ret
    exact ⟨_, rfl, HB2.out, HROW.out⟩
theorem one_cells {f : Nat → Nat → Value} {k : Nat} (h : ∀ i j, (f i j).oneCell' = true) : ∀ {n : Nat}, ∀ u ∈ cellsL f k n, u.oneCell' = true
  | 0, u, hu => by simp [cellsL] at hu
  | n + 1, u, hu => by
    rw [cellsL, List.mem_append] at hu
    rcases hu with hu | hu
    · exact one_cells h u hu
    · obtain ⟨j, _, rfl⟩ := List.mem_map.1 hu
      exact h n j
theorem one_rg (l : List Rg) (i j : Nat) : (rgF l i j).oneCell' = true := by unfold rgF; split <;> rfl
theorem one_sn (s : List Sn) (i j : Nat) : (snF s i j).oneCell' = true := by unfold snF; split <;> rfl
def woF (F : Fl) (i : Nat) : Fl := seenF F (F.s.eraseIdx i)
structure FlOwn (w : World) (B : Nat) (F : Fl) (vv vs : Value) : Prop where
  v : OwnR w B 169 3 vv F.v.length (rgF F.v)
  s : OwnR w B 88 4 vs F.s.length (snF F.s)
theorem FlOwn.in_ {w : World} {B : Nat} {F : Fl} {vv vs : Value} (h : FlOwn w B F vv vs) : FlIn w F vv vs := ⟨h.v.row, h.s.row⟩
theorem FlOwn.bes {w w' : World} {B b : Nat} {F : Fl} {vv vs : Value} (h : FlOwn w B F vv vs) (hb : Bes b w w') (hlt : b < B) : FlOwn w' B F vv vs := ⟨owns_bes h.v hb hlt, owns_bes h.s hb hlt⟩
theorem own_base {w : World} {B B' : Nat} {E : TypeId} {k n : Nat} {v : Value} {xs : List Value} (h : w.ownsRow B' E k v n xs) (hB : B ≤ B') : w.ownsRow B E k v n xs := by
  refine ⟨h.1, ?_⟩
  rcases h.2 with h2 | ⟨g, cap, cur, h1, h2, h3⟩
  · exact .inl h2
  · exact .inr ⟨g, cap, cur, h1, Nat.le_trans hB h2, h3⟩
theorem wo_own {w : World} {B : Nat} {v : Value} {s : List Sn} {i : Nat} (hi : i < s.length) (h : OwnR w B 88 4 v (s.length - 1) (skF (snF s) i)) : OwnR w B 88 4 v (s.eraseIdx i).length (snF (s.eraseIdx i)) := by
  have e : (s.eraseIdx i).length = s.length - 1 := by rw [List.length_eraseIdx, if_pos hi]
  rw [e]
  unfold OwnR at h ⊢
  rw [cellsL_congr (g := skF (snF s) i)]
  · exact h
  · intro t j ht hj
    have : snA s (if t < i then t else t + 1) = snA (s.eraseIdx i) t := by
      unfold snA
      rw [List.getElem?_eraseIdx]
      split <;> rfl
    unfold skF snF
    rw [this]
theorem wo_row {w : World} {v : Value} {s : List Sn} {i : Nat} (hi : i < s.length) (h : Row w v 4 (s.length - 1) (skF (snF s) i)) : SnR w v (s.eraseIdx i) := by
  have e : (s.eraseIdx i).length = s.length - 1 := by rw [List.length_eraseIdx, if_pos hi]
  show Row w v 4 (s.eraseIdx i).length (snF (s.eraseIdx i))
  rw [e]
  refine Row.congr h fun t j ht hj => ?_
  have : snA s (if t < i then t else t + 1) = snA (s.eraseIdx i) t := by
    unfold snA
    rw [List.getElem?_eraseIdx]
    split <;> rfl
  unfold skF snF
  rw [this]
set_option maxRecDepth 100000 in
set_option maxHeartbeats 2000000 in
theorem wout_any (F : Fl) (vv vs : Value) (i : Nat) (w : World) (hF : FlIn w F vv vs) (hi : i < F.s.length) (hn : F.s.length ≤ 1000) (hv : F.v.length ≤ 1000) :
    Calls Tryz.prog 123 #[flV F vv vs, .int .i64 (i : Int)] w fun e w' => ∃ vv' vs', e = .returned (flV (woF F i) vv' vs') ∧ Below w.heap.size w w' ∧ FlOwn w' w.heap.size (woF F i) vv' vs' := by
  have hV := cloneV_any vv F.v.length (rgF F.v) _ ((hF.v.alloc (flO F vv vs)).alloc (Obj.cells #[.slice none 0 0, .int .i64 0, .int .i64 0, .int .i64 0, .int .i64 0, .slice none 0 0] 30)) hv (one_cells (one_rg F.v))
  have HF := Lib.hid hF
  have HV := Lib.hid hV
  have B1 := Lib.hid ((Bk.new w 30 [vv, .int .i64 F.f.lv, .int .i64 F.f.er, .int .i64 F.wlo, .int .i64 F.whi, vs]).alloc (Obj.cells #[.slice none 0 0, .int .i64 0, .int .i64 0, .int .i64 0, .int .i64 0, .slice none 0 0] 30))
  have B2 := Lib.hid (Bk.new1 w (flO F vv vs) 30 [.slice none 0 0, .int .i64 0, .int .i64 0, .int .i64 0, .int .i64 0, .slice none 0 0])
  obtain ⟨os, cs, rfl, ms⟩ := hF.s.parts
  obtain ⟨ov, cv, rfl, mv⟩ := hF.v.parts
  clear hV hF
  have hw1 : IntKind.i64.wrap ((i : Int) + 1) = (i : Int) + 1 := IntWalk.i64_in _ (by omega)
  go_enter Tryz.func123, Tryz.ntmps123
  go_wp2_with fail
  refine HV.out.mono ?_
  rintro e w1 ⟨v1, rfl, hb1, hown1⟩
  obtain ⟨x1, n1, hv1, _⟩ := hown1.row.parts
  subst hv1
  have hB1 := B1.out.below hb1
  have hB2 := B2.out.below hb1
  have f0 := hB1.frozen 0
  have c0 := hB1.cell 0
  have hl := hB1.lt
  simp only [List.getElem?_cons_zero] at c0
  have hs1 := hb1.size
  simp only [World.size_alloc] at hs1 hown1
  have hbw : Below w.heap.size w w1 := Below.trans (Below.alloc (Below.alloc (Below.refl _ _) (Nat.le_refl _) _) (by simp) _) (hb1.mono (by simp; omega))
  have hbw2 : Below w.heap.size w (w1.setCell ⟨w.heap.size, 0, none⟩ (.slice x1 F.v.length n1)) := hbw.setCell (Nat.le_refl _) _
  have hB12 := hB1.set 0 (.slice x1 F.v.length n1)
  have hB22 := hB2.far (p := ⟨w.heap.size, 0, none⟩) (by simp) (.slice x1 F.v.length n1)
  have hown2 := hown1.setCell (b := w.heap.size) (j := 0) (by omega) (.slice x1 F.v.length n1)
  obtain ⟨W2, hW2⟩ : ∃ W, w1.setCell ⟨w.heap.size, 0, none⟩ (.slice x1 F.v.length n1) = W := ⟨_, rfl⟩
  rw [hW2] at hbw2 hB12 hB22 hown2
  have hlt2 := hown2.lt
  simp only [List.set_cons_zero] at hB12
  have c5 := hB12.cell 5
  have l5 := hB12.lt
  simp only [List.getElem?_cons_zero, List.getElem?_cons_succ] at c5
  have hz2 := hB22.lt
  have HC := Lib.hid (cloneS_any _ F.s.length (snF F.s) W2 (HF.out.s.below hbw2) hn (one_cells (one_sn F.s)))
  have HBW2 := Lib.hid hbw2
  have HB12 := Lib.hid hB12
  have HB22 := Lib.hid hB22
  have HO2 := Lib.hid hown2
  have HW2 := Lib.hid hW2
  have HLT2 := Lib.hid hlt2
  clear hB1 hB2 hbw hbw2 hB12 hB22 hown1 hown2 hb1 hlt2 HV B1 B2
  go_wp2_with fail
  try rw [HW2.out]
  refine HC.out.mono ?_
  rintro e w3 ⟨v3, rfl, hb3, hown3⟩
  have HD := Lib.hid (delS_any W2.heap.size i F.s.length v3 (snF F.s) w3 hown3 hi hn (one_cells (one_sn F.s)))
  have HB3 := Lib.hid hb3
  clear hb3 hown3
  go_wp2_with fail
  refine HD.out.mono ?_
  rintro e w4 ⟨v4, rfl, hb4, hown4⟩
  obtain ⟨x4, n4, hv4, _⟩ := hown4.row.parts
  subst hv4
  have h24 : Below W2.heap.size W2 w4 := HB3.out.trans hb4
  have hb44 := HB12.out.below h24
  have c5 := hb44.cell 5
  have f5 := hb44.frozen 5
  have l5 := hb44.lt
  simp only [List.getElem?_cons_zero, List.getElem?_cons_succ] at c5
  have hb45 := hb44.set 5 (.slice x4 (F.s.length - 1) n4)
  simp only [List.set_cons_zero, List.set_cons_succ] at hb45
  have hr44 := (HB22.out.below h24).far (p := ⟨w.heap.size, 5, none⟩) (by simp) (.slice x4 (F.s.length - 1) n4)
  have hbw4 : Below w.heap.size w (w4.setCell ⟨w.heap.size, 5, none⟩ (.slice x4 (F.s.length - 1) n4)) := (HBW2.out.trans (h24.mono HBW2.out.size)).setCell (Nat.le_refl _) _
  have ho2 := (OwnR.below HO2.out h24).setCell (b := w.heap.size) (j := 5) (by omega) (.slice x4 (F.s.length - 1) n4)
  have ho4 := hown4.setCell (b := w.heap.size) (j := 5) (by omega) (.slice x4 (F.s.length - 1) n4)
  have HBF := Lib.hid hbw4
  have HO2F := Lib.hid ho2
  have HO4F := Lib.hid ho4
  have HB45 := Lib.hid hb45
  have HR44 := Lib.hid hr44
  clear hb4 h24 hb44 hb45 hr44 hbw4 ho2 ho4 hown4 HO2 HB12 HB22 HC HD HB3
  go_wp2_with (first | (refine ld_at rfl (T := 30) rfl rfl HB45.out Tryz.underlying30 rfl (by kernel_rfl) ?_) | (refine st_at rfl (T := 30) rfl rfl (cs := [.slice x1 F.v.length n1, .int .i64 F.f.lv, .int .i64 F.f.er, .int .i64 F.wlo, .int .i64 F.whi, .slice x4 (F.s.length - 1) n4]) rfl HR44.out (by kernel_rfl) rfl rfl ?_; intro wk hkk hsk))
  have hbf := bes_then HBF.out hsk (by omega) HBF.out.size
  refine bodyPost_ret (results_cell_row rfl _ _ (w.heap.size + 1) _ _ (0, 0) _ rfl hkk Tryz.underlying30 rfl (by kernel_rfl)) rfl ⟨_, _, rfl, hbf, ⟨?_, ?_⟩⟩
  · exact own_base (owns_bes HO2F.out hsk (by omega)) (by omega)
  · exact wo_own hi (own_base (owns_bes HO4F.out hsk (by omega)) HBW2.out.size)
def WoPost (F : Fl) (n : Int) (e : Ending) (w' : World) : Prop :=
  (okFl F = false ∧ e = .returned (.tuple #[.agg #[.slice none 0 0, .int .i64 0, .int .i64 0, .int .i64 0, .int .i64 0, .slice none 0 0], .int .i64 30])) ∨
  (okFl F = true ∧ inB n 0 ((F.s.length : Int) - 1) = false ∧ e = .returned (.tuple #[.agg #[.slice none 0 0, .int .i64 0, .int .i64 0, .int .i64 0, .int .i64 0, .slice none 0 0], .int .i64 1])) ∨
  (okFl F = true ∧ inB n 0 ((F.s.length : Int) - 1) = true ∧ ∃ vv' vs', e = .returned (.tuple #[flV (woF F n.toNat) vv' vs', .int .i64 0]) ∧ FlIn w' (woF F n.toNat) vv' vs')
abbrev flZ : List Value := [.slice none 0 0, .int .i64 0, .int .i64 0, .int .i64 0, .int .i64 0, .slice none 0 0]
set_option maxRecDepth 100000 in
set_option maxHeartbeats 4000000 in
theorem Without_any (F : Fl) (vv vs : Value) (n : Int) (w : World) (hF : FlIn w F vv vs) : Calls Tryz.prog 53 #[flV F vv vs, .int .i64 n] w fun e w' => WoPost F n e w' ∧ Below w.heap.size w w' := by
  have hO := opened_any F vv vs _ ((hF.alloc (flO F vv vs)).alloc (Obj.cells #[.slice none 0 0, .int .i64 0, .int .i64 0, .int .i64 0, .int .i64 0, .slice none 0 0] 30))
  have HF := Lib.hid hF
  have B1 := Lib.hid ((Bk.new w 30 [vv, .int .i64 F.f.lv, .int .i64 F.f.er, .int .i64 F.wlo, .int .i64 F.whi, vs]).alloc (Obj.cells #[.slice none 0 0, .int .i64 0, .int .i64 0, .int .i64 0, .int .i64 0, .slice none 0 0] 30))
  have B2 := Lib.hid (Bk.new1 w (flO F vv vs) 30 flZ)
  obtain ⟨os, cs, rfl, ms⟩ := hF.s.parts
  obtain ⟨ov, cv, rfl, mv⟩ := hF.v.parts
  have HO := Lib.hid hO
  clear hO hF
  go_enter Tryz.func53, Tryz.ntmps53
  go_wp2_with fail
  refine HO.out.mono ?_
  rintro e w1 (⟨h0, rfl, hb1⟩ | ⟨b, pv, rfl, hb1, hS⟩)
  · have hbw := Lib.hid (bafter (bafter hb1))
    have h2 := Lib.hid (B2.out.below hb1)
    have hs1 := hb1.size
    simp only [World.size_alloc] at hs1
    clear hb1
    go_wp2_with (refine st_at rfl (T := 30) rfl rfl (cs := flZ) rfl h2.out (by kernel_rfl) rfl rfl ?_; intro wk hkk hsk)
    refine bodyPost_ret (ret_cell_tmp rfl _ _ rfl hkk Tryz.underlying30 rfl (by kernel_rfl)) rfl ⟨.inl ⟨h0, rfl⟩, ?_⟩
    exact bes_then hbw.out hsk (by omega) hbw.out.size
  · have hok : okFl F = true := (okFl_iff F).2 hS.o
    have hbw := Lib.hid (bafter (bafter hb1))
    have h2 := Lib.hid (B2.out.below hb1)
    have h1 := Lib.hid (B1.out.below hb1)
    have hs1 := hb1.size
    simp only [World.size_alloc] at hs1
    have hn24 := hS.o.n
    have hv24 : F.v.length ≤ 24 := by have := hS.o.v; simp only [okVs, Bool.and_eq_true, decide_eq_true_eq] at this; exact this.1.2
    have HR := Lib.hid (reading_any F b _ _ pv n w1 hS)
    obtain ⟨q, hq⟩ : ∃ q, inB n 0 ((F.s.length : Int) - 1) = q := ⟨_, rfl⟩
    rw [hq] at HR
    have HQ := Lib.hid hq
    clear hb1 hS HO hq
    go_wp2_with fail
    refine HR.out.mono ?_
    rintro e w2 ⟨rfl, rfl⟩
    cases q with
    | false =>
      go_wp2_with (refine st_at rfl (T := 30) rfl rfl (cs := flZ) rfl h2.out (by kernel_rfl) rfl rfl ?_; intro wk hkk hsk)
      refine bodyPost_ret (ret_cell_tmp rfl _ _ rfl hkk Tryz.underlying30 rfl (by kernel_rfl)) rfl ⟨.inr (.inl ⟨hok, HQ.out, rfl⟩), ?_⟩
      exact bes_then hbw.out hsk (by omega) hbw.out.size
    | true =>
      obtain ⟨n0, n1⟩ := inB_t HQ.out
      obtain ⟨i, rfl⟩ : ∃ k : Nat, n = (k : Int) := ⟨n.toNat, by omega⟩
      have hi : i < F.s.length := by omega
      have HW := Lib.hid (wout_any F _ _ i w2 (HF.out.below hbw.out) hi (by omega) (by omega))
      go_wp2_with (first | (refine ld_at rfl (T := 30) rfl rfl h1.out Tryz.underlying30 rfl (by kernel_rfl) ?_) | fail)
      refine HW.out.mono ?_
      rintro e w3 ⟨vv', vs', rfl, hb3, hown⟩
      have h23 := Lib.hid (h2.out.below hb3)
      have HBF := Lib.hid (bthen hbw.out hb3)
      have HOW := Lib.hid hown
      obtain ⟨x1, n1', hx1, _⟩ := hown.v.row.parts
      obtain ⟨x4, n4, hx4, _⟩ := hown.s.row.parts
      subst hx1 hx4
      clear hb3 hown
      go_wp2_with (refine st_at rfl (T := 30) rfl rfl (cs := [.slice x1 (woF F i).v.length n1', .int .i64 F.f.lv, .int .i64 F.f.er, .int .i64 F.wlo, .int .i64 F.whi, .slice x4 (woF F i).s.length n4]) rfl h23.out (by kernel_rfl) rfl rfl ?_; intro wk hkk hsk)
      refine bodyPost_ret (ret_cell_tmp rfl _ _ rfl hkk Tryz.underlying30 rfl (by kernel_rfl)) rfl ⟨.inr (.inr ⟨hok, HQ.out, _, _, rfl, (HOW.out.bes hsk (by omega)).in_⟩), ?_⟩
      exact bes_then HBF.out hsk (by omega) HBF.out.size
end Go.Proofs.YtnfndiafabhhdaaGreat
