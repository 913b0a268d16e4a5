/- Rows of the call's own, of elements of several cells: append, and how they read (Wear). -/
import Derived.Test.YtnfndiafabhhdaaGreatB2
import Derived.Test.YtnfndiafabhhdaaGreatB7
import Derived.Test.YtnfndiafabhhdaaGreatB1
import Derived.Test.YtnfndiafabhhdaaGreatB6
import Derived.Laws.Rows
namespace Go.Proofs.YtnfndiafabhhdaaGreat
open Go.ChangeShapes Go.WideShapes Go.ChangeAt Go.RowKit
theorem add_off (b o j : Nat) : (⟨b, o, none⟩ : Addr).add j = ⟨b, o + j, none⟩ := by
  unfold Addr.add
  split
  · simp_all
  · rfl
def ElI (E : TypeId) (k by_ : Nat) : Prop := ∃ i z, Tryz.prog.info? E = some i ∧ i.zero = some z ∧ i.size = k ∧ i.bytes = by_ ∧ z.cells.size = k
theorem el_of {E : TypeId} {k by_ : Nat} {z : Value} (h : (Tryz.prog.info? E).map (fun i => (i.zero, i.size, i.bytes)) = some (some z, k, by_)) (hz : z.cells.size = k) : ElI E k by_ := by
  obtain ⟨i, a, b, c, d⟩ := info_parts_ h
  exact ⟨i, z, a, b, c, d, hz⟩
def cellsL (f : Nat → Nat → Value) (k : Nat) : Nat → List Value
  | 0 => []
  | n + 1 => cellsL f k n ++ (List.range k).map (f n)
theorem cellsL_len (f : Nat → Nat → Value) (k : Nat) : ∀ n, (cellsL f k n).length = n * k
  | 0 => by simp [cellsL]
  | n + 1 => by rw [cellsL, List.length_append, cellsL_len f k n]; simp [Nat.succ_mul]
theorem cellsL_at (f : Nat → Nat → Value) {k : Nat} : ∀ {n i j : Nat}, i < n → j < k → (cellsL f k n)[i * k + j]? = some (f i j)
  | 0, _, _, h, _ => by omega
  | n + 1, i, j, hi, hj => by
    rw [cellsL]
    rcases Nat.lt_or_ge i n with h | h
    · rw [List.getElem?_append_left]
      · exact cellsL_at f h hj
      · rw [cellsL_len]
        have : (i + 1) * k ≤ n * k := Nat.mul_le_mul_right k h
        rw [Nat.succ_mul] at this
        omega
    · obtain rfl : i = n := by omega
      rw [List.getElem?_append_right (by rw [cellsL_len]; omega), cellsL_len, Nat.add_sub_cancel_left]
      simp [hj]
theorem cellsL_congr {f g : Nat → Nat → Value} {k : Nat} : ∀ {n : Nat}, (∀ i j, i < n → j < k → f i j = g i j) → cellsL f k n = cellsL g k n
  | 0, _ => rfl
  | n + 1, h => by
    rw [cellsL, cellsL, cellsL_congr (n := n) (fun i j hi hj => h i j (by omega) hj)]
    congr 1
    apply List.map_congr_left
    intro j hj
    exact h n j (Nat.lt_succ_self n) (List.mem_range.1 hj)
abbrev OwnR (w : World) (base : Nat) (E : TypeId) (k : Nat) (v : Value) (n : Nat) (f : Nat → Nat → Value) : Prop := w.ownsRow base E k v n (cellsL f k n)
theorem OwnR.nil (w : World) (base : Nat) (E : TypeId) (k : Nat) (f : Nat → Nat → Value) : OwnR w base E k (.slice none 0 0) 0 f := World.ownsRow_nil _ _ _ _
theorem OwnR.row {w : World} {base : Nat} {E : TypeId} {k : Nat} {v : Value} {n : Nat} {f : Nat → Nat → Value} (h : OwnR w base E k v n f) : Row w v k n f := by
  have h0 := h
  rcases h.2 with ⟨h1, h2⟩ | ⟨g, cap, cur, rfl, hbg, hg, hn, hc, _⟩
  · subst h2
    rw [h1]
    exact Row.nil _ _ _ _ _
  · refine ⟨_, _, rfl, by unfold maxLen at hc; omega, fun _ => ⟨g, 0, rfl, ?_, fun i j hi hj => ?_⟩⟩
    · rcases Nat.lt_or_ge g w.heap.size with hlt | hlt
      · exact hlt
      · rw [Array.getElem?_eq_none hlt] at hg; cases hg
    · have := h0.cells (g := g) rfl (i * k + j) (f i j) (cellsL_at f hi hj)
      rw [add_off, ← Nat.add_assoc] at this
      exact this
theorem OwnR.below {w w' : World} {base : Nat} {E : TypeId} {k : Nat} {v : Value} {n : Nat} {f : Nat → Nat → Value} (h : OwnR w base E k v n f) (hb : Below w.heap.size w w') : OwnR w' base E k v n f := owns_below h hb
theorem OwnR.setCell {w : World} {base : Nat} {E : TypeId} {k : Nat} {v : Value} {n : Nat} {f : Nat → Nat → Value} (h : OwnR w base E k v n f) {b j : Nat} (hb : b < base) (x : Value) : OwnR (w.setCell ⟨b, j, none⟩ x) base E k v n f := owns_setCell h hb x
theorem news_bk {w : World} {b : Nat} {T : TypeId} {A : List Value} (h : Bk w b T A) : ∀ j u, A[j]? = some u → w.cell? ((⟨b, 0, none⟩ : Addr).add j) = some u := fun j u hu => by
  rw [add_off, Nat.zero_add, h.cell, hu]
theorem wp_own {T E : TypeId} {k by_ : Nat} (hT : Tryz.prog.underlying T = some (.slice E)) (hE : ElI E k by_) (hk : 0 < k) (hby : by_ ≤ 1000)
    {o : Oper} {a : Act} {w : World} {K : Act → World → Prop} {Q : Exit → Act → World → Prop} (s x : Operand)
    (ho : o.op = .call { callee := .builtin .append, args := #[s, x], argTypes := #[T, T] })
    (base : Nat) (v : Value) (n : Nat) (xs : List Value) (hs : a.eval s = v) (hown : w.ownsRow base E k v n xs) (ad : Addr) (c : Nat) (news : List Value) (hx : a.eval x = .slice (some ad) 1 c) (hl : news.length = k) (hnews : ∀ j u, news[j]? = some u → w.cell? (ad.add j) = some u) (h1 : ∀ u ∈ news, u.oneCell' = true)
    (hn : n ≤ 100000000) (hbase : base ≤ w.heap.size)
    (h : ∀ (g c' : Nat) w', w'.ownsRow base E k (.slice (some ⟨g, 0, none⟩) (n + 1) c') (n + 1) (xs ++ news) → Below base w w' → w.grownBy w' v.ownBlock → (v.ownBlock = some g ∨ g = w.heap.size) → K (a.put o.dst (.slice (some ⟨g, 0, none⟩) (n + 1) c')) w') : Oper.wp Tryz.prog o a w K Q := by
  obtain ⟨i, z, hi, hz0, hz1, hz2, hz3⟩ := hE
  have hmul : (n + 1) * by_ ≤ (n + 1) * 1000 := Nat.mul_le_mul_left _ hby
  refine wp_append_lies w s x T ho base E i z k by_ hT hi hz0 hz1 hz2 hz3 hk v n xs hs hown ad 1 c news hx (by rw [hl, Nat.one_mul]) hnews h1 (by decide) (by unfold maxLen; omega) (by omega) hbase w.heap.size rfl ?_
  intro g cap w' h1 h2 h3 h4
  exact h g cap w' h1 ((Below.refl base w).grown h2 hbase (fun j hj => (hown.lt j hj).1)) h2 h3
theorem step_own {T E : TypeId} {k by_ : Nat} (hT : Tryz.prog.underlying T = some (.slice E)) (hE : ElI E k by_) (hk : 0 < k) (hby : by_ ≤ 1000)
    {ops : Array Oper} {o : Oper} {a : Act} {w : World} {K : Act → World → Prop} {Q : Exit → Act → World → Prop} {X : Prop} (hgd : o.guard = none) (s x : Operand)
    (ho : o.op = .call { callee := .builtin .append, args := #[s, x], argTypes := #[T, T] })
    (base : Nat) (v : Value) (n : Nat) (xs : List Value) (hs : a.eval s = v) (hown : w.ownsRow base E k v n xs) (ad : Addr) (c : Nat) (news : List Value) (hx : a.eval x = .slice (some ad) 1 c) (hl : news.length = k) (hnews : ∀ j u, news[j]? = some u → w.cell? (ad.add j) = some u) (h1 : ∀ u ∈ news, u.oneCell' = true)
    (hn : n ≤ 100000000) (hbase : base ≤ w.heap.size)
    (h : ∀ (g c' : Nat) w', w'.ownsRow base E k (.slice (some ⟨g, 0, none⟩) (n + 1) c') (n + 1) (xs ++ news) → Below base w w' → w.grownBy w' v.ownBlock → (v.ownBlock = some g ∨ g = w.heap.size) → K (a.put o.dst (.slice (some ⟨g, 0, none⟩) (n + 1) c')) w') : if Region.wanted o (yielded ops a.tmps) = true then Oper.wp Tryz.prog o a w K Q else X := by
  have hw : Region.wanted o (yielded ops a.tmps) = true := by simp [Region.wanted, hgd]
  rw [if_pos hw]
  exact wp_own hT hE hk hby s x ho base v n xs hs hown ad c news hx hl hnews h1 hn hbase h
theorem list_own {T E : TypeId} {k by_ : Nat} (hT : Tryz.prog.underlying T = some (.slice E)) (hE : ElI E k by_) (hk : 0 < k) (hby : by_ ≤ 1000)
    {ops : Array Oper} {rest : List Oper} {o : Oper} {a : Act} {w : World} {Q : Exit → Act → World → Prop} (hgd : o.guard = none) (s x : Operand)
    (ho : o.op = .call { callee := .builtin .append, args := #[s, x], argTypes := #[T, T] })
    (base : Nat) (v : Value) (n : Nat) (xs : List Value) (hs : a.eval s = v) (hown : w.ownsRow base E k v n xs) (ad : Addr) (c : Nat) (news : List Value) (hx : a.eval x = .slice (some ad) 1 c) (hl : news.length = k) (hnews : ∀ j u, news[j]? = some u → w.cell? (ad.add j) = some u) (h1 : ∀ u ∈ news, u.oneCell' = true)
    (hn : n ≤ 100000000) (hbase : base ≤ w.heap.size)
    (h : ∀ (g c' : Nat) w', w'.ownsRow base E k (.slice (some ⟨g, 0, none⟩) (n + 1) c') (n + 1) (xs ++ news) → Below base w w' → w.grownBy w' v.ownBlock → (v.ownBlock = some g ∨ g = w.heap.size) → wpList Tryz.prog ops Q rest (a.put o.dst (.slice (some ⟨g, 0, none⟩) (n + 1) c')) w') : wpList Tryz.prog ops Q (o :: rest) a w :=
  wpList_plain hgd fun _ hK => wp_own hT hE hk hby s x ho base v n xs hs hown ad c news hx hl hnews h1 hn hbase fun g c' w' h1 h2 h3 h4 => hK _ _ (h g c' w' h1 h2 h3 h4)
end Go.Proofs.YtnfndiafabhhdaaGreat
/- Walks of curve at the points of a vessel: the lines one by one, right (Wear). -/
namespace Go.Proofs.YtnfndiafabhhdaaGreat
open Go.ChangeShapes Go.WideShapes Go.ChangeAt Go.RowKit Go.Shelf
attribute [local go_sem] Oper.semAt_some
def ptF (l : List Rg) (i j : Nat) : Value := match j with
  | 0 => .int .i64 (vX l i)
  | _ => .int .i64 (vY l i)
abbrev PtR (w : World) (v : Value) (l : List Rg) : Prop := Row w v 2 (l.length + 1) (ptF l)
structure OkV (l : List Rg) : Prop where
  n1 : 1 ≤ l.length
  n2 : l.length ≤ 24
  f : okFrom l l.length = true
theorem okv_iff (l : List Rg) : okVs l = true ↔ OkV l := by
  simp only [okVs, Bool.and_eq_true, decide_eq_true_eq]
  exact ⟨fun ⟨⟨a, b⟩, c⟩ => ⟨a, b, c⟩, fun ⟨a, b, c⟩ => ⟨⟨a, b⟩, c⟩⟩
theorem pt_bd {l : List Rg} (h : OkV l) {k : Nat} (hk : k ≤ l.length) : (0 ≤ vX l k ∧ vX l k ≤ 24000) ∧ (0 ≤ vY l k ∧ vY l k ≤ 480000) := by
  have := vXY_bd h.f k hk
  have := h.n2
  omega
theorem coord_any (n : Int) (w : World) : Calls Tryz.prog 201 #[.int .i64 n] w fun e w' => e = .returned (.bool (inB n 0 16777216)) ∧ w = w' := by
  go_enter Tryz.func201, Tryz.ntmps201
  go_wp2
  all_goals (go_ret; simp [inB]; omega)
theorem right1_any (x y : Int) (w : World) (hx : inB x 0 16777216 = true) (hy : inB y 0 16777216 = true) : Calls Tryz.prog 200 #[.agg #[.int .i64 x, .int .i64 y]] w fun e w' => e = .returned (.bool false) ∧ Below w.heap.size w w' := by
  have HX := Lib.hid hx; clear hx
  have HY := Lib.hid hy; clear hy
  go_enter Tryz.func200, Tryz.ntmps200
  go_wp2_with fail
  refine (coord_any x _).mono ?_
  rintro e w1 ⟨rfl, rfl⟩
  rw [HX.out]
  go_wp2_with fail
  refine (coord_any y _).mono ?_
  rintro e w1 ⟨rfl, rfl⟩
  rw [HY.out]
  go_wp2_with fail
  go_ret
  exact ⟨rfl, ballo _ _⟩
set_option maxHeartbeats 1000000 in
theorem pidx_any (l : List Rg) (v : Value) (w : World) (hv : OkV l) (hP : PtR w v l) : Calls Tryz.prog 203 #[v, .func (.func 200) #[] #[]] w fun e w' => e = .returned (.int .i64 (-1)) ∧ Below w.heap.size w w' := by
  obtain ⟨o, c, rfl, m⟩ := hP.parts
  obtain ⟨b, off, rfl, hb, hc⟩ := hP.cells (by omega)
  obtain ⟨n, hn⟩ : ∃ n, l.length + 1 = n := ⟨_, rfl⟩
  have hnl : n ≤ 25 := by have := hv.n2; omega
  rw [hn] at hc m ⊢
  have HC := Lib.hid hc; clear hc hP
  have HN := Lib.hid hn; clear hn
  have HV := Lib.hid hv; clear hv
  go_enter Tryz.func203, Tryz.ntmps203
  go_wp2_with fail
  go_loopw [8] (fun i wr => ∃ k : Nat, k ≤ n ∧ i = .int .i64 (k : Int) ∧ Below w.heap.size w wr) (fun i _ => n - (intOf i).toNat)
  case atStart => exact ⟨0, Nat.zero_le _, rfl, Below.refl _ _⟩
  case round =>
    obtain ⟨k, hk, rfl, hbl⟩ := hrel
    by_cases h0 : k < n
    · have d0 := (hbl.cell (p := ⟨b, off + k * 2, none⟩) hb).trans (HC.out k 0 h0 (by omega))
      have d1 := (hbl.cell (p := ⟨b, off + k * 2 + 1, none⟩) hb).trans (HC.out k 1 h0 (by omega))
      simp only [ptF] at d0 d1
      obtain ⟨⟨x1, x2⟩, y1, y2⟩ := pt_bd HV.out (k := k) (by have := HN.out; omega)
      go_wp2_with fail
      refine (right1_any _ _ _ (inB_mk (by omega) (by omega)) (inB_mk (by omega) (by omega))).mono ?_
      rintro e w1 ⟨rfl, hb1⟩
      go_wp2_with fail
      exact ⟨⟨k + 1, by omega, by go_num, hbl.trans (hb1.mono hbl.size)⟩, by simp [intOf]; omega⟩
    · go_wp2_with fail
      go_ret
      exact ⟨rfl, hbl⟩
theorem pcon_any (l : List Rg) (v : Value) (w : World) (hv : OkV l) (hP : PtR w v l) : Calls Tryz.prog 199 #[v, .func (.func 200) #[] #[]] w fun e w' => e = .returned (.bool false) ∧ Below w.heap.size w w' := by
  go_enter Tryz.func199, Tryz.ntmps199
  go_wp2_with fail
  refine (pidx_any l v _ hv hP).mono ?_
  rintro e w1 ⟨rfl, hb⟩
  go_wp2_with fail
  go_ret
  exact ⟨rfl, hb⟩
theorem cright_any (l : List Rg) (v : Value) (w : World) (hv : OkV l) (hP : PtR w v l) : Calls Tryz.prog 195 #[v] w fun e w' => e = .returned (.bool true) ∧ Below w.heap.size w w' := by
  go_enter Tryz.func195, Tryz.ntmps195
  go_wp2_with fail
  refine (pcon_any l v _ hv hP).mono ?_
  rintro e w1 ⟨rfl, hb⟩
  go_wp2_with fail
  go_ret
  exact ⟨rfl, hb⟩
theorem lines_any (o : Option Addr) (n c : Nat) (w : World) : Calls Tryz.prog 196 #[.slice o n c] w fun e w' => e = .returned (.func (.func 202) #[] #[.pointer (some ⟨w.heap.size, 0, none⟩)]) ∧ w' = w.alloc (Obj.cells #[.slice o n c] 76) := by
  go_enter Tryz.func196, Tryz.ntmps196
  go_wp2
  go_ret
  exact ⟨rfl, rfl⟩
def lnE (l : List Rg) (j : Nat) : Value := clV (vX l (j % l.length)) (vY l (j % l.length)) (vX l (j % l.length + 1)) (vY l (j % l.length + 1))
theorem lnE_lt {l : List Rg} {j : Nat} (h : j < l.length) : lnE l j = clV (vX l j) (vY l j) (vX l (j + 1)) (vY l (j + 1)) := by unfold lnE; rw [Nat.mod_eq_of_lt h]
set_option maxHeartbeats 2000000 in
theorem lines_stops (n : Nat) (hn : 1 ≤ n) (b1 : Nat) (l : List Rg) (v : Value) (w : World) (hv : OkV l) (h1 : b1 < w.heap.size) (c1 : w.cell? ⟨b1, 0, none⟩ = some v) (hP : PtR w v l) :
    SeqStopsK Fence.wide n Tryz.prog 202 #[.pointer (some ⟨b1, 0, none⟩)] (fun j : Nat => #[lnE l j]) (Below w.heap.size) (fun xs => xs = List.range l.length) (fun pre => ∃ k : Nat, k < l.length ∧ pre = List.range (k + 1)) l.length w := fun ll J Jx W hW hJ hJx hY h0 => by
  obtain ⟨o, c, rfl, m⟩ := hP.parts
  obtain ⟨b, off, rfl, hb, hc⟩ := hP.cells (by omega)
  obtain ⟨N, hN⟩ : ∃ n, l.length = n := ⟨_, rfl⟩
  have hn1 : 1 ≤ N := by have := hv.n1; omega
  have hn2 : N ≤ 24 := by have := hv.n2; omega
  rw [hN] at hc m c1 hY ⊢
  have c1' := (hW.cell (p := ⟨b1, 0, none⟩) h1).trans c1
  have HC := Lib.hid hc; clear hc hP c1
  have HN := Lib.hid hN; clear hN
  refine callsIn_of_wp Tryz.func202 rfl trivial ?_ rfl
  simp only [Tryz.ntmps202, List.size_toArray, List.length_cons, List.length_nil, Nat.reduceAdd, Nat.reduceSub, Array.replicate_succ, Array.replicate_zero, List.push_toArray, List.append_toArray, List.nil_append, List.cons_append]
  have HY := Lib.hid hY; clear hY
  gi_wp2
  gi_loopw [3] (fun p wr => ∃ k : Nat, k ≤ N ∧ p = .int .i64 ((k : Int) + 1) ∧ Below w.heap.size w wr ∧ J (List.range k) wr) (fun p _ => (N + 1 : Nat) - (intOf p).toNat)
  case atStart => exact ⟨0, Nat.zero_le _, by simp, hW, h0⟩
  case round =>
    obtain ⟨k, hk, rfl, hbr, hJs⟩ := hrel
    have c2r := (hbr.cell (p := ⟨b1, 0, none⟩) h1).trans ((hW.cell (p := ⟨b1, 0, none⟩) h1).symm.trans c1')
    by_cases hlt : k < N
    · have hN2 := HN.out
      have d0 := (hbr.cell (p := ⟨b, off + k * 2, none⟩) hb).trans (HC.out k 0 (by omega) (by omega))
      have d1 := (hbr.cell (p := ⟨b, off + k * 2 + 1, none⟩) hb).trans (HC.out k 1 (by omega) (by omega))
      have e0 := (hbr.cell (p := ⟨b, off + (k + 1) * 2, none⟩) hb).trans (HC.out (k + 1) 0 (by omega) (by omega))
      have e1 := (hbr.cell (p := ⟨b, off + (k + 1) * 2 + 1, none⟩) hb).trans (HC.out (k + 1) 1 (by omega) (by omega))
      simp only [ptF] at d0 d1 e0 e1
      clear hN2
      have t1 : ((k : Int) + 1).toNat = k + 1 := by omega
      have t2 : (((k : Int) + 1) - 1).toNat = k := by omega
      have t3 : IntKind.i64.wrap ((k : Int) + 1 - 1) = k := by rw [IntWalk.i64_in _ (by omega)]; omega
      gi_wp2_with fail
      refine wpIn_head_drew [0, 1, 2, 3, 4, 5, 6, 7, 8, 9, 10] [11, 12] (by first | exact lets_wide _ _ | exact lets_round _ _ _) (by kernel_rfl) (by kernel_rfl) (by kernel_rfl) ?_
      simp only [hPick, List.getElem?_cons_zero, List.getElem?_cons_succ]
      iterate 8 (try (first | go_big_quiet_step (fail) | quiet_step (fail)))
      iterate 8 (try (first | go_big_quiet_step (fail) | quiet_step (fail)))
      iterate 8 (try (first | go_big_quiet_step (fail) | quiet_step (fail)))
      iterate 8 (try (first | go_big_quiet_step (fail) | quiet_step (fail)))
      iterate 8 (try (first | go_big_quiet_step (fail) | quiet_step (fail)))
      refine wpQuiet_nil ?_
      intro q
      try dsimp only
      obtain ⟨fn, tmps, assign, body, hy, hR⟩ := HY.out (List.range k) k (wr.drewN q) (hJ _ _ _ none hJs (grown_drewN _ _) (fun r e => by cases e)) (by rw [List.length_range]; omega)
      rw [lnE_lt (by rw [HN.out]; exact hlt)] at hy
      gi_wp2
      refine hR.mono ?_
      rintro e W3 (⟨rfl, hJ3, hk3⟩ | ⟨rfl, hJx3⟩)
      · gi_wp2
        go_roundw
        case rel => exact ⟨k + 1, by omega, by go_num, hbr.trans (Below.trans (below_drewN (Below.refl _ _) q) hk3), by rw [List.range_succ]; exact hJ3⟩
        case measure => simp [intOf]; omega
      · gi_wp2
        refine bodyPost_ret (results_none rfl _ _ _) rfl ?_
        exact ⟨⟨_, rfl⟩, .inr ⟨_, ⟨k, by omega, List.range_succ.symm⟩, hJx3⟩⟩
    · obtain rfl : k = N := by omega
      gi_wp2
      go_end0
      refine ⟨⟨_, rfl⟩, .inl ⟨_, rfl, hJs⟩⟩
end Go.Proofs.YtnfndiafabhhdaaGreat
/- Walks of curve's Check, at, Exact at the points of a vessel (Wear). -/
namespace Go.Proofs.YtnfndiafabhhdaaGreat
open Go.ChangeShapes Go.WideShapes Go.ChangeAt Go.RowKit Go.Shelf
attribute [local go_sem] Oper.semAt_some
def LnBox (l : List Rg) (j : Nat) (Bx : Nat) (W : World) : Prop :=
  W.cell? ⟨Bx, 0, none⟩ = some (.int .i64 (vX l (j % l.length))) ∧ W.cell? ⟨Bx, 1, none⟩ = some (.int .i64 (vY l (j % l.length))) ∧
  W.cell? ⟨Bx, 2, none⟩ = some (.int .i64 (vX l (j % l.length + 1))) ∧ W.cell? ⟨Bx, 3, none⟩ = some (.int .i64 (vY l (j % l.length + 1)))
def LnAx (l : List Rg) (f : Nat → Nat → Act) (j : Nat) (a' : Act) (W : World) : Prop := ∃ Bx, LnBox l j Bx W ∧ Bx < W.heap.size ∧ a' = f j Bx
theorem lnax_own (l : List Rg) (f : Nat → Nat → Act) (B : Nat) (j : Nat) (a' : Act) : OwnFrom B (fun (_ : Unit) W => LnAx l f j a' W) :=
  Own.from (fun _ _ _ _ ⟨Bx, ⟨h1, h2, h3, h4⟩, h5, h6⟩ hg hr => ⟨Bx, ⟨cell_kept h1 hg hr, cell_kept h2 hg hr, cell_kept h3 hg hr, cell_kept h4 hg hr⟩, Nat.lt_of_lt_of_le h5 hg.size, h6⟩) _
theorem lnbox_new (l : List Rg) (j : Nat) (W : World) : LnBox l j W.heap.size (W.alloc (clO (vX l (j % l.length)) (vY l (j % l.length)) (vX l (j % l.length + 1)) (vY l (j % l.length + 1)))) := by
  have h := Bk.new W 221 [.int .i64 (vX l (j % l.length)), .int .i64 (vY l (j % l.length)), .int .i64 (vX l (j % l.length + 1)), .int .i64 (vY l (j % l.length + 1))]
  exact ⟨h.cell 0, h.cell 1, h.cell 2, h.cell 3⟩
theorem wpIn_lines {g : Operand} {p q : Nat} {assign body : Code} {Q : Exit → Act → World → Prop} {f : Act} {w : World} (b1 : Nat) (l : List Rg) (v : Value) (hv : OkV l)
    (hg : f.eval g = .func (.func 202) #[] #[.pointer (some ⟨b1, 0, none⟩)]) (h1 : b1 < w.heap.size) (c1 : w.cell? ⟨b1, 0, none⟩ = some v) (hP : PtR w v l)
    (I : List Nat → World → Prop) (Ix : Code → List Nat → World → Prop) (hI : OwnFrom w.heap.size I) (hIx : ∀ c, OwnFrom w.heap.size (Ix c)) (h0 : I [] w) (hIs : ∀ pre W, I pre W → w.heap.size ≤ W.heap.size)
    (hassign : ∀ (ll : Nat) (j : Nat) (W : World) (K : Act → World → Prop), K { tmps := (f.tmps.setIfInBounds p (lnE l j)).setIfInBounds q (.pointer (some ⟨W.heap.size, 0, none⟩)), defers := [] } (W.alloc (clO (vX l (j % l.length)) (vY l (j % l.length)) (vX l (j % l.length + 1)) (vY l (j % l.length + 1)))) →
      assign.wpIn (Fence.wide.inRound ll) 3 Tryz.prog (Exit.then K (fun _ _ _ => False)) { tmps := f.tmps.setIfInBounds p (lnE l j), defers := [] } W)
    (hbody : ∀ (ll : Nat) (pre : List Nat) (j Bx : Nat) (W : World), I pre W → LnBox l j Bx W → Bx < W.heap.size → pre.length < l.length → w.heap.size ≤ W.heap.size → body.wpIn (Fence.wide.inRound ll) 3 Tryz.prog (ownPostG w.heap.size (Below w.heap.size) I Ix (pre ++ [j]) W) { tmps := (f.tmps.setIfInBounds p (lnE l j)).setIfInBounds q (.pointer (some ⟨Bx, 0, none⟩)), defers := [] } W)
    (hdone : ∀ (D : Nat) (W : World), w.heap.size ≤ D → I (List.range l.length) W → W.heap[D]? = some (.deferred (some [])) → Q .normal { f with defers := { target := .collected D, args := #[] } :: f.defers } W)
    (hstop : ∀ (D : Nat) (c : Code) (k : Nat) (W : World), w.heap.size ≤ D → k < l.length → Ix c (List.range (k + 1)) W → W.heap[D]? = some (.deferred (some [])) → c.wpIn Fence.wide 5 Tryz.prog Q { f with defers := { target := .collected D, args := #[] } :: f.defers } W) :
    (Code.rangeFunc g #[p] assign body).wpIn Fence.wide 5 Tryz.prog Q f w := by
  refine wpIn_rangeFunc_ownH (F := Fence.wide) (n := 5) rfl (by decide) (gf := 202) hg trivial (enters_of Tryz.func202 (by kernel_rfl) rfl)
    (lines_stops 4 (by decide) b1 l v w hv h1 c1 hP) (fun h k => Below.trans h k) (fun W l o o' hl ho hc hw => belowK_b (Nat.le_refl _) W l o o' hl ho hc hw) (Below.refl _ _) (fun _ => rfl) I Ix hI hIx h0
    (LnAx l (fun j Bx => { tmps := (f.tmps.setIfInBounds p (lnE l j)).setIfInBounds q (.pointer (some ⟨Bx, 0, none⟩)), defers := [] })) (fun _ _ => lnax_own _ _ _ _ _) ?_ ?_ ?_ ?_
  · intro ll pre x W K hi hK
    have hx := hassign ll x W K (hK _ _ ((KeepsOthers.alloc _ _).from _) ((Below.refl _ _).alloc (hIs _ _ hi) _) (hI.alloc _ hi) ⟨W.heap.size, lnbox_new l x W, by simp, rfl⟩)
    simpa using hx
  · rintro ll pre x a' W hl ⟨r, hr⟩ hi ⟨Bx, hB1, hB2, rfl⟩ hlen
    exact hbody ll pre x Bx W hi hB1 hB2 hlen (by have := (Array.getElem?_eq_some_iff.1 hr).1; omega)
  · rintro D xs W hD rfl hi hK
    exact hdone D W hD hi hK
  · rintro D c pre W hD ⟨k, hk, rfl⟩ hi hK
    exact hstop D c k W hD hk hi hK
theorem mod_lt_len {l : List Rg} (hv : OkV l) (j : Nat) : j % l.length < l.length := Nat.mod_lt _ (by have := hv.n1; omega)
set_option maxHeartbeats 2000000 in
theorem cCheck_any (l : List Rg) (v : Value) (w : World) (hv : OkV l) (hP : PtR w v l) : Calls Tryz.prog 184 #[v] w fun e w' => e = .returned (.int .i64 0) ∧ Below w.heap.size w w' := by
  obtain ⟨o, c, rfl, m⟩ := hP.parts
  have n1 := hv.n1
  have n2 := hv.n2
  have hN2 : ¬ ((l.length : Int) + 1 < 2) := by omega
  have hN3 : ¬ (64 < (l.length : Int) + 1) := by omega
  refine (callsIn_wide (n := 5)).1 ?_
  refine callsIn_of_wp_marks Tryz.func184 rfl trivial ?_ rfl
  simp only [Tryz.ntmps184, List.size_toArray, List.length_cons, List.length_nil, Nat.reduceAdd, Nat.reduceSub, Array.replicate_succ, Array.replicate_zero, List.push_toArray, List.append_toArray, List.nil_append, List.cons_append]
  have HP := Lib.hid hP; clear hP
  have HV := Lib.hid hv; clear hv
  gi_wp2_with fail
  refine ⟨trivial, callsIn_wide.2 ((cright_any l _ _ HV.out (HP.out.alloc _)).mono ?_)⟩
  rintro e w1 ⟨rfl, hb1⟩
  gi_wp2_with fail
  refine ⟨trivial, callsIn_wide.2 ((lines_any _ _ _ _).mono ?_)⟩
  rintro e w2 ⟨rfl, rfl⟩
  gi_wp2_with fail
  have hP2 := (((HP.out.alloc (Obj.cells #[.int .i64 0] 33)).below hb1).alloc (Obj.cells #[.slice o (l.length + 1) c] 76))
  refine wpIn_lines (p := 19) (q := 3) w1.heap.size l (.slice o (l.length + 1) c) HV.out (by simp [Act.eval]) (by simp) (by simp [go_sem]) hP2
    (fun _ W => Below (w1.heap.size + 1) (w1.alloc (Obj.cells #[.slice o (l.length + 1) c] 76)) W) (fun _ _ _ => False) (ownFrom_below (by simp) (by simp)) (fun _ _ _ _ _ h _ _ => h) (Below.refl _ _) (fun _ _ h => h.size) ?assign ?body ?done ?stop
  case assign =>
    intro ll j W K hK
    simp only [List.setIfInBounds_toArray, List.set_cons_succ, List.set_cons_zero, lnE] at hK ⊢
    gi_wp2
    exact hK
  case body =>
    rintro ll pre j Bx W hB ⟨k0, k1, k2, k3⟩ hlt _ hsz
    simp only [List.setIfInBounds_toArray, List.set_cons_succ, List.set_cons_zero]
    obtain ⟨x1, y1⟩ := vX_lt HV.out.f (i := j % l.length) (j := j % l.length + 1) (Nat.lt_succ_self _) (mod_lt_len HV.out j)
    generalize lnE l j = LE
    generalize vX l (j % l.length) = X0 at *
    generalize vX l (j % l.length + 1) = X1 at *
    generalize vY l (j % l.length) = Y0 at *
    generalize vY l (j % l.length + 1) = Y1 at *
    gi_wp2_with fail
    exact ⟨KeepsFrom.refl _ _, Below.refl _ _, hB⟩
  case done =>
    rintro D W hD hB hK
    have hz1 := hb1.size
    simp only [World.size_alloc] at hz1
    have hK0 : Bk W w.heap.size 33 [.int .i64 0] := (hB.block w.heap.size (by omega)).trans (((Bk.new w 33 [.int .i64 0]).below hb1).alloc _)
    have c0 := hK0.cell 0
    have f0 := hK0.frozen 0
    simp only [List.getElem?_cons_zero] at c0
    have hBw : Below w.heap.size w W := Below.trans ((bafter hb1).alloc (by omega) _) (hB.mono (by omega))
    gi_wp2_with fail
    have hK' : (W.setCell ⟨w.heap.size, 0, none⟩ (.int .i64 0)).heap[D]? = some (.deferred (some [])) := (KeepsOthers.setCell W ⟨w.heap.size, 0, none⟩ (.int .i64 0)).same D _ hK rfl
    refine ⟨by simp, .inl ⟨_, _, rfl, run_takeDeferred hK', ?_⟩⟩
    simp at hD
    have hcl : ((W.setCell ⟨w.heap.size, 0, none⟩ (.int .i64 0)).putObj D (.deferred none)).cell? ⟨w.heap.size, 0, none⟩ = some (.int .i64 0) :=
      (World.cell?_of_block (World.putObj_heap_other (by show w.heap.size ≠ D; omega))).trans (World.cell?_setCell_same' _ _ _ (by rw [c0]; rfl))
    refine ⟨.int .i64 0, by simp [results, Tryz.results184, go_sem, hcl], rfl, ?_⟩
    exact (hBw.setCell (Nat.le_refl _) _).trans (belowK_b (w := w) (Nat.le_refl _) _ D _ _ (by omega) hK' rfl rfl)
  case stop =>
    rintro D c k W _ _ h _
    exact h.elim
end Go.Proofs.YtnfndiafabhhdaaGreat
/- Walk of Emptying: the points of a vessel (Wear). -/
namespace Go.Proofs.YtnfndiafabhhdaaGreat
open Go.ChangeShapes Go.WideShapes Go.ChangeAt Go.RowKit
theorem ptF_el : ElI 219 2 16 := el_of (z := .agg #[.int .i64 0, .int .i64 0]) (by kernel_rfl) (by decide)
theorem ints_at {w : World} {v : Value} {l : List Int} (h : Ints w v l) {n : Nat} (hn : l.length = n) (h0 : 0 < n) : ∃ b off c, v = .slice (some ⟨b, off, none⟩) n c ∧ n ≤ 9223372036854775807 ∧ b < w.heap.size ∧ ∀ j, j < n → w.cell? ⟨b, off + j, none⟩ = some (.int .i64 (l[j]?.getD 0)) := by
  subst hn
  obtain ⟨b, off, c, h1, h2, h3, h4⟩ := h.pos h0
  exact ⟨b, off, c, h1, h2, h3, h4⟩
set_option maxHeartbeats 2000000 in
theorem drawn_any (l : List Rg) (v : Value) (w : World) (hR : RgR w v l) (hv : OkV l) :
    Calls Tryz.prog 171 #[v, .func (.func 167) #[] #[]] w fun e w' => ∃ pv, e = .returned (.tuple #[pv, .int .i64 0]) ∧ Below w.heap.size w w' ∧ PtR w' pv l := by
  have HV := Lib.hid hv
  have HC := vCheck_any l v w hR
  have hc : chkV l = 0 := by simp [chkV, (okv_iff l).2 hv]
  rw [hc] at HC
  have HR := Lib.hid hR
  have n1 := hv.n1
  have n2 := hv.n2
  clear hR hv hc
  go_enter Tryz.func171, Tryz.ntmps171
  go_wp2_with fail
  refine HC.mono ?_
  rintro e w1 ⟨rfl, hb1⟩
  go_wp2_with fail
  refine (scaled_h l v _ (HR.out.below hb1) ((okv_iff l).2 HV.out)).mono ?_
  rintro e w2 ⟨p1, rfl, hb2, hS1⟩
  obtain ⟨q1, x1, y1, rfl, hk1, hx1, hy1⟩ := hS1
  go_wp2_with fail
  refine (scaled_m l v _ ((HR.out.below hb1).below hb2) ((okv_iff l).2 HV.out)).mono ?_
  rintro e w3 ⟨p2, rfl, hb3, hS2⟩
  obtain ⟨q2, x2, y2, rfl, hk2, hx2, hy2⟩ := hS2
  have hB3 : Below w.heap.size w w3 := bthen hb1 (bthen hb2 hb3)
  have hk1' := hk1.below hb3
  have hy1' := hy1.below hb3
  obtain ⟨n, hn⟩ : ∃ n, l.length = n := ⟨_, rfl⟩
  rw [hn] at n1 n2
  obtain ⟨b1, f1, c1, rfl, m1, hl1, he1⟩ := ints_at (n := n + 1) hy1' (by rw [pfx_len, hn]) (by omega)
  obtain ⟨b2, f2, c2, rfl, m2, hl2, he2⟩ := ints_at (n := n + 1) hy2 (by rw [pfx_len, hn]) (by omega)
  have a1 : ∀ j, j < n + 1 → w3.cell? ⟨b1, f1 + j, none⟩ = some (.int .i64 (vX l j)) := fun j hj => by rw [he1 j hj, pfx_at _ (by rw [hn]; exact hj)]
  have a2 : ∀ j, j < n + 1 → w3.cell? ⟨b2, f2 + j, none⟩ = some (.int .i64 (vY l j)) := fun j hj => by rw [he2 j hj, pfx_at _ (by rw [hn]; exact hj)]
  have A1 := Lib.hid a1
  have A2 := Lib.hid a2
  have HN := Lib.hid hn
  have z1 := hk1'.lt
  have z2 := hk2.lt
  have s1 := hk1'.cell 1
  have s2 := hk2.cell 1
  simp only [List.getElem?_cons_zero, List.getElem?_cons_succ] at s1 s2
  clear a1 a2 he1 he2 hn hk1 hk2 hk1' hx1 hx2 hy1 hy1' hy2
  go_wp2_with fail
  go_loopw [9, 27] (fun p i wr => ∃ (k : Nat), k ≤ n + 1 ∧ i = .int .i64 (k : Int) ∧ OwnR wr w3.heap.size 219 2 p k (ptF l) ∧ Below w3.heap.size w3 wr) (fun _ i _ => (n + 1) - (intOf i).toNat)
  case atStart => exact ⟨0, Nat.zero_le _, rfl, OwnR.nil _ _ _ _ _, Below.refl _ _⟩
  case round =>
    obtain ⟨k, hk, rfl, hO, hbl⟩ := hrel
    have hsz := hbl.size
    by_cases h0 : k < n + 1
    · have d1 := (hbl.cell (p := ⟨b1, f1 + k, none⟩) hl1).trans (A1.out k h0)
      have d2 := (hbl.cell (p := ⟨b2, f2 + k, none⟩) hl2).trans (A2.out k h0)
      have e2 := (hbl.cell (p := ⟨q2, 1, none⟩) z2).trans s2
      have t1 := cellsL (ptF l) 2 k
      obtain ⟨X, hX⟩ : ∃ x, vX l k = x := ⟨_, rfl⟩
      obtain ⟨Y, hY⟩ : ∃ x, vY l k = x := ⟨_, rfl⟩
      rw [hX] at d1
      rw [hY] at d2
      have HX := Lib.hid hX; clear hX
      have HY := Lib.hid hY; clear hY
      have HO := Lib.hid hO; clear hO
      go_wp2_with (with_reducible refine list_own Tryz.underlying76 ptF_el (by decide) (by decide) rfl (.tmp 32) (.tmp 42) rfl w3.heap.size _ k (cellsL (ptF l) 2 k) rfl (HO.out.below (ballo _ _)) ⟨wr.heap.size, 0, none⟩ _ [.int .i64 X, .int .i64 Y] rfl rfl (news_bk (Bk.new _ _ [_, _])) ?_ ?_ ?_ ?_)
      · intro u hu; simp at hu; rcases hu with rfl | rfl <;> rfl
      · omega
      · simp; omega
      intro g1 t2 q3 hO1 hP1 hG1 _
      go_wp2_with fail
      refine ⟨⟨k + 1, by omega, by go_num, ?_, Below.trans (hbl.alloc hsz _) hP1⟩, by simp [intOf]; omega⟩
      have e : cellsL (ptF l) 2 (k + 1) = cellsL (ptF l) 2 k ++ [.int .i64 X, .int .i64 Y] := by
        rw [cellsL]; simp [ptF, List.range_succ, HX.out, HY.out]
      unfold OwnR
      rw [e]
      exact hO1
    · obtain rfl : k = n + 1 := by omega
      have hPt := hO.row
      rw [← HN.out] at hPt
      go_wp2_with fail
      refine (cCheck_any l _ _ HV.out hPt).mono ?_
      rintro e w4 ⟨rfl, hb4⟩
      go_wp2_with fail
      go_ret2
      refine ⟨_, rfl, ?_, hPt.below hb4⟩
      exact hB3.trans ((hbl.trans (hb4.mono hbl.size)).mono hB3.size)
theorem Emptying_any (l : List Rg) (v : Value) (w : World) (hR : RgR w v l) (hv : OkV l) :
    Calls Tryz.prog 125 #[v] w fun e w' => ∃ pv, e = .returned (.tuple #[pv, .int .i64 0]) ∧ Below w.heap.size w w' ∧ PtR w' pv l := by
  go_enter Tryz.func125, Tryz.ntmps125
  go_wp2_with fail
  refine (drawn_any l v _ hR hv).mono ?_
  rintro e w1 ⟨pv, rfl, hb1, hP⟩
  obtain ⟨o, c, rfl, _⟩ := hP.parts
  go_wp2_with fail
  go_ret2
  exact ⟨_, rfl, hb1, hP⟩
end Go.Proofs.YtnfndiafabhhdaaGreat
/- Walks of curve's at, Exact at the points of a vessel (Wear). -/
namespace Go.Proofs.YtnfndiafabhhdaaGreat
open Go.ChangeShapes Go.WideShapes Go.ChangeAt Go.RowKit Go.Shelf
attribute [local go_sem] Oper.semAt_some
abbrev lnC (l : List Rg) (k : Nat) : List Value := [.int .i64 (vX l k), .int .i64 (vY l k), .int .i64 (vX l (k + 1)), .int .i64 (vY l (k + 1))]
def AtPost (l : List Rg) (x : Int) (w : World) (e : Ending) (w' : World) : Prop := ∃ k, k < l.length ∧ vX l k ≤ x ∧ x ≤ vX l (k + 1) ∧ e = .returned (clV (vX l k) (vY l k) (vX l (k + 1)) (vY l (k + 1))) ∧ Below w.heap.size w w'
def AtEnd (l : List Rg) (x : Int) (b : Nat) (pre : List Nat) (W : World) : Prop := ∃ j, pre.getLast? = some j ∧ vX l (j % l.length) ≤ x ∧ x ≤ vX l (j % l.length + 1) ∧ Bk W b 221 (lnC l (j % l.length))
theorem bk_own {β : Type} (B b : Nat) (T : TypeId) (f : β → List Value) : OwnFrom B (fun s W => Bk W b T (f s)) :=
  Own.from (fun s W _ _ (hs : W.heap[b]? = some (.cells (f s).toArray T (0, 0))) hg hr => (grownBy_keeps_cells hg hr hs rfl).trans hs) _
theorem bk_own1 (B b : Nat) (T : TypeId) {A : List Value} {W W' : World} {row : Option Nat} (h : Bk W b T A) (hg : W.grownBy W' row) (hr : ∀ r, row = some r → B ≤ r ∧ ∃ o : Obj, W.heap[r]? = some o ∧ o.isCells = false) : Bk W' b T A :=
  bk_own B b T (fun (_ : Unit) => A) () W W' row h hg hr
theorem atEnd_own (B : Nat) (l : List Rg) (x : Int) (b : Nat) : OwnFrom B (fun pre W => AtEnd l x b pre W) := fun _ _ _ _ ⟨j, h1, h2, h3, h4⟩ hg hr => ⟨j, h1, h2, h3, bk_own1 B b _ h4 hg hr⟩
theorem some_line {l : List Rg} (hv : OkV l) {x : Int} (x0 : 0 ≤ x) (xn : x ≤ vX l l.length) : ∃ k, k < l.length ∧ vX l k ≤ x ∧ x ≤ vX l (k + 1) := by
  obtain ⟨_, r1, r2, r3⟩ := ringF_in (l := l) (x := x) l.length 0 x0 (by rw [Nat.zero_add]; exact xn) (by have := hv.n1; omega)
  rw [Nat.zero_add] at r1
  exact ⟨_, r1, r2, r3⟩
set_option maxHeartbeats 2000000 in
theorem at_any (l : List Rg) (v : Value) (x : Int) (w : World) (hv : OkV l) (hP : PtR w v l) (x0 : 0 ≤ x) (xn : x ≤ vX l l.length) : Calls Tryz.prog 186 #[v, .int .i64 x] w fun e w' => AtPost l x w e w' := by
  obtain ⟨o, c, rfl, m⟩ := hP.parts
  have HS := Lib.hid (some_line hv x0 xn)
  refine (callsIn_wide (n := 5)).1 ?_
  refine callsIn_of_wp_marks Tryz.func186 rfl trivial ?_ rfl
  simp only [Tryz.ntmps186, List.size_toArray, List.length_cons, List.length_nil, Nat.reduceAdd, Nat.reduceSub, Array.replicate_succ, Array.replicate_zero, List.push_toArray, List.append_toArray, List.nil_append, List.cons_append]
  have HP := Lib.hid hP; clear hP
  have HV := Lib.hid hv; clear hv
  gi_wp2_with fail
  refine ⟨trivial, callsIn_wide.2 ((lines_any _ _ _ _).mono ?_)⟩
  rintro e w2 ⟨rfl, rfl⟩
  gi_wp2_with fail
  have hP2 := ((HP.out.alloc (Obj.cells #[.int .i64 x] 3)).alloc (clO 0 0 0 0)).alloc (Obj.cells #[.slice o (l.length + 1) c] 76)
  have hKx := ((Bk.new w 3 [.int .i64 x]).alloc (clO 0 0 0 0)).alloc (Obj.cells #[.slice o (l.length + 1) c] 76)
  have hKr := (Bk.new1 w (Obj.cells #[.int .i64 x] 3) 221 [.int .i64 0, .int .i64 0, .int .i64 0, .int .i64 0]).alloc (Obj.cells #[.slice o (l.length + 1) c] 76)
  have hBw : Below w.heap.size w (((w.alloc (Obj.cells #[.int .i64 x] 3)).alloc (clO 0 0 0 0)).alloc (Obj.cells #[.slice o (l.length + 1) c] 76)) := belw
  refine wpIn_lines (p := 8) (q := 5) (w.heap.size + 1 + 1) l (.slice o (l.length + 1) c) HV.out (by simp [Act.eval]) (by simp) (by simp [go_sem]) hP2
    (fun pre W => (Bk W w.heap.size 3 [.int .i64 x] ∧ Bk W (w.heap.size + 1) 221 [.int .i64 0, .int .i64 0, .int .i64 0, .int .i64 0]) ∧ Below w.heap.size w W ∧ w.heap.size + 1 + 1 + 1 ≤ W.heap.size ∧ ∀ j ∈ pre, inB x (vX l (j % l.length)) (vX l (j % l.length + 1)) = false)
    (fun cd pre W => cd = .ret ∧ AtEnd l x (w.heap.size + 1) pre W ∧ Below w.heap.size w W)
    (fun s W W' row h hg hr => ⟨⟨bk_own1 _ _ _ h.1.1 hg hr, bk_own1 _ _ _ h.1.2 hg hr⟩, ownFrom_below (Nat.le_refl _) (by simp; omega) s W W' row h.2.1 hg hr, Nat.le_trans h.2.2.1 hg.size, h.2.2.2⟩)
    (fun cd s W W' row h hg hr => ⟨h.1, atEnd_own _ l x _ s W W' row h.2.1 hg hr, ownFrom_below (Nat.le_refl _) (by simp; omega) s W W' row h.2.2 hg hr⟩)
    ⟨⟨hKx, hKr⟩, hBw, by simp, fun j hj => by cases hj⟩ (fun _ W h => by have := h.2.2.1; simp; omega) ?assign ?body ?done ?stop
  case assign =>
    intro ll j W K hK
    simp only [List.setIfInBounds_toArray, List.set_cons_succ, List.set_cons_zero, lnE] at hK ⊢
    gi_wp2
    exact hK
  case body =>
    rintro ll pre j Bx W ⟨⟨hX, hR⟩, hB, hs, hall⟩ ⟨k0, k1, k2, k3⟩ hlt _ hsz
    simp only [List.setIfInBounds_toArray, List.set_cons_succ, List.set_cons_zero]
    have hX0 := hX.cell 0
    have r0 := hR.cell 0
    have r1 := hR.cell 1
    have r2 := hR.cell 2
    have r3 := hR.cell 3
    have f0 := hR.frozen 0
    have f1 := hR.frozen 1
    have f2 := hR.frozen 2
    have f3 := hR.frozen 3
    simp only [List.getElem?_cons_zero, List.getElem?_cons_succ] at hX0 r0 r1 r2 r3
    have HX := Lib.hid hX; have HR := Lib.hid hR
    have hRl := hR.lt
    have hXl := hX.lt
    clear hX hR
    rcases hin : inB x (vX l (j % l.length)) (vX l (j % l.length + 1)) with _ | _
    · have HIN := Lib.hid hin; clear hin
      gi_wp2_with fail
      refine ⟨trivial, CallsIn.inRound ll (callsIn_wide.2 ((has_any _ _ _ _ _ _).mono ?_))⟩
      rintro e wm ⟨rfl, hbm⟩
      rw [HIN.out]
      gi_wp2_with fail
      exact ⟨(others_of_below hbm).from _, hbm.mono hsz, ⟨⟨HX.out.below hbm, HR.out.below hbm⟩, hB.trans (hbm.mono hB.size), Nat.le_trans hs hbm.size, fun i hi => by
        rcases List.mem_append.1 hi with h | h
        · exact hall i h
        · obtain rfl : i = j := by simpa using h
          exact HIN.out⟩⟩
    · have HIN := Lib.hid hin; clear hin
      gi_wp2_with fail
      refine ⟨trivial, CallsIn.inRound ll (callsIn_wide.2 ((has_any _ _ _ _ _ _).mono ?_))⟩
      rintro e wm ⟨rfl, hbm⟩
      rw [HIN.out]
      obtain ⟨hcm, hfm⟩ := bcell hbm
      gi_wp2_with fail
      refine ⟨?_, rfl, ?_, ?_⟩
      · exact ((((others_of_below hbm).trans (KeepsOthers.setCell _ _ _)).trans (KeepsOthers.setCell _ _ _)).trans (KeepsOthers.setCell _ _ _)).trans (KeepsOthers.setCell _ _ _) |>.from _
      · exact ⟨j, by simp, (inB_t HIN.out).1, (inB_t HIN.out).2, ((((HR.out.below hbm).set 0 _).set 1 _).set 2 _).set 3 _⟩
      · exact ((((hB.trans (hbm.mono hB.size)).setCell (Nat.le_succ _) _).setCell (Nat.le_succ _) _).setCell (Nat.le_succ _) _).setCell (Nat.le_succ _) _
  case done =>
    rintro D W hD ⟨_, _, _, hall⟩ hK
    obtain ⟨k, h1, h2, h3⟩ := HS.out
    have := hall k (List.mem_range.2 h1)
    rw [Nat.mod_eq_of_lt h1, inB_mk h2 h3] at this
    cases this
  case stop =>
    rintro D cd k W hD hk ⟨rfl, ⟨j, hj, h1, h2, hE⟩, hB⟩ hK
    have hjk : j = k := by rw [List.range_succ, List.getLast?_concat] at hj; exact (Option.some.inj hj).symm
    subst hjk
    rw [Nat.mod_eq_of_lt hk] at h1 h2 hE
    gi_wp2_with fail
    refine ⟨by simp, .inl ⟨_, _, rfl, run_takeDeferred hK, ?_⟩⟩
    simp at hD
    have hE2 : Bk (W.putObj D (.deferred none)) (w.heap.size + 1) 221 (lnC l j) := (World.putObj_heap_other (by show w.heap.size + 1 ≠ D; omega)).trans hE
    refine ⟨clV (vX l j) (vY l j) (vX l (j + 1)) (vY l (j + 1)), results_cell_row rfl _ _ (w.heap.size + 1) _ _ (0, 0) _ rfl hE2 Tryz.underlying221 rfl (by kernel_rfl), ⟨j, hk, h1, h2, rfl, ?_⟩⟩
    exact hB.trans (belowK_b (w := w) (Nat.le_refl _) _ D _ _ (by omega) hK rfl rfl)
end Go.Proofs.YtnfndiafabhhdaaGreat
/- Walk of curve's Exact at the points of a vessel (Wear). -/
namespace Go.Proofs.YtnfndiafabhhdaaGreat
open Go.ChangeShapes Go.WideShapes Go.ChangeAt Go.RowKit Go.Shelf
theorem cwithin_any (l : List Rg) (v : Value) (x : Int) (w : World) (hv : OkV l) (hP : PtR w v l) (x0 : 0 ≤ x) (xn : x ≤ vX l l.length) : Calls Tryz.prog 185 #[v, .int .i64 x] w fun e w' => e = .returned (.bool true) ∧ Below w.heap.size w w' := by
  obtain ⟨o, c, rfl, m⟩ := hP.parts
  obtain ⟨b, off, rfl, hb, hc⟩ := hP.cells (by omega)
  have n2 := hv.n2
  have d0 := hc 0 0 (by omega) (by omega)
  have d1 := hc l.length 0 (by omega) (by omega)
  simp only [ptF, Nat.zero_mul, Nat.add_zero, vX] at d0 d1
  obtain ⟨N, hN⟩ : ∃ n, l.length = n := ⟨_, rfl⟩
  rw [hN] at m d1 xn n2 ⊢
  obtain ⟨X, hX⟩ : ∃ X, vX l N = X := ⟨_, rfl⟩
  rw [hX] at d1 xn
  clear hc hP hX hN
  have t1 : ((N : Int) + 1 - 1).toNat = N := by omega
  go_enter Tryz.func185, Tryz.ntmps185
  go_wp2_with fail
  go_ret
  exact ⟨by simp, Below.refl _ _⟩
theorem asked_any (l : List Rg) (v : Value) (x : Int) (w : World) (hv : OkV l) (hP : PtR w v l) (x0 : 0 ≤ x) (xn : x ≤ vX l l.length) :
    Calls Tryz.prog 172 #[v, .int .i64 x] w fun e w' => ∃ k, k < l.length ∧ vX l k ≤ x ∧ x ≤ vX l (k + 1) ∧ e = .returned (.tuple #[clV (vX l k) (vY l k) (vX l (k + 1)) (vY l (k + 1)), .int .i64 0]) ∧ Below w.heap.size w w' := by
  have HP := Lib.hid hP
  have HV := Lib.hid hv
  clear hP hv
  have hR0 := Bk.new w 221 [.int .i64 0, .int .i64 0, .int .i64 0, .int .i64 0]
  go_enter Tryz.func172, Tryz.ntmps172
  go_wp2_with fail
  refine (cCheck_any l v _ HV.out (HP.out.alloc _)).mono ?_
  rintro e w1 ⟨rfl, hb1⟩
  go_wp2_with fail
  refine (cwithin_any l v x _ HV.out ((HP.out.alloc _).below hb1) x0 xn).mono ?_
  rintro e w2 ⟨rfl, hb2⟩
  go_wp2_with fail
  refine (at_any l v x _ HV.out (((HP.out.alloc _).below hb1).below hb2) x0 xn).mono ?_
  rintro e w3 ⟨k, k1, k2, k3, rfl, hb3⟩
  have hR := ((hR0.below hb1).below hb2).below hb3
  have c0 := hR.cell 0
  have c1 := hR.cell 1
  have c2 := hR.cell 2
  have c3 := hR.cell 3
  have f0 := hR.frozen 0
  have f1 := hR.frozen 1
  have f2 := hR.frozen 2
  have f3 := hR.frozen 3
  simp only [List.getElem?_cons_zero, List.getElem?_cons_succ] at c0 c1 c2 c3
  have K1 := Lib.hid k1; have K2 := Lib.hid k2; have K3 := Lib.hid k3
  clear k1 k2 k3
  have hB : Below w.heap.size w w3 := bthen (bafter hb1) (bthen hb2 hb3)
  go_wp2_with fail
  have hRf := (((hR.set 0 (.int .i64 (vX l k))).set 1 (.int .i64 (vY l k))).set 2 (.int .i64 (vX l (k + 1)))).set 3 (.int .i64 (vY l (k + 1)))
  have e0 := hRf.cell 0
  have e1 := hRf.cell 1
  have e2 := hRf.cell 2
  have e3 := hRf.cell 3
  simp only [List.set_cons_zero, List.set_cons_succ, List.getElem?_cons_zero, List.getElem?_cons_succ] at e0 e1 e2 e3
  refine bodyPost_ret (v := .tuple #[clV (vX l k) (vY l k) (vX l (k + 1)) (vY l (k + 1)), .int .i64 0]) ?_ rfl ⟨k, K1.out, K2.out, K3.out, rfl, ?_⟩
  · simp [results, Tryz.results172, go_sem, e0, e1, e2, e3]
  · exact (((hB.setCell (Nat.le_refl _) _).setCell (Nat.le_refl _) _).setCell (Nat.le_refl _) _).setCell (Nat.le_refl _) _
set_option maxHeartbeats 1000000 in
theorem Exact_any (l : List Rg) (v : Value) (x : Int) (w : World) (hv : OkV l) (hP : PtR w v l) (x0 : 0 ≤ x) (xn : x ≤ vX l l.length) :
    Calls Tryz.prog 127 #[v, .int .i64 x] w fun e w' => e = .returned (.tuple #[.agg #[.int .i64 (tmN l x), .int .i64 (tmD l x)], .int .i64 0]) ∧ Below w.heap.size w w' := by
  have HP := Lib.hid hP
  have HV := Lib.hid hv
  clear hP hv
  have hR0 := Bk.new w 41 [.int .i64 0, .int .i64 0]
  obtain ⟨tn, htn⟩ : ∃ n, tmN l x = n := ⟨_, rfl⟩
  obtain ⟨td, htd⟩ : ∃ n, tmD l x = n := ⟨_, rfl⟩
  rw [htn, htd]
  have HTN := Lib.hid htn
  have HTD := Lib.hid htd
  clear htn htd
  go_enter Tryz.func127, Tryz.ntmps127
  go_wp2_with fail
  refine (asked_any l v x _ HV.out (HP.out.alloc _) x0 xn).mono ?_
  rintro e w1 ⟨k, k1, k2, k3, rfl, hb1⟩
  obtain ⟨t1, t2⟩ := tm_at ((okv_iff l).2 HV.out) k1 k2 k3
  obtain ⟨b, _, d⟩ := okRg_bd (okFrom_at HV.out.f k k1)
  obtain ⟨⟨p1, p2⟩, p3, p4⟩ := pt_bd HV.out (k := k) (by omega)
  obtain ⟨⟨q1, q2⟩, q3, q4⟩ := pt_bd HV.out (k := k + 1) (by omega)
  have hx : vX l (k + 1) = vX l k + (rg l k).h := rfl
  have hy : vY l (k + 1) = vY l k + (rg l k).d := rfl
  have nn := tN0_nn HV.out.f k1 k2 k3
  unfold tN0 at t1 t2 nn
  have ex : (rg l k).h = vX l (k + 1) - vX l k := by omega
  have ey : (rg l k).d = vY l (k + 1) - vY l k := by omega
  rw [ex] at t1 t2 nn b
  rw [ey] at t1 t2 nn d
  have m1 := mul_bd (a := x - vX l k) (b := vY l (k + 1) - vY l k) (A := 1000) (B := 20000) (by omega) (by omega) (by omega) (by omega)
  have m2 := mul_bd (a := vY l k) (b := vX l (k + 1) - vX l k) (A := 480000) (B := 1000) (by omega) (by omega) (by omega) (by omega)
  have hE := fun w => lexact_any (vX l k) (vY l k) (vX l (k + 1)) (vY l (k + 1)) x w (by omega) (by omega) (by omega) (by omega) (by omega) (by omega) (by omega) (by omega) (by omega) (by omega)
  rw [t1, t2, HTN.out, HTD.out] at hE
  have HE := Lib.hid hE
  clear hE t1 t2 nn m1 m2 ex ey hx hy b d
  generalize vX l k = ax at *
  generalize vY l k = ay at *
  generalize vX l (k + 1) = bx at *
  generalize vY l (k + 1) = by_ at *
  have hR := hR0.below hb1
  have hR' := hR.alloc (clO ax ay bx by_)
  have HR := Lib.hid hR'
  go_wp2_with fail
  refine (HE.out _).mono ?_
  rintro e w2 ⟨rfl, hb2⟩
  have hR2 := HR.out.below hb2
  have c0 := hR2.cell 0
  have c1 := hR2.cell 1
  have f0 := hR2.frozen 0
  have f1 := hR2.frozen 1
  simp only [List.getElem?_cons_zero, List.getElem?_cons_succ] at c0 c1
  have hB : Below w.heap.size w w2 := bthen (bafter hb1) (bafter hb2)
  go_wp2_with fail
  have hRf := (hR2.set 0 (.int .i64 tn)).set 1 (.int .i64 td)
  have e0 := hRf.cell 0
  have e1 := hRf.cell 1
  simp only [List.set_cons_zero, List.set_cons_succ, List.getElem?_cons_zero, List.getElem?_cons_succ] at e0 e1
  refine bodyPost_ret (v := .tuple #[.agg #[.int .i64 tn, .int .i64 td], .int .i64 0]) ?_ rfl ⟨rfl, ?_⟩
  · simp [results, Tryz.results127, go_sem, e0, e1]
  · exact (hB.setCell (Nat.le_refl _) _).setCell (Nat.le_refl _) _
end Go.Proofs.YtnfndiafabhhdaaGreat
