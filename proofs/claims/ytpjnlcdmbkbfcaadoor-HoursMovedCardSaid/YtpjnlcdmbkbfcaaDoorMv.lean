/- Two slices of the call's own, appended to in turn; the season whose lights are some minutes later. -/
import Derived.Test.YtpjnlcdmbkbfcaaDoorGd
import Derived.Test.YtpjnlcdmbkbfcaaDoorApp
import Derived.Deep.AppendLies
namespace Go.Proofs.YtpjnlcdmbkbfcaaDoor
open Go.ChangeShapes Go.WideShapes Go.ChangeAt Go.RowKit Go.BigFrame

/-- Two slices of ints, both of the call's own, in blocks apart. -/
def Two (w : World) (base : Nat) (v1 : Value) (l1 : List Int) (v2 : Value) (l2 : List Int) : Prop :=
  Own w base v1 l1 ∧ Own w base v2 l2 ∧ ∀ g, v1.ownBlock = some g → v2.ownBlock ≠ some g
theorem Two.nil (w : World) (base : Nat) : Two w base (.slice none 0 0) [] (.slice none 0 0) [] := ⟨Own.nil _ _, Own.nil _ _, fun g h => by cases h⟩
theorem Two.swap {w : World} {base : Nat} {v1 v2 : Value} {l1 l2 : List Int} (h : Two w base v1 l1 v2 l2) : Two w base v2 l2 v1 l1 :=
  ⟨h.2.1, h.1, fun g h2 h1 => h.2.2 g h1 h2⟩
theorem Two.below {w w' : World} {base : Nat} {v1 v2 : Value} {l1 l2 : List Int} (h : Two w base v1 l1 v2 l2) (hb : Below w.heap.size w w') : Two w' base v1 l1 v2 l2 :=
  ⟨h.1.below hb, h.2.1.below hb, h.2.2⟩
theorem Own.setCell {w : World} {base : Nat} {v : Value} {l : List Int} (h : Own w base v l) {b j : Nat} (hb : b < base) (x : Value) : Own (w.setCell ⟨b, j, none⟩ x) base v l := by
  refine ⟨h.1, ?_⟩
  rcases h.2 with h1 | ⟨g, cap, cur, rfl, hbg, hg, rest⟩
  · exact .inl h1
  · refine .inr ⟨g, cap, cur, rfl, hbg, ?_, rest⟩
    exact (Below.heap_setCell _ _ _ _ (by show g ≠ b; omega)).trans hg
theorem Two.setCell {w : World} {base : Nat} {v1 v2 : Value} {l1 l2 : List Int} (h : Two w base v1 l1 v2 l2) {b j : Nat} (hb : b < base) (x : Value) : Two (w.setCell ⟨b, j, none⟩ x) base v1 l1 v2 l2 :=
  ⟨h.1.setCell hb x, h.2.1.setCell hb x, h.2.2⟩
theorem step_two {ops : Array Oper} {o : Oper} {a : Act} {w : World} {K : Act → World → Prop} {Q : Exit → Act → World → Prop} {E : Prop} (hgd : o.guard = none) (s x : Operand)
    (ho : o.op = .call { callee := .builtin .append, args := #[s, x], argTypes := #[22, 22] })
    (base : Nat) (v1 : Value) (l1 : List Int) (v2 : Value) (l2 : List Int) (hs : a.eval s = v1) (ht : Two w base v1 l1 v2 l2) (ad : Addr) (c : Nat) (y : Int) (hx : a.eval x = .slice (some ad) 1 c) (hy : w.cell? ad = some (.int .i64 y))
    (N : Nat) (hN : l1.length = N) (hl : N ≤ 100000000) (hbase : base ≤ w.heap.size)
    (h : ∀ (g c' : Nat) w', Two w' base (.slice (some ⟨g, 0, none⟩) (N + 1) c') (l1 ++ [y]) v2 l2 → Below base w w' → K (a.put o.dst (.slice (some ⟨g, 0, none⟩) (N + 1) c')) w') : if Region.wanted o (yielded ops a.tmps) = true then Oper.wp Tryd.prog o a w K Q else E := by
  subst hN
  obtain ⟨i0, hi, hz0, hz1, hz2⟩ := info_parts int_info
  refine step_append_lies w hgd s x 22 ho base 3 i0 (.int .i64 0) 1 8 Tryd.underlying22 hi hz0 hz1 hz2 rfl (by decide) v1 l1.length (l1.map (Value.int .i64)) hs ht.1 ad 1 c [.int .i64 y] hx rfl ?_ ?_ (by decide) (by unfold maxLen; omega) (by omega) hbase w.heap.size rfl ?_
  · intro j u hj
    match j, hj with
    | 0, hj => simp at hj; subst hj; simpa [Addr.add] using hy
  · intro u hu; simp at hu; subst hu; rfl
  · intro g cap w' h1 h2 h3 h4
    refine h g cap w' ⟨?_, ?_, ?_⟩ ?_
    · unfold Own; rw [List.length_append, List.map_append]; exact h1
    · refine World.ownsRow.kept ht.2.1 h2 ?_
      cases e : v2.ownBlock with
      | none => exact .inl rfl
      | some k => exact .inr fun e1 => ht.2.2 k e1.symm e
    · intro g' hg' e
      have hgg : g = g' := Option.some.inj hg'
      subst hgg
      rcases h3 with h3 | h3
      · exact ht.2.2 g h3 e
      · have := (World.ownsRow.lt ht.2.1 g e).2
        omega
    · exact (Below.refl base w).grown h2 hbase (fun k hk => (World.ownsRow.lt ht.1 k hk).1)
theorem step_two_k {ops : Array Oper} {o : Oper} {a : Act} {w : World} {K : Act → World → Prop} {Q : Exit → Act → World → Prop} {E : Prop} (hgd : o.guard = none) (s x : Operand)
    (ho : o.op = .call { callee := .builtin .append, args := #[s, x], argTypes := #[22, 22] })
    (base : Nat) (v1 : Value) (l1 : List Int) (v2 : Value) (l2 : List Int) (hs : a.eval s = v1) (ht : Two w base v1 l1 v2 l2) (ad : Addr) (c : Nat) (y : Int) (hx : a.eval x = .slice (some ad) 1 c) (hy : w.cell? ad = some (.int .i64 y))
    (N : Nat) (hN : l1.length = N) (hl : N ≤ 100000000) (hbase : base ≤ w.heap.size) (b2 : Nat) (u : Value) (hu : w.cell? ⟨b2, 0, none⟩ = some u) (hne : v1.ownBlock ≠ some b2)
    (h : ∀ (g c' : Nat) w', Two w' base (.slice (some ⟨g, 0, none⟩) (N + 1) c') (l1 ++ [y]) v2 l2 → Below base w w' → w'.cell? ⟨b2, 0, none⟩ = some u → K (a.put o.dst (.slice (some ⟨g, 0, none⟩) (N + 1) c')) w') : if Region.wanted o (yielded ops a.tmps) = true then Oper.wp Tryd.prog o a w K Q else E := by
  subst hN
  obtain ⟨i0, hi, hz0, hz1, hz2⟩ := info_parts int_info
  refine step_append_lies w hgd s x 22 ho base 3 i0 (.int .i64 0) 1 8 Tryd.underlying22 hi hz0 hz1 hz2 rfl (by decide) v1 l1.length (l1.map (Value.int .i64)) hs ht.1 ad 1 c [.int .i64 y] hx rfl ?_ ?_ (by decide) (by unfold maxLen; omega) (by omega) hbase w.heap.size rfl ?_
  · intro j u hj
    match j, hj with
    | 0, hj => simp at hj; subst hj; simpa [Addr.add] using hy
  · intro u hu; simp at hu; subst hu; rfl
  · intro g cap w' h1 h2 h3 h4
    refine h g cap w' ⟨?_, ?_, ?_⟩ ?_ (h2.cell hu (fun e => hne e.symm))
    · unfold Own; rw [List.length_append, List.map_append]; exact h1
    · refine World.ownsRow.kept ht.2.1 h2 ?_
      cases e : v2.ownBlock with
      | none => exact .inl rfl
      | some k => exact .inr fun e1 => ht.2.2 k e1.symm e
    · intro g' hg' e
      have hgg : g = g' := Option.some.inj hg'
      subst hgg
      rcases h3 with h3 | h3
      · exact ht.2.2 g h3 e
      · have := (World.ownsRow.lt ht.2.1 g e).2
        omega
    · exact (Below.refl base w).grown h2 hbase (fun k hk => (World.ownsRow.lt ht.1 k hk).1)
/-- The first k elements, each by some more. -/
def mpL (l : List Int) (by_ : Int) : Nat → List Int
  | 0 => []
  | k + 1 => mpL l by_ k ++ [el l k + by_]
theorem mpL_len (l : List Int) (by_ : Int) (k : Nat) : (mpL l by_ k).length = k := by
  induction k with
  | zero => rfl
  | succ k ih => simp [mpL, ih]
theorem mpL_take (l : List Int) (by_ : Int) : ∀ k, k ≤ l.length → mpL l by_ k = (l.take k).map (· + by_)
  | 0, _ => by simp [mpL]
  | k + 1, h => by
    rw [mpL, mpL_take l by_ k (by omega), List.take_succ_eq_append_getElem (by omega), List.map_append]
    simp [el, List.getElem?_eq_getElem (show k < l.length by omega)]
theorem mpL_all (l : List Int) (by_ : Int) : mpL l by_ l.length = l.map (· + by_) := by
  rw [mpL_take l by_ _ (Nat.le_refl _), List.take_length]
theorem sea_mvd {w : World} {base : Nat} {S : Sea} {vd v1 v2 : Value} {by_ : Int} (hv : vld S = true) (hd : Ints w vd S.d) (h : Two w base v1 (mpL S.r by_ S.d.length) v2 (mpL S.s by_ S.d.length)) : SeaIn w vd v1 v2 (mvd S by_) := by
  have v := (vld_iff S).1 hv
  refine ⟨hd, ?_, ?_⟩
  · have := h.1.ints
    rw [← v.nr, mpL_all] at this
    exact this
  · have := h.2.1.ints
    rw [← v.ns, mpL_all] at this
    exact this
theorem Box.put23 {w : World} {b : Nat} {x y z u : Value} (h : Box w b [x, y, z, u]) (z' u' : Value) : Box ((w.setCell ⟨b, 2, none⟩ z').setCell ⟨b, 3, none⟩ u') b [x, y, z', u'] := by
  have h0 : w.cell? ⟨b, 0, none⟩ = some x := h.c 0 (by simp)
  have h1 : w.cell? ⟨b, 1, none⟩ = some y := h.c 1 (by simp)
  have h2 : w.cell? ⟨b, 2, none⟩ = some z := h.c 2 (by simp)
  have h3 : w.cell? ⟨b, 3, none⟩ = some u := h.c 3 (by simp)
  have a0 : (w.setCell ⟨b, 2, none⟩ z').cell? ⟨b, 0, none⟩ = some x := (World.cell?_setCell_other _ _ _ _ (fun e => by cases e)).trans h0
  have a1 : (w.setCell ⟨b, 2, none⟩ z').cell? ⟨b, 1, none⟩ = some y := (World.cell?_setCell_other _ _ _ _ (fun e => by cases e)).trans h1
  have a2 : (w.setCell ⟨b, 2, none⟩ z').cell? ⟨b, 2, none⟩ = some z' := World.cell?_setCell_same' _ _ _ (by rw [h2]; rfl)
  have a3 : (w.setCell ⟨b, 2, none⟩ z').cell? ⟨b, 3, none⟩ = some u := (World.cell?_setCell_other _ _ _ _ (fun e => by cases e)).trans h3
  refine ⟨by simpa using h.lt, fun j hj => ?_⟩
  obtain rfl | rfl | rfl | rfl : j = 0 ∨ j = 1 ∨ j = 2 ∨ j = 3 := by simp at hj; omega
  · exact (World.cell?_setCell_other _ _ _ _ (fun e => by cases e)).trans a0
  · exact (World.cell?_setCell_other _ _ _ _ (fun e => by cases e)).trans a1
  · exact (World.cell?_setCell_other _ _ _ _ (fun e => by cases e)).trans a2
  · exact World.cell?_setCell_same' _ _ _ (by rw [a3]; rfl)
theorem mv_end {w2 wr q2 : World} {bm : Nat} {L vd v1 v2 v1' v2' : Value} {l1 l2 : List Int} (hB : Below bm w2 wr) (hP : Below (bm + 1) wr q2) (hM : Box wr bm [L, vd, v1, v2]) (hf : ∀ j, wr.frozen? ⟨bm, j, none⟩ = false)
    (hT : Two q2 (bm + 1) v2' l2 v1' l1) : Two ((q2.setCell ⟨bm, 2, none⟩ v1').setCell ⟨bm, 3, none⟩ v2') (bm + 1) v1' l1 v2' l2 ∧ Box ((q2.setCell ⟨bm, 2, none⟩ v1').setCell ⟨bm, 3, none⟩ v2') bm [L, vd, v1', v2'] ∧
      Hid (∀ j, ((q2.setCell ⟨bm, 2, none⟩ v1').setCell ⟨bm, 3, none⟩ v2').frozen? ⟨bm, j, none⟩ = false) ∧ Below bm w2 ((q2.setCell ⟨bm, 2, none⟩ v1').setCell ⟨bm, 3, none⟩ v2') := by
  have hq : Box q2 bm [L, vd, v1, v2] := ⟨Nat.lt_of_lt_of_le hM.lt hP.size, fun j hj => (hP.cell (p := ⟨bm, j, none⟩) (Nat.lt_succ_self _)).trans (hM.c j hj)⟩
  refine ⟨(hT.swap.setCell (Nat.lt_succ_self _) _).setCell (Nat.lt_succ_self _) _, hq.put23 _ _, fun j => ?_, ((hB.trans (hP.mono (Nat.le_succ _))).setCell (Nat.le_refl _) _).setCell (Nat.le_refl _) _⟩
  have := (hP.frozen (p := ⟨bm, j, none⟩) (Nat.lt_succ_self _)).trans (hf j)
  simpa using this
end Go.Proofs.YtpjnlcdmbkbfcaaDoor
