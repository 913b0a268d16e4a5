/- A slice of ints that the call itself makes, by append: what it holds; the law of append on it. -/
import Derived.Test.YtpjnlcdmbkbfcaaDoorBase
import Derived.Test.YtpjnlcdmbkbfcaaDoorProg
import Derived.Laws.AppendOwn
import Derived.Laws.Rows
import Derived.OwnWalk
namespace Go.Proofs.YtpjnlcdmbkbfcaaDoor
open Go.ChangeShapes Go.WideShapes Go.ChangeAt Go.RowKit

/-- The slice value 'v' is of the call's own (its block lies from 'base' on), and holds the ints 'l'. -/
def Own (w : World) (base : Nat) (v : Value) (l : List Int) : Prop := w.ownsRow base 3 1 v l.length (l.map (Value.int .i64))
theorem Own.nil (w : World) (base : Nat) : Own w base (.slice none 0 0) [] := World.ownsRow_nil _ _ _ _
theorem Own.below {w w' : World} {base : Nat} {v : Value} {l : List Int} (h : Own w base v l) (hb : Below w.heap.size w w') : Own w' base v l := by
  refine ⟨h.1, ?_⟩
  rcases h.2 with h1 | ⟨g, cap, cur, rfl, hbg, hg, rest⟩
  · exact .inl h1
  · refine .inr ⟨g, cap, cur, rfl, hbg, ?_, rest⟩
    have : g < w.heap.size := by
      rcases Nat.lt_or_ge g w.heap.size with hlt | hlt
      · exact hlt
      · rw [Array.getElem?_eq_none hlt] at hg; cases hg
    rw [hb.block g this, hg]
theorem Own.mono {w : World} {base base' : Nat} {v : Value} {l : List Int} (h : Own w base v l) (hb : base' ≤ base) : Own w base' v l := by
  refine ⟨h.1, ?_⟩
  rcases h.2 with h1 | ⟨g, cap, cur, rfl, hbg, hg, rest⟩
  · exact .inl h1
  · exact .inr ⟨g, cap, cur, rfl, Nat.le_trans hb hbg, hg, rest⟩
theorem Own.parts {w : World} {base : Nat} {v : Value} {l : List Int} (h : Own w base v l) : (l = [] ∧ v = .slice none 0 0) ∨ ∃ g c, v = .slice (some ⟨g, 0, none⟩) l.length c ∧ base ≤ g ∧ g < w.heap.size ∧ l.length ≤ 9223372036854775807 ∧ ∀ j, j < l.length → w.cell? ⟨g, j, none⟩ = some (.int .i64 (l[j]?.getD 0)) := by
  have h0 := h
  rcases h.2 with ⟨h1, h2⟩ | ⟨g, cap, cur, rfl, hbg, hg, hn, hc, _⟩
  · exact .inl ⟨List.eq_nil_of_length_eq_zero h2, h1⟩
  · refine .inr ⟨g, cap, rfl, hbg, ?_, by unfold maxLen at hc; omega, fun j hj => ?_⟩
    · rcases Nat.lt_or_ge g w.heap.size with hlt | hlt
      · exact hlt
      · rw [Array.getElem?_eq_none hlt] at hg; cases hg
    · have := h0.cells (g := g) rfl j (.int .i64 (l[j]?.getD 0)) (by simp [hj])
      have e : (⟨g, 0, none⟩ : Addr).add j = ⟨g, j, none⟩ := by unfold Addr.add; split <;> simp_all
      rw [e] at this
      exact this
theorem Own.ints {w : World} {base : Nat} {v : Value} {l : List Int} (h : Own w base v l) : Ints w v l := by
  rcases h.parts with ⟨rfl, rfl⟩ | ⟨g, c, rfl, hbg, hlt, hm, hc⟩
  · exact .inl ⟨rfl, none, 0, rfl⟩
  · by_cases h0 : 0 < l.length
    · exact .inr ⟨g, 0, c, rfl, h0, hm, hlt, fun j hj => by simpa using hc j hj⟩
    · have : l = [] := List.eq_nil_of_length_eq_zero (by omega)
      subst this
      exact .inl ⟨rfl, _, _, rfl⟩
theorem int_info : (Tryd.prog.info? 3).map (fun i => (i.zero, i.size, i.bytes)) = some (some (.int .i64 0), 1, 8) := by kernel_rfl

theorem wp_append_int {ops : Array Oper} {rest : List Oper} {o : Oper} {a : Act} {w : World} {Q : Exit → Act → World → Prop} (hgd : o.guard = none) (s x : Operand)
    (ho : o.op = .call { callee := .builtin .append, args := #[s, x], argTypes := #[22, 22] })
    (base : Nat) (v : Value) (l : List Int) (hs : a.eval s = v) (hown : Own w base v l) (ad : Addr) (c : Nat) (y : Int) (hx : a.eval x = .slice (some ad) 1 c) (hy : w.cell? ad = some (.int .i64 y))
    (hl : l.length ≤ 100000000) (hbase : base ≤ w.heap.size)
    (h : ∀ v' w', Own w' base v' (l ++ [y]) → Below base w w' → wpList Tryd.prog ops Q rest (a.put o.dst v') w') : wpList Tryd.prog ops Q (o :: rest) a w := by
  obtain ⟨i0, hi, hz0, hz1, hz2⟩ := info_parts int_info
  refine wpList_append_own w hgd s x 22 ho base 3 i0 (.int .i64 0) 1 8 Tryd.underlying22 hi hz0 hz1 hz2 rfl (by decide) v l.length (l.map (Value.int .i64)) hs hown ad 1 c [.int .i64 y] hx rfl ?_ ?_ (by unfold maxLen; omega) (by omega) hbase ?_
  · intro j u hj
    match j, hj with
    | 0, hj => simp at hj; subst hj; simpa [Addr.add] using hy
  · intro u hu; simp at hu; subst hu; rfl
  · intro v' w' h1 h2 h3
    refine h v' w' ?_ ?_
    · unfold Own; rw [List.length_append, List.map_append]; exact h1
    · exact (Below.refl base w).grown h2 hbase (fun k hk => (hown.lt k hk).1)

/-- The same at a step of a region that draws its order. -/
theorem step_append_int {ops : Array Oper} {o : Oper} {a : Act} {w : World} {K : Act → World → Prop} {Q : Exit → Act → World → Prop} {E : Prop} (hgd : o.guard = none) (s x : Operand)
    (ho : o.op = .call { callee := .builtin .append, args := #[s, x], argTypes := #[22, 22] })
    (base : Nat) (v : Value) (l : List Int) (hs : a.eval s = v) (hown : Own w base v l) (ad : Addr) (c : Nat) (y : Int) (hx : a.eval x = .slice (some ad) 1 c) (hy : w.cell? ad = some (.int .i64 y))
    (hl : l.length ≤ 100000000) (hbase : base ≤ w.heap.size)
    (h : ∀ v' w', Own w' base v' (l ++ [y]) → Below base w w' → K (a.put o.dst v') w') : if Region.wanted o (yielded ops a.tmps) = true then Oper.wp Tryd.prog o a w K Q else E := by
  have hw : Region.wanted o (yielded ops a.tmps) = true := by simp [Region.wanted, hgd]
  rw [if_pos hw]
  obtain ⟨i0, hi, hz0, hz1, hz2⟩ := info_parts int_info
  refine wp_append_own w s x 22 ho base 3 i0 (.int .i64 0) 1 8 Tryd.underlying22 hi hz0 hz1 hz2 rfl (by decide) v l.length (l.map (Value.int .i64)) hs hown ad 1 c [.int .i64 y] hx rfl ?_ ?_ (by unfold maxLen; omega) (by omega) hbase ?_
  · intro j u hj
    match j, hj with
    | 0, hj => simp at hj; subst hj; simpa [Addr.add] using hy
  · intro u hu; simp at hu; subst hu; rfl
  · intro v' w' h1 h2 h3
    refine h v' w' ?_ ?_
    · unfold Own; rw [List.length_append, List.map_append]; exact h1
    · exact (Below.refl base w).grown h2 hbase (fun k hk => (hown.lt k hk).1)
end Go.Proofs.YtpjnlcdmbkbfcaaDoor
