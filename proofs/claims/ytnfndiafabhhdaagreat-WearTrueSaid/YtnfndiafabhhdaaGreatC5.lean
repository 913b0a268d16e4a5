/- Walk of a story's region: what some items leave of g, and their lines (Wear). -/
import Derived.Test.YtnfndiafabhhdaaGreatC1
import Derived.Test.YtnfndiafabhhdaaGreatC4
namespace Go.Proofs.YtnfndiafabhhdaaGreat
open Go.ChangeShapes Go.WideShapes Go.ChangeAt Go.RowKit
theorem line_el : ElI 142 4 32 := el_of (z := .agg #[.int .i64 0, .int .i64 0, .int .i64 0, .bool false]) (by kernel_rfl) (by decide)
structure TwoL (w : World) (base : Nat) (v1 : Value) (L1 : List Ln) (v2 : Value) (L2 : List Ln) : Prop where
  a : OwnR w base 142 4 v1 L1.length (lnF L1)
  b : OwnR w base 142 4 v2 L2.length (lnF L2)
  ne : ∀ g, v1.ownBlock = some g → v2.ownBlock ≠ some g
theorem TwoL.swap {w : World} {base : Nat} {v1 v2 : Value} {L1 L2 : List Ln} (h : TwoL w base v1 L1 v2 L2) : TwoL w base v2 L2 v1 L1 := ⟨h.b, h.a, fun g h2 h1 => h.ne g h1 h2⟩
theorem TwoL.below {w w' : World} {base : Nat} {v1 v2 : Value} {L1 L2 : List Ln} (h : TwoL w base v1 L1 v2 L2) (hb : Below w.heap.size w w') : TwoL w' base v1 L1 v2 L2 := ⟨owns_below h.a hb, owns_below h.b hb, h.ne⟩
theorem TwoL.setCell {w : World} {base : Nat} {v1 v2 : Value} {L1 L2 : List Ln} (h : TwoL w base v1 L1 v2 L2) {b j : Nat} (hb : b < base) (x : Value) : TwoL (w.setCell ⟨b, j, none⟩ x) base v1 L1 v2 L2 := ⟨owns_setCell h.a hb x, owns_setCell h.b hb x, h.ne⟩
theorem owns_bes {w w' : World} {base : Nat} {E : TypeId} {k n : Nat} {v : Value} {xs : List Value} {b : Nat} (h : w.ownsRow base E k v n xs) (hb : Bes b w w') (hlt : b < base) : w'.ownsRow base E k v n xs := by
  refine ⟨h.1, ?_⟩
  rcases h.2 with h1 | ⟨g, cap, cur, rfl, hbg, hg, rest⟩
  · exact .inl h1
  · refine .inr ⟨g, cap, cur, rfl, hbg, ?_, rest⟩
    have : g < w.heap.size := by
      rcases Nat.lt_or_ge g w.heap.size with hlt | hlt
      · exact hlt
      · rw [Array.getElem?_eq_none hlt] at hg; cases hg
    rw [hb.block g this (by omega), hg]
theorem TwoL.bes {w w' : World} {base b : Nat} {v1 v2 : Value} {L1 L2 : List Ln} (h : TwoL w base v1 L1 v2 L2) (hb : Bes b w w') (hlt : b < base) : TwoL w' base v1 L1 v2 L2 := ⟨owns_bes h.a hb hlt, owns_bes h.b hb hlt, h.ne⟩
theorem lnF_app {L : List Ln} {x : Ln} {i j : Nat} (h : i < L.length) : lnF (L ++ [x]) i j = lnF L i j := by
  have e : lnAt (L ++ [x]) i = lnAt L i := by simp [lnAt, List.getElem?_append_left h]
  unfold lnF; rw [e]
theorem cells_app (L : List Ln) (x : Ln) : cellsL (lnF (L ++ [x])) 4 (L ++ [x]).length = cellsL (lnF L) 4 L.length ++ [.int .i64 x.k, .int .i64 x.n, .int .i64 x.d, .bool x.s] := by
  rw [List.length_append, List.length_singleton, cellsL, cellsL_congr (g := lnF L) (fun i j hi _ => lnF_app hi)]
  congr 1
  have e : lnAt (L ++ [x]) L.length = x := by simp [lnAt]
  simp [lnF, e, List.range_succ]
theorem step_line {ops : Array Oper} {o : Oper} {a : Act} {w : World} {K : Act → World → Prop} {Q : Exit → Act → World → Prop} {X : Prop} (hgd : o.guard = none) (s x : Operand)
    (ho : o.op = .call { callee := .builtin .append, args := #[s, x], argTypes := #[98, 98] })
    (base : Nat) (v1 : Value) (L1 : List Ln) (v2 : Value) (L2 : List Ln) (hs : a.eval s = v1) (ht : TwoL w base v1 L1 v2 L2) (ad : Nat) (c : Nat) (l : Ln) (hx : a.eval x = .slice (some ⟨ad, 0, none⟩) 1 c) (hb : Bk w ad 142 [.int .i64 l.k, .int .i64 l.n, .int .i64 l.d, .bool l.s])
    (hn : L1.length ≤ 100000000) (hbase : base ≤ w.heap.size)
    (h : ∀ (g c' : Nat) w', TwoL w' base (.slice (some ⟨g, 0, none⟩) (L1.length + 1) c') (L1 ++ [l]) v2 L2 → Below base w w' → w.grownBy w' v1.ownBlock → K (a.put o.dst (.slice (some ⟨g, 0, none⟩) (L1.length + 1) c')) w') : if Region.wanted o (yielded ops a.tmps) = true then Oper.wp Tryz.prog o a w K Q else X := by
  refine step_own Tryz.underlying98 line_el (by decide) (by decide) hgd s x ho base v1 L1.length _ hs ht.a ⟨ad, 0, none⟩ c [.int .i64 l.k, .int .i64 l.n, .int .i64 l.d, .bool l.s] hx rfl (news_bk hb) ?_ hn hbase ?_
  · intro u hu; simp at hu; rcases hu with rfl | rfl | rfl | rfl <;> rfl
  · intro g c' w' h1 h2 h3 h4
    refine h g c' w' ⟨?_, ?_, ?_⟩ h2 h3
    · unfold OwnR; rw [cells_app, List.length_append]; exact h1
    · refine World.ownsRow.kept ht.b h3 ?_
      cases e : v2.ownBlock with
      | none => exact .inl rfl
      | some k => exact .inr fun e1 => ht.ne k e1.symm e
    · intro g' hg' e
      have hgg : g = g' := Option.some.inj hg'
      subst hgg
      rcases h4 with h4 | h4
      · exact ht.ne g h4 e
      · have := (World.ownsRow.lt ht.b g e).2
        omega
theorem lines_snoc (F : Fl) (I : List Int) (i : Int) : linesL F (I ++ [i]) = linesL F I ++ (if i = -2 then [] else itemL F i) := by
  simp [linesL, List.flatMap_append]
theorem rnW_snoc (F : Fl) (I : List Int) (i : Int) : rnW F (I ++ [i]) = if i = -2 then { rnW F I with lo := mxW (rnW F I).lo ⟨1000, F.whi, false⟩, hi := mnW (rnW F I).hi ⟨1000, F.wlo, false⟩ } else rnW F I := by
  simp [rnW, List.foldl_append]
theorem lines_len (F : Fl) (I : List Int) : (linesL F I).length ≤ 2 + 2 * I.length := by
  have h : ∀ I : List Int, (I.flatMap fun i => if i = -2 then [] else itemL F i).length ≤ 2 * I.length := by
    intro I
    induction I with
    | nil => simp
    | cons i I ih =>
      rw [List.flatMap_cons, List.length_append, List.length_cons]
      have : (if i = -2 then [] else itemL F i).length ≤ 2 := by
        split
        · simp
        · unfold itemL
          split
          · simp
          · split <;> simp
      omega
  have := h I
  simp only [linesL, frameL, List.length_append, List.length_cons, List.length_nil]
  omega
theorem lows_le (L : List (Ln × Bool)) : (lows L).length ≤ L.length := by unfold lows; rw [List.length_map]; exact List.length_filter_le _ _
theorem ups_le (L : List (Ln × Bool)) : (ups L).length ≤ L.length := by unfold ups; rw [List.length_map]; exact List.length_filter_le _ _
theorem mxW_B {r : Rn} {b : Bd} (h : RnB r) (b0 : 0 < b.n) (b1 : b.n ≤ 480000000000) (b2 : 0 < b.d) (b3 : b.d ≤ 2097152000000) : RnB { r with lo := mxW r.lo b } := by
  have e : mxW r.lo b = b ∨ mxW r.lo b = r.lo := by unfold mxW; split <;> simp
  rcases e with e | e
  · exact ⟨by simp only [e]; exact b0, by simp only [e]; exact b1, by simp only [e]; exact b2, by simp only [e]; exact b3, h.c0, h.c1, h.d0, h.d1⟩
  · exact ⟨by simp only [e]; exact h.a0, by simp only [e]; exact h.a1, by simp only [e]; exact h.b0, by simp only [e]; exact h.b1, h.c0, h.c1, h.d0, h.d1⟩
theorem mnW_B {r : Rn} {b : Bd} (h : RnB r) (b0 : 0 < b.n) (b1 : b.n ≤ 480000000000) (b2 : 0 < b.d) (b3 : b.d ≤ 2097152000000) : RnB { r with hi := mnW r.hi b } := by
  have e : mnW r.hi b = b ∨ mnW r.hi b = r.hi := by unfold mnW; split <;> simp
  rcases e with e | e
  · exact ⟨h.a0, h.a1, h.b0, h.b1, by simp only [e]; exact b0, by simp only [e]; exact b1, by simp only [e]; exact b2, by simp only [e]; exact b3⟩
  · exact ⟨h.a0, h.a1, h.b0, h.b1, by simp only [e]; exact h.c0, by simp only [e]; exact h.c1, by simp only [e]; exact h.d0, by simp only [e]; exact h.d1⟩
theorem rnW_B {F : Fl} (h : OkF F) : ∀ (I : List Int) (r : Rn), RnB r → RnB (I.foldl (fun r i => if i = -2 then { r with lo := mxW r.lo ⟨1000, F.whi, false⟩, hi := mnW r.hi ⟨1000, F.wlo, false⟩ } else r) r)
  | [], _, k => k
  | i :: I, r, k => by
    have h1 := h.w1
    have h2 := h.w2
    have h3 := h.w3
    rw [List.foldl_cons]
    split
    · exact rnW_B h I _ (mnW_B (mxW_B k (by simp only; omega) (by simp only; omega) (by simp only; omega) (by simp only; omega)) (by simp only; omega) (by simp only; omega) (by simp only; omega) (by simp only; omega))
    · exact rnW_B h I _ k
theorem rnW_b {F : Fl} (h : OkF F) (I : List Int) : RnB (rnW F I) := rnW_B h I _ ⟨by decide, by decide, by decide, by decide, by decide, by decide, by decide, by decide⟩
theorem take_snoc {I : List Int} {k : Nat} {x : Int} (hk : k < I.length) (hx : I[k]?.getD 0 = x) : I.take (k + 1) = I.take k ++ [x] := by
  rw [List.take_succ_eq_append_getElem hk, ← hx, List.getElem?_eq_getElem hk, Option.getD_some]
end Go.Proofs.YtnfndiafabhhdaaGreat
