/- Appends onto lines that came in (Wear). -/
import Derived.Test.YtnfndiafabhhdaaGreatD2
import Derived.ArgAppend
import Derived.Deep.Upon
namespace Go.Proofs.YtnfndiafabhhdaaGreat
open Go.ChangeShapes Go.WideShapes Go.ChangeAt Go.RowKit
theorem row_list {w : World} {o : Option Addr} {c k n : Nat} {f : Nat → Nat → Value} (h : Row w (.slice o n c) k n f) (hk : 0 < k) : ∀ b, o = some b → ∀ j u, (cellsL f k n)[j]? = some u → w.cell? (b.add j) = some u := by
  rintro b rfl j u hu
  have hj : j < n * k := by
    rw [← cellsL_len f k n]
    exact (List.getElem?_eq_some_iff.1 hu).1
  have hn : 0 < n := by
    rcases Nat.eq_zero_or_pos n with rfl | h1
    · omega
    · exact h1
  obtain ⟨b', off, e, _, hc⟩ := h.cells hn
  cases e
  have hi : j / k < n := Nat.div_lt_of_lt_mul (by rwa [Nat.mul_comm])
  have hm := Nat.mod_lt j hk
  have hd : j / k * k + j % k = j := by rw [Nat.mul_comm]; exact Nat.div_add_mod j k
  have h1 := cellsL_at f hi hm
  rw [hd, hu] at h1
  have h2 := hc (j / k) (j % k) hi hm
  rw [Nat.add_assoc, hd, ← Option.some.inj h1] at h2
  rw [add_off]
  exact h2
theorem list_capped {ops : Array Oper} {rest : List Oper} {o : Oper} {a : Act} {w : World} {Q : Exit → Act → World → Prop} (hgd : o.guard = none) (s x : Operand)
    (ho : o.op = .call { callee := .builtin .append, args := #[s, x], argTypes := #[98, 98] })
    (L : List Ln) (l : Ln) (ao : Option Addr) (n c0 : Nat) (hn : n = L.length) (hs : a.eval s = .slice ao n n) (hL : Row w (.slice ao n c0) 4 L.length (lnF L)) (ad c : Nat) (hx : a.eval x = .slice (some ⟨ad, 0, none⟩) 1 c) (hb : Bk w ad 142 [.int .i64 l.k, .int .i64 l.n, .int .i64 l.d, .bool l.s])
    (hle : L.length ≤ 3000)
    (h : ∀ (g c' : Nat) w', LnR w' (.slice (some ⟨g, 0, none⟩) (n + 1) c') (L ++ [l]) → Below w.heap.size w w' → wpList Tryz.prog ops Q rest (a.put o.dst (.slice (some ⟨g, 0, none⟩) (n + 1) c')) w') : wpList Tryz.prog ops Q (o :: rest) a w := by
  subst hn
  obtain ⟨i, z, hi, hz0, hz1, hz2, hz3⟩ := line_el
  refine wpList_append_grows w hgd s x _ ho _ i z 4 32 Tryz.underlying98 hi hz0 hz1 hz2 hz3 (by decide) ao L.length L.length (cellsL (lnF L) 4 L.length) hs ?_ (cellsL_len _ _ _) (row_list hL (by decide)) ⟨ad, 0, none⟩ 1 c _ hx rfl (news_bk hb) ?_ (Nat.lt_succ_self _) (by unfold maxLen; omega) (by omega) ?_
  · rintro rfl
    rcases Nat.eq_zero_or_pos L.length with h0 | h0
    · exact ⟨h0, h0⟩
    · obtain ⟨_, _, e, _⟩ := hL.cells h0
      cases e
  · intro u hu; simp at hu; rcases hu with rfl | rfl | rfl | rfl <;> rfl
  · intro v' w' hown hgr
    obtain ⟨g, c', rfl⟩ := ownsRow_succ hown
    refine h g c' w' ?_ ((Below.refl _ w).grown hgr (Nat.le_refl _) (fun j hj => by cases hj))
    rw [← cells_app] at hown
    rw [show L.length + 1 = (L ++ [l]).length by simp] at hown ⊢
    exact OwnR.row hown
theorem list_nothing {ops : Array Oper} {rest : List Oper} {o : Oper} {a : Act} {w : World} {Q : Exit → Act → World → Prop} (hgd : o.guard = none) (s x : Operand)
    (ho : o.op = .call { callee := .builtin .append, args := #[s, x], argTypes := #[98, 98] })
    (ao : Option Addr) (n : Nat) (hs : a.eval s = .slice ao n n) (hx : a.eval x = .slice none 0 0)
    (h : wpList Tryz.prog ops Q rest (a.put o.dst (.slice ao n n)) w) : wpList Tryz.prog ops Q (o :: rest) a w := by
  obtain ⟨i, z, hi, hz0, hz1, hz2, hz3⟩ := line_el
  refine wpList_plain hgd fun K hK' => ?_
  have hrun := run_append_nothing (P := Tryz.prog) w 98 98 o.type _ i Tryz.underlying98 hi ao n n (Nat.le_refl _) (.slice none 0 0) (Src.ofNil w Tryz.underlying98 0)
  unfold Oper.wp
  simp [execOp, ho, resolve, invoke, builtin, hs, hx, hrun, Result.andThen]
  exact hK' _ _ h
theorem ne_region {w : World} {b b0 p : Nat} {T : TypeId} {r : Rn} {o o' : Option Addr} {n n' c c' : Nat} (hz : Bk w b0 T (rnC r (.slice o n c) (.slice o' n' c'))) {k1 k2 k3 : IntKind} {x y z : Int} (h0 : w.cell? ⟨b, p, none⟩ = some (.int k1 x)) (h1 : w.cell? ⟨b, p + 1, none⟩ = some (.int k2 y)) (h2 : w.cell? ⟨b, p + 2, none⟩ = some (.int k3 z)) : b ≠ b0 := by
  rintro rfl
  rw [hz.cell p] at h0
  rw [hz.cell (p + 1)] at h1
  rw [hz.cell (p + 2)] at h2
  match p, h0, h1, h2 with
  | 0, _, _, h2 => simp [rnC] at h2
  | 1, _, h1, _ => simp [rnC] at h1
  | 2, h0, _, _ => simp [rnC] at h0
  | 3, _, _, h2 => simp [rnC] at h2
  | 4, _, h1, _ => simp [rnC] at h1
  | 5, h0, _, _ => simp [rnC] at h0
  | 6, h0, _, _ => simp [rnC] at h0
  | 7, h0, _, _ => simp [rnC] at h0
  | 8, h0, _, _ => simp [rnC] at h0
  | p + 9, h0, _, _ => simp [rnC] at h0
theorem lnr_besR {w w' : World} {v : Value} {L : List Ln} {b0 : Nat} {T : TypeId} {r : Rn} {o o' : Option Addr} {n n' c c' : Nat} (h : LnR w v L) (hb : Bes b0 w w') (hz : Bk w b0 T (rnC r (.slice o n c) (.slice o' n' c'))) : LnR w' v L :=
  Row.bes h hb fun b off h0 hc => ne_region hz (hc 0 0 h0 (by decide)) (hc 0 1 h0 (by decide)) (hc 0 2 h0 (by decide))
theorem LnR.recap {w : World} {o : Option Addr} {n c : Nat} {L : List Ln} (h : LnR w (.slice o n c) L) (c' : Nat) : LnR w (.slice o n c') L := by
  obtain ⟨o', c0, e, hm, h⟩ := h
  cases e
  exact ⟨_, _, rfl, hm, h⟩
set_option maxRecDepth 100000 in
set_option maxHeartbeats 4000000 in
theorem can_over (r : Rn) (oa ob : Option Addr) (ca cb : Nat) (A B : List Ln) (l : Ln) (ad : Nat) (w : World) (hA : LnR w (.slice oa A.length ca) A) (hB : LnR w (.slice ob B.length cb) B) (hcA : A.length ≤ ca) (hcB : B.length ≤ cb) (hr : RnB r) (lA : ∀ l ∈ A, LnB l) (lB : ∀ u ∈ B, LnB u) (hl : LnB l)
    (he : Bk w ad 142 [.int .i64 l.k, .int .i64 l.n, .int .i64 l.d, .bool l.s]) (hnA : A.length ≤ 3000) (_hnB : B.length ≤ 3000) :
    Calls Tryz.prog 99 #[rnV r (.slice oa A.length ca) (.slice ob B.length cb), .slice (some ⟨ad, 0, none⟩) 1 1, .slice none 0 0] w fun e w' => e = .returned (.bool (!(solW r (A ++ [l]) (B)).e)) ∧ Below w.heap.size w w' := by
  have hR := Bk.new w 100 (rnC r (.slice oa A.length ca) (.slice ob B.length cb))
  have hA1 := hA.alloc (Obj.cells (rnC r (.slice oa A.length ca) (.slice ob B.length cb)).toArray 100)
  have hB1 := hB.alloc (Obj.cells (rnC r (.slice oa A.length ca) (.slice ob B.length cb)).toArray 100)
  have he1 := he.alloc (Obj.cells (rnC r (.slice oa A.length ca) (.slice ob B.length cb)).toArray 100)
  have HA := Lib.hid hA1
  have HB := Lib.hid hB1
  have HE := Lib.hid he1
  have HR := Lib.hid hR
  clear hA hB he hA1 hB1 he1 hR
  go_enter Tryz.func99, Tryz.ntmps99
  go_wp2_with (first | (at_builtin; refine list_nothing rfl _ _ rfl ob B.length rfl rfl ?_) | (at_builtin; refine list_capped rfl _ _ rfl A l oa A.length ca rfl rfl HA.out ad 1 rfl HE.out hnA ?_; intro g1 c1 w1 hA1 hb1; have hr1 := HR.out.below hb1; have y6 := hr1.cell 6; have y7 := hr1.cell 7; have z6 := hr1.frozen 6; have z7 := hr1.frozen 7; have y8 := hr1.lt; simp only [rnC, List.getElem?_cons_zero, List.getElem?_cons_succ] at y6 y7) | (refine ld_at rfl (T := 100) rfl rfl (cs := [.int .i64 r.lo.n, .int .i64 r.lo.d, .bool r.lo.s, .int .i64 r.hi.n, .int .i64 r.hi.d, .bool r.hi.s, .slice (some ⟨g1, 0, none⟩) (A.length + 1) c1, .slice ob B.length B.length, .bool r.e]) ((hr1.set 6 (.slice (some ⟨g1, 0, none⟩) (A.length + 1) c1)).set 7 (.slice ob B.length B.length)) Tryz.underlying100 rfl (by kernel_rfl) ?_))
  have hs1 : Bes w.heap.size w1 ((w1.setCell ⟨w.heap.size, 6, none⟩ (.slice (some ⟨g1, 0, none⟩) (A.length + 1) c1)).setCell ⟨w.heap.size, 7, none⟩ (.slice ob B.length B.length)) := ((Bes.refl _ _).setCell 6 _).setCell 7 _
  have hA2 := lnr_besR hA1 hs1 hr1
  have hB2 := (lnr_besR (HB.out.below hb1) hs1 hr1).recap B.length
  have hbw : Below w.heap.size w ((w1.setCell ⟨w.heap.size, 6, none⟩ (.slice (some ⟨g1, 0, none⟩) (A.length + 1) c1)).setCell ⟨w.heap.size, 7, none⟩ (.slice ob B.length B.length)) := ((bafter hb1).setCell (Nat.le_refl _) _).setCell (Nat.le_refl _) _
  have lA2 : ∀ x ∈ A ++ [l], LnB x := fun x hx => by
    rcases List.mem_append.1 hx with h | h
    · exact lA x h
    · rw [List.mem_singleton.1 h]; exact hl
  refine (solved_any r _ _ (A ++ [l]) B _ hA2 hB2 hr lA2 lB).mono ?_
  rintro e w2 ⟨rfl, hb2⟩
  obtain ⟨kr, hkr⟩ : ∃ x, solW r (A ++ [l]) B = x := ⟨_, rfl⟩
  have HBW := Lib.hid hbw
  have HB2 := Lib.hid hb2
  have HKR := Lib.hid hkr
  rw [hkr]
  clear hbw hb2 hkr hA2 hB2 hs1 hr1 hA1 hb1 y6 y7 z6 z7 y8 lA2 lA lB
  clear hcA hcB hr hl hnA _hnB HA HB HE HR
  have hfl : ∀ W : World, Sem.run Tryz.prog (Instr.field 100 (rnV kr (.slice (some ⟨g1, 0, none⟩) (A.length + 1) c1) (.slice ob B.length B.length)) 4) W = .ok (.bool kr.e) W := fun _ => by kernel_rfl
  go_simp
  go_wp2_with fail
  go_ret
  exact ⟨by rw [HKR.out]; rfl, HBW.out.trans (HB2.out.mono HBW.out.size)⟩
set_option maxRecDepth 100000 in
set_option maxHeartbeats 4000000 in
theorem can_under (r : Rn) (oa ob : Option Addr) (ca cb : Nat) (A B : List Ln) (l : Ln) (ad : Nat) (w : World) (hA : LnR w (.slice oa A.length ca) A) (hB : LnR w (.slice ob B.length cb) B) (hcA : A.length ≤ ca) (hcB : B.length ≤ cb) (hr : RnB r) (lA : ∀ l ∈ A, LnB l) (lB : ∀ u ∈ B, LnB u) (hl : LnB l)
    (he : Bk w ad 142 [.int .i64 l.k, .int .i64 l.n, .int .i64 l.d, .bool l.s]) (_hnA : A.length ≤ 3000) (hnB : B.length ≤ 3000) :
    Calls Tryz.prog 99 #[rnV r (.slice oa A.length ca) (.slice ob B.length cb), .slice none 0 0, .slice (some ⟨ad, 0, none⟩) 1 1] w fun e w' => e = .returned (.bool (!(solW r (A) (B ++ [l])).e)) ∧ Below w.heap.size w w' := by
  have hR := Bk.new w 100 (rnC r (.slice oa A.length A.length) (.slice ob B.length cb))
  have hA1 := hA.alloc (Obj.cells (rnC r (.slice oa A.length A.length) (.slice ob B.length cb)).toArray 100)
  have hB1 := hB.alloc (Obj.cells (rnC r (.slice oa A.length A.length) (.slice ob B.length cb)).toArray 100)
  have he1 := he.alloc (Obj.cells (rnC r (.slice oa A.length A.length) (.slice ob B.length cb)).toArray 100)
  have HA := Lib.hid hA1
  have HB := Lib.hid hB1
  have HE := Lib.hid he1
  have HR := Lib.hid hR
  clear hA hB he hA1 hB1 he1 hR
  go_enter Tryz.func99, Tryz.ntmps99
  go_wp2_with (first | (at_builtin; refine list_nothing rfl _ _ rfl oa A.length rfl rfl ?_) | (at_builtin; refine list_capped rfl _ _ rfl B l ob B.length cb rfl rfl HB.out ad 1 rfl HE.out hnB ?_; intro g1 c1 w1 hB1 hb1; have hr1 := HR.out.below hb1; have y7 := hr1.cell 7; have z7 := hr1.frozen 7; have y8 := hr1.lt; simp only [rnC, List.getElem?_cons_zero, List.getElem?_cons_succ] at y7) | (refine ld_at rfl (T := 100) rfl rfl (cs := [.int .i64 r.lo.n, .int .i64 r.lo.d, .bool r.lo.s, .int .i64 r.hi.n, .int .i64 r.hi.d, .bool r.hi.s, .slice oa A.length A.length, .slice (some ⟨g1, 0, none⟩) (B.length + 1) c1, .bool r.e]) (hr1.set 7 (.slice (some ⟨g1, 0, none⟩) (B.length + 1) c1)) Tryz.underlying100 rfl (by kernel_rfl) ?_))
  have hs1 : Bes w.heap.size w1 (w1.setCell ⟨w.heap.size, 7, none⟩ (.slice (some ⟨g1, 0, none⟩) (B.length + 1) c1)) := (Bes.refl _ _).setCell 7 _
  have hB2 := lnr_besR hB1 hs1 hr1
  have hA2 := (lnr_besR (HA.out.below hb1) hs1 hr1).recap A.length
  have hbw : Below w.heap.size w (w1.setCell ⟨w.heap.size, 7, none⟩ (.slice (some ⟨g1, 0, none⟩) (B.length + 1) c1)) := (bafter hb1).setCell (Nat.le_refl _) _
  have lB2 : ∀ x ∈ B ++ [l], LnB x := fun x hx => by
    rcases List.mem_append.1 hx with h | h
    · exact lB x h
    · rw [List.mem_singleton.1 h]; exact hl
  refine (solved_any r _ _ A (B ++ [l]) _ hA2 hB2 hr lA lB2).mono ?_
  rintro e w2 ⟨rfl, hb2⟩
  obtain ⟨kr, hkr⟩ : ∃ x, solW r A (B ++ [l]) = x := ⟨_, rfl⟩
  have HBW := Lib.hid hbw
  have HB2 := Lib.hid hb2
  have HKR := Lib.hid hkr
  rw [hkr]
  clear hbw hb2 hkr hA2 hB2 hs1 hr1 hB1 hb1 y7 z7 y8 lB2 lA lB
  clear hcA hcB hr hl _hnA hnB HA HB HE HR
  have hfl : ∀ W : World, Sem.run Tryz.prog (Instr.field 100 (rnV kr (.slice oa A.length A.length) (.slice (some ⟨g1, 0, none⟩) (B.length + 1) c1)) 4) W = .ok (.bool kr.e) W := fun _ => by kernel_rfl
  go_simp
  go_wp2_with fail
  go_ret
  exact ⟨by rw [HKR.out]; rfl, HBW.out.trans (HB2.out.mono HBW.out.size)⟩
end Go.Proofs.YtnfndiafabhhdaaGreat
