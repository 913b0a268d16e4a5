/- Walk of Check of a vessel: the program's, the reference's (Wear). -/
import Derived.Test.YtnfndiafabhhdaaGreatB1
import Derived.Test.YtnfndiafabhhdaaGreatA1
import Derived.Deep.AppendLies
import Derived.Laws.AppendOwn
import Derived.Laws.Rows
import Derived.OwnWalk
namespace Go.Proofs.YtnfndiafabhhdaaGreat
open Go.ChangeShapes Go.WideShapes Go.ChangeAt Go.RowKit
def rgF (l : List Rg) (i j : Nat) : Value := match j with
  | 0 => .int .i64 (rg l i).h
  | 1 => .int .i64 (rg l i).v
  | _ => .int .i64 (rg l i).d
abbrev RgR (w : World) (v : Value) (l : List Rg) : Prop := Row w v 3 l.length (rgF l)
def chkV (l : List Rg) : Int := if okVs l then 0 else 20
theorem okFrom_no {l : List Rg} {k : Nat} : ∀ {n : Nat}, k < n → okRg (rg l k) = false → okFrom l n = false
  | 0, h, _ => by omega
  | n + 1, h, e => by
    simp only [okFrom]
    rcases Nat.lt_or_ge k n with h1 | h1
    · rw [okFrom_no h1 e]; rfl
    · obtain rfl : k = n := by omega
      rw [e]; simp
theorem okFrom_no2 {l : List Rg} {k : Nat} : ∀ {n : Nat}, k < n → k ≠ 0 → (rg l k).v * (rg l (k - 1)).d < (rg l (k - 1)).v * (rg l k).d → okFrom l n = false
  | 0, h, _, _ => by omega
  | n + 1, h, h0, e => by
    simp only [okFrom]
    rcases Nat.lt_or_ge k n with h1 | h1
    · rw [okFrom_no2 h1 h0 e]; rfl
    · obtain rfl : k = n := by omega
      simp only [Bool.and_eq_false_iff, Bool.or_eq_false_iff, decide_eq_false_iff_not]
      exact .inr ⟨h0, by omega⟩
theorem chkV_no {l : List Rg} {n : Nat} (hn : l.length = n) (h : ¬ (1 ≤ n ∧ n ≤ 24) ∨ okFrom l n = false) : chkV l = 20 := by
  unfold chkV
  rw [if_neg]
  simp only [okVs, Bool.and_eq_true, decide_eq_true_eq, hn]
  rintro ⟨⟨a, b⟩, c⟩
  rcases h with h | h
  · exact h ⟨a, b⟩
  · rw [h] at c; cases c
theorem chkV_yes {l : List Rg} {n : Nat} (hn : l.length = n) (h : 1 ≤ n ∧ n ≤ 24) (k : okFrom l n = true) : chkV l = 0 := by
  unfold chkV
  rw [if_pos]
  simp only [okVs, Bool.and_eq_true, decide_eq_true_eq, hn]
  exact ⟨⟨h.1, h.2⟩, k⟩
set_option maxHeartbeats 1000000 in
theorem vCheck_any (l : List Rg) (v : Value) (w : World) (hR : RgR w v l) : Calls Tryz.prog 112 #[v] w fun e w' => e = .returned (.int .i64 (chkV l)) ∧ Below w.heap.size w w' := by
  obtain ⟨o, c, rfl, m⟩ := hR.parts
  obtain ⟨n, hn⟩ : ∃ n, l.length = n := ⟨_, rfl⟩
  have HR := Lib.hid hR; clear hR
  have HN := Lib.hid hn
  rw [hn] at m ⊢
  clear hn
  by_cases hb : 1 ≤ n ∧ n ≤ 24
  · obtain ⟨n1, n2⟩ := hb
    go_enter Tryz.func112, Tryz.ntmps112
    go_wp2_with fail
    go_loopw [15] (fun i wr => ∃ k : Nat, k ≤ n ∧ i = .int .i64 (k : Int) ∧ Hid (okFrom l k = true) ∧ Below w.heap.size w wr) (fun i _ => n - (intOf i).toNat)
    case atStart => exact ⟨0, Nat.zero_le _, rfl, rfl, Below.refl _ _⟩
    case round =>
      obtain ⟨k, hk, rfl, hok, hbl⟩ := hrel
      by_cases h0 : k < n
      · obtain ⟨b, off, rfl, hb, hc⟩ := HR.out.cells (by rw [HN.out]; omega)
        have d0 := (hbl.cell (p := ⟨b, off + k * 3, none⟩) hb).trans (hc k 0 (by rw [HN.out]; exact h0) (by omega))
        have d1 := (hbl.cell (p := ⟨b, off + k * 3 + 1, none⟩) hb).trans (hc k 1 (by rw [HN.out]; exact h0) (by omega))
        have d2 := (hbl.cell (p := ⟨b, off + k * 3 + 2, none⟩) hb).trans (hc k 2 (by rw [HN.out]; exact h0) (by omega))
        simp only [rgF] at d0 d1 d2
        obtain ⟨r, hr⟩ : ∃ r, rg l k = r := ⟨_, rfl⟩
        rw [hr] at d0 d1 d2
        have HRG := Lib.hid hr; clear hr
        have hbw : b < wr.heap.size := Nat.lt_of_lt_of_le hb hbl.size
        have mc := @more_cell (wr.alloc (Obj.cells #[.int .i64 r.h, .int .i64 r.v, .int .i64 r.d] 169))
        have k1 : ∀ i : More (wr.alloc (Obj.cells #[.int .i64 r.h, .int .i64 r.v, .int .i64 r.d] 169)), _ := fun i => more_call (isRing_any r i.x)
        rcases bool_ft (okRg r) with hrg | hrg
        · have HNO := Lib.hid (chkV_no HN.out (.inr (okFrom_no (k := k) h0 (by rw [HRG.out]; exact hrg))))
          rw [hrg] at k1
          have K1 := Lib.hid k1; clear k1 hc hrg
          go_wp2_with fail
          refine wp_region_more (by kernel_rfl) (by kernel_rfl) ?_
          iterate 8 (try (first | go_big_quiet_step ((with_reducible first | exact K1.out _)) | quiet_step ((with_reducible first | exact K1.out _))))
          iterate 8 (try (first | go_big_quiet_step ((with_reducible first | exact K1.out _)) | quiet_step ((with_reducible first | exact K1.out _))))
          iterate 8 (try (first | go_big_quiet_step ((with_reducible first | exact K1.out _)) | quiet_step ((with_reducible first | exact K1.out _))))
          iterate 8 (try (first | go_big_quiet_step ((with_reducible first | exact K1.out _)) | quiet_step ((with_reducible first | exact K1.out _))))
          iterate 8 (try (first | go_big_quiet_step ((with_reducible first | exact K1.out _)) | quiet_step ((with_reducible first | exact K1.out _))))
          refine wpQuiet_nil ?_
          rintro ⟨wm, hbm⟩
          try dsimp only
          go_wp2_with fail
          go_ret
          exact ⟨ret_int HNO.out.symm, hbl.trans ((bafter hbm).mono hbl.size)⟩
        · rw [hrg] at k1
          have HOK := Lib.hid hrg
          obtain ⟨r1, r2, r3⟩ := okRg_bd hrg
          by_cases hk0 : k = 0
          · subst hk0
            simp only [Nat.zero_mul, Nat.add_zero] at d0 d1 d2
            have hst : okFrom l (0 + 1) = true := by simp [okFrom, HRG.out, HOK.out]
            have HST := Lib.hid hst
            have K1 := Lib.hid k1; clear k1 hc hrg hst
            go_wp2_with fail
            refine wp_region_more (by kernel_rfl) (by kernel_rfl) ?_
            iterate 8 (try (first | go_big_quiet_step ((with_reducible first | exact K1.out _)) | quiet_step ((with_reducible first | exact K1.out _))))
            iterate 8 (try (first | go_big_quiet_step ((with_reducible first | exact K1.out _)) | quiet_step ((with_reducible first | exact K1.out _))))
            iterate 8 (try (first | go_big_quiet_step ((with_reducible first | exact K1.out _)) | quiet_step ((with_reducible first | exact K1.out _))))
            iterate 8 (try (first | go_big_quiet_step ((with_reducible first | exact K1.out _)) | quiet_step ((with_reducible first | exact K1.out _))))
            iterate 8 (try (first | go_big_quiet_step ((with_reducible first | exact K1.out _)) | quiet_step ((with_reducible first | exact K1.out _))))
            refine wpQuiet_nil ?_
            rintro ⟨wm, hbm⟩
            try dsimp only
            go_wp2_with fail
            exact ⟨⟨1, by omega, rfl, HST.out, hbl.trans ((bafter hbm).mono hbl.size)⟩, by simp [intOf]; omega⟩
          · have hkk : 0 < k := by omega
            have e1 := (hbl.cell (p := ⟨b, off + (k - 1) * 3 + 1, none⟩) hb).trans (hc (k - 1) 1 (by rw [HN.out]; omega) (by omega))
            have e2 := (hbl.cell (p := ⟨b, off + (k - 1) * 3 + 2, none⟩) hb).trans (hc (k - 1) 2 (by rw [HN.out]; omega) (by omega))
            simp only [rgF] at e1 e2
            obtain ⟨s1, s2, s3⟩ := okRg_bd (okFrom_at hok.out (k - 1) (by omega))
            obtain ⟨s, hs⟩ : ∃ r, rg l (k - 1) = r := ⟨_, rfl⟩
            rw [hs] at e1 e2 s1 s2 s3
            have HSG := Lib.hid hs; clear hs
            have m1 := mul_bd (a := r.v) (b := s.d) (A := 100000) (B := 20000) (by omega) (by omega) (by omega) (by omega)
            have m2 := mul_bd (a := s.v) (b := r.d) (A := 100000) (B := 20000) (by omega) (by omega) (by omega) (by omega)
            have hn1 : ((k : Int) - 1).toNat = k - 1 := by omega
            by_cases hlt : r.v * s.d < s.v * r.d
            · have HNO := Lib.hid (chkV_no HN.out (.inr (okFrom_no2 (k := k) h0 hk0 (by rw [HRG.out, HSG.out]; exact hlt))))
              have K1 := Lib.hid k1; clear k1 hc hrg
              go_wp2_with fail
              refine wp_region_more (by kernel_rfl) (by kernel_rfl) ?_
              iterate 8 (try (first | go_big_quiet_step ((with_reducible first | exact K1.out _)) | quiet_step ((with_reducible first | exact K1.out _))))
              iterate 8 (try (first | go_big_quiet_step ((with_reducible first | exact K1.out _)) | quiet_step ((with_reducible first | exact K1.out _))))
              iterate 8 (try (first | go_big_quiet_step ((with_reducible first | exact K1.out _)) | quiet_step ((with_reducible first | exact K1.out _))))
              iterate 8 (try (first | go_big_quiet_step ((with_reducible first | exact K1.out _)) | quiet_step ((with_reducible first | exact K1.out _))))
              iterate 8 (try (first | go_big_quiet_step ((with_reducible first | exact K1.out _)) | quiet_step ((with_reducible first | exact K1.out _))))
              refine wpQuiet_nil ?_
              rintro ⟨wm, hbm⟩
              try dsimp only
              go_wp2_with fail
              go_ret
              exact ⟨ret_int HNO.out.symm, hbl.trans ((bafter hbm).mono hbl.size)⟩
            · have hst : okFrom l (k + 1) = true := by
                simp only [okFrom, Bool.and_eq_true, Bool.or_eq_true, decide_eq_true_eq]
                rw [HRG.out, HSG.out]
                exact ⟨⟨hok.out, HOK.out⟩, .inr (by omega)⟩
              have HST := Lib.hid hst
              have K1 := Lib.hid k1; clear k1 hc hrg hst
              go_wp2_with fail
              refine wp_region_more (by kernel_rfl) (by kernel_rfl) ?_
              iterate 8 (try (first | go_big_quiet_step ((with_reducible first | exact K1.out _)) | quiet_step ((with_reducible first | exact K1.out _))))
              iterate 8 (try (first | go_big_quiet_step ((with_reducible first | exact K1.out _)) | quiet_step ((with_reducible first | exact K1.out _))))
              iterate 8 (try (first | go_big_quiet_step ((with_reducible first | exact K1.out _)) | quiet_step ((with_reducible first | exact K1.out _))))
              iterate 8 (try (first | go_big_quiet_step ((with_reducible first | exact K1.out _)) | quiet_step ((with_reducible first | exact K1.out _))))
              iterate 8 (try (first | go_big_quiet_step ((with_reducible first | exact K1.out _)) | quiet_step ((with_reducible first | exact K1.out _))))
              refine wpQuiet_nil ?_
              rintro ⟨wm, hbm⟩
              try dsimp only
              go_wp2_with fail
              exact ⟨⟨k + 1, by omega, by go_num, HST.out, hbl.trans ((bafter hbm).mono hbl.size)⟩, by simp [intOf]; omega⟩
      · obtain rfl : k = n := by omega
        have HNO := Lib.hid (chkV_yes HN.out ⟨n1, n2⟩ hok.out)
        go_wp2_with fail
        go_ret
        exact ⟨ret_int HNO.out.symm, hbl⟩
  · have HNO := Lib.hid (chkV_no HN.out (.inl hb))
    rcases Nat.lt_or_ge n 1 with h | h
    · go_enter Tryz.func112, Tryz.ntmps112
      go_wp2_with fail
      go_ret
      exact ⟨ret_int HNO.out.symm, belw⟩
    · have h2 : 24 < n := by omega
      go_enter Tryz.func112, Tryz.ntmps112
      go_wp2_with fail
      go_ret
      exact ⟨ret_int HNO.out.symm, belw⟩
def pfx (g : Nat → Int) (k : Nat) : List Int := (List.range k).map g
theorem pfx_len (g : Nat → Int) (k : Nat) : (pfx g k).length = k := by simp [pfx]
theorem pfx_succ (g : Nat → Int) (k : Nat) : pfx g (k + 1) = pfx g k ++ [g k] := by simp [pfx, List.range_succ]
theorem pfx_at (g : Nat → Int) {k j : Nat} (h : j < k) : (pfx g k)[j]?.getD 0 = g j := by simp [pfx, h]
abbrev OwnI (w : World) (base : Nat) (E : TypeId) (v : Value) (l : List Int) : Prop := w.ownsRow base E 1 v l.length (l.map (Value.int .i64))
theorem OwnI.ints {w : World} {base : Nat} {E : TypeId} {v : Value} {l : List Int} (h : OwnI w base E v l) : Ints w v l := by
  have h0 := h
  rcases h.2 with ⟨h1, h2⟩ | ⟨g, cap, cur, rfl, hbg, hg, hn, hc, _⟩
  · exact .inl ⟨List.eq_nil_of_length_eq_zero h2, none, 0, h1⟩
  · by_cases hl : 0 < l.length
    · refine .inr ⟨g, 0, cap, rfl, hl, by unfold maxLen at hc; omega, ?_, fun j hj => ?_⟩
      · rcases Nat.lt_or_ge g w.heap.size with hlt | hlt
        · exact hlt
        · rw [Array.getElem?_eq_none hlt] at hg; cases hg
      · have := h0.cells (g := g) rfl j (.int .i64 (l[j]?.getD 0)) (by simp [hj])
        have e : (⟨g, 0, none⟩ : Addr).add j = ⟨g, 0 + j, none⟩ := by unfold Addr.add; split <;> simp_all
        rw [e] at this
        exact this
    · exact .inl ⟨List.eq_nil_of_length_eq_zero (by omega), _, _, by rw [show l.length = 0 by omega]⟩
theorem owns_below {w w' : World} {base : Nat} {E : TypeId} {k n : Nat} {v : Value} {xs : List Value} (h : w.ownsRow base E k v n xs) (hb : Below w.heap.size w w') : w'.ownsRow base E k v n xs := by
  refine ⟨h.1, ?_⟩
  rcases h.2 with h1 | ⟨g, cap, cur, rfl, hbg, hg, rest⟩
  · exact .inl h1
  · refine .inr ⟨g, cap, cur, rfl, hbg, ?_, rest⟩
    have : g < w.heap.size := by
      rcases Nat.lt_or_ge g w.heap.size with hlt | hlt
      · exact hlt
      · rw [Array.getElem?_eq_none hlt] at hg; cases hg
    rw [hb.block g this, hg]
theorem owns_setCell {w : World} {base : Nat} {E : TypeId} {k n : Nat} {v : Value} {xs : List Value} (h : w.ownsRow base E k v n xs) {b j : Nat} (hb : b < base) (x : Value) : (w.setCell ⟨b, j, none⟩ x).ownsRow base E k v n xs := by
  refine ⟨h.1, ?_⟩
  rcases h.2 with h1 | ⟨g, cap, cur, rfl, hbg, hg, rest⟩
  · exact .inl h1
  · refine .inr ⟨g, cap, cur, rfl, hbg, ?_, rest⟩
    exact (Below.heap_setCell _ _ _ _ (by show g ≠ b; omega)).trans hg
def TwoI (w : World) (base : Nat) (E : TypeId) (v1 : Value) (l1 : List Int) (v2 : Value) (l2 : List Int) : Prop :=
  OwnI w base E v1 l1 ∧ OwnI w base E v2 l2 ∧ ∀ g, v1.ownBlock = some g → v2.ownBlock ≠ some g
theorem TwoI.nil (w : World) (base : Nat) (E : TypeId) : TwoI w base E (.slice none 0 0) [] (.slice none 0 0) [] := ⟨World.ownsRow_nil _ _ _ _, World.ownsRow_nil _ _ _ _, fun g h => by cases h⟩
theorem TwoI.swap {w : World} {base : Nat} {E : TypeId} {v1 v2 : Value} {l1 l2 : List Int} (h : TwoI w base E v1 l1 v2 l2) : TwoI w base E v2 l2 v1 l1 := ⟨h.2.1, h.1, fun g h2 h1 => h.2.2 g h1 h2⟩
theorem TwoI.below {w w' : World} {base : Nat} {E : TypeId} {v1 v2 : Value} {l1 l2 : List Int} (h : TwoI w base E v1 l1 v2 l2) (hb : Below w.heap.size w w') : TwoI w' base E v1 l1 v2 l2 := ⟨owns_below h.1 hb, owns_below h.2.1 hb, h.2.2⟩
theorem TwoI.setCell {w : World} {base : Nat} {E : TypeId} {v1 v2 : Value} {l1 l2 : List Int} (h : TwoI w base E v1 l1 v2 l2) {b j : Nat} (hb : b < base) (x : Value) : TwoI (w.setCell ⟨b, j, none⟩ x) base E v1 l1 v2 l2 := ⟨owns_setCell h.1 hb x, owns_setCell h.2.1 hb x, h.2.2⟩
theorem info_parts_ {P : Program} {E : TypeId} {z : Value} {a b : Nat} (h : (P.info? E).map (fun i => (i.zero, i.size, i.bytes)) = some (some z, a, b)) : ∃ i, P.info? E = some i ∧ i.zero = some z ∧ i.size = a ∧ i.bytes = b := by
  cases e : P.info? E with
  | none => rw [e] at h; cases h
  | some i => rw [e] at h; simp at h; exact ⟨i, rfl, h.1, h.2.1, h.2.2⟩
theorem wp_twoI {T E : TypeId} (hT : Tryz.prog.underlying T = some (.slice E)) (hE : (Tryz.prog.info? E).map (fun i => (i.zero, i.size, i.bytes)) = some (some (.int .i64 0), 1, 8))
    {o : Oper} {a : Act} {w : World} {K : Act → World → Prop} {Q : Exit → Act → World → Prop} (s x : Operand)
    (ho : o.op = .call { callee := .builtin .append, args := #[s, x], argTypes := #[T, T] })
    (base : Nat) (v1 : Value) (l1 : List Int) (v2 : Value) (l2 : List Int) (hs : a.eval s = v1) (ht : TwoI w base E v1 l1 v2 l2) (ad : Addr) (c : Nat) (y : Int) (hx : a.eval x = .slice (some ad) 1 c) (hy : w.cell? ad = some (.int .i64 y))
    (N : Nat) (hN : l1.length = N) (hl : N ≤ 100000000) (hbase : base ≤ w.heap.size)
    (h : ∀ (g c' : Nat) w', TwoI w' base E (.slice (some ⟨g, 0, none⟩) (N + 1) c') (l1 ++ [y]) v2 l2 → Below base w w' → w.grownBy w' v1.ownBlock → K (a.put o.dst (.slice (some ⟨g, 0, none⟩) (N + 1) c')) w') : Oper.wp Tryz.prog o a w K Q := by
  subst hN
  obtain ⟨i0, hi, hz0, hz1, hz2⟩ := info_parts_ hE
  refine wp_append_lies w s x T ho base E i0 (.int .i64 0) 1 8 hT hi hz0 hz1 hz2 rfl (by decide) v1 l1.length (l1.map (Value.int .i64)) hs ht.1 ad 1 c [.int .i64 y] hx rfl ?_ ?_ (by decide) (by unfold maxLen; omega) (by omega) hbase w.heap.size rfl ?_
  · intro j u hj
    match j, hj with
    | 0, hj => simp at hj; subst hj; simpa [Addr.add] using hy
  · intro u hu; simp at hu; subst hu; rfl
  · intro g cap w' h1 h2 h3 h4
    refine h g cap w' ⟨?_, ?_, ?_⟩ ?_ h2
    · unfold OwnI; rw [List.length_append, List.map_append]; exact h1
    · refine World.ownsRow.kept ht.2.1 h2 ?_
      cases e : v2.ownBlock with
      | none => exact .inl rfl
      | some k => exact .inr fun e1 => ht.2.2 k e1.symm e
    · intro g' hg' e
      have hgg : g = g' := Option.some.inj hg'
      subst hgg
      rcases h3 with h3 | h3
      · exact ht.2.2 g h3 e
      · have := (World.ownsRow.lt ht.2.1 g e).2
        omega
    · exact (Below.refl base w).grown h2 hbase (fun k hk => (World.ownsRow.lt ht.1 k hk).1)
theorem step_twoI {T E : TypeId} (hT : Tryz.prog.underlying T = some (.slice E)) (hE : (Tryz.prog.info? E).map (fun i => (i.zero, i.size, i.bytes)) = some (some (.int .i64 0), 1, 8))
    {ops : Array Oper} {o : Oper} {a : Act} {w : World} {K : Act → World → Prop} {Q : Exit → Act → World → Prop} {X : Prop} (hgd : o.guard = none) (s x : Operand)
    (ho : o.op = .call { callee := .builtin .append, args := #[s, x], argTypes := #[T, T] })
    (base : Nat) (v1 : Value) (l1 : List Int) (v2 : Value) (l2 : List Int) (hs : a.eval s = v1) (ht : TwoI w base E v1 l1 v2 l2) (ad : Addr) (c : Nat) (y : Int) (hx : a.eval x = .slice (some ad) 1 c) (hy : w.cell? ad = some (.int .i64 y))
    (N : Nat) (hN : l1.length = N) (hl : N ≤ 100000000) (hbase : base ≤ w.heap.size)
    (h : ∀ (g c' : Nat) w', TwoI w' base E (.slice (some ⟨g, 0, none⟩) (N + 1) c') (l1 ++ [y]) v2 l2 → Below base w w' → w.grownBy w' v1.ownBlock → K (a.put o.dst (.slice (some ⟨g, 0, none⟩) (N + 1) c')) w') : if Region.wanted o (yielded ops a.tmps) = true then Oper.wp Tryz.prog o a w K Q else X := by
  have hw : Region.wanted o (yielded ops a.tmps) = true := by simp [Region.wanted, hgd]
  rw [if_pos hw]
  exact wp_twoI hT hE s x ho base v1 l1 v2 l2 hs ht ad c y hx hy N hN hl hbase h
theorem list_twoI {T E : TypeId} (hT : Tryz.prog.underlying T = some (.slice E)) (hE : (Tryz.prog.info? E).map (fun i => (i.zero, i.size, i.bytes)) = some (some (.int .i64 0), 1, 8))
    {ops : Array Oper} {rest : List Oper} {o : Oper} {a : Act} {w : World} {Q : Exit → Act → World → Prop} (hgd : o.guard = none) (s x : Operand)
    (ho : o.op = .call { callee := .builtin .append, args := #[s, x], argTypes := #[T, T] })
    (base : Nat) (v1 : Value) (l1 : List Int) (v2 : Value) (l2 : List Int) (hs : a.eval s = v1) (ht : TwoI w base E v1 l1 v2 l2) (ad : Addr) (c : Nat) (y : Int) (hx : a.eval x = .slice (some ad) 1 c) (hy : w.cell? ad = some (.int .i64 y))
    (N : Nat) (hN : l1.length = N) (hl : N ≤ 100000000) (hbase : base ≤ w.heap.size)
    (h : ∀ (g c' : Nat) w', TwoI w' base E (.slice (some ⟨g, 0, none⟩) (N + 1) c') (l1 ++ [y]) v2 l2 → Below base w w' → w.grownBy w' v1.ownBlock → wpList Tryz.prog ops Q rest (a.put o.dst (.slice (some ⟨g, 0, none⟩) (N + 1) c')) w') : wpList Tryz.prog ops Q (o :: rest) a w :=
  wpList_plain hgd fun _ hK => wp_twoI hT hE s x ho base v1 l1 v2 l2 hs ht ad c y hx hy N hN hl hbase fun g c' w' h1 h2 h3 => hK _ _ (h g c' w' h1 h2 h3)
def Scl (w : World) (p : Value) (T : TypeId) (l1 l2 : List Int) : Prop := ∃ b v1 v2, p = .pointer (some ⟨b, 0, none⟩) ∧ Bk w b T [v1, v2] ∧ Ints w v1 l1 ∧ Ints w v2 l2
theorem Scl.below {w w' : World} {p : Value} {T : TypeId} {l1 l2 : List Int} (h : Scl w p T l1 l2) (hb : Below w.heap.size w w') : Scl w' p T l1 l2 := by
  obtain ⟨b, v1, v2, rfl, h1, h2, h3⟩ := h
  exact ⟨b, v1, v2, rfl, h1.below hb, h2.below hb, h3.below hb⟩
theorem Ints.far {w : World} {v : Value} {l : List Int} {c i : Nat} {u : Value} {T : TypeId} {A : List Value} (h : Ints w v l) (hk : Bk w c T A) (hA : ∀ x ∈ A, ∀ y, x ≠ .int .i64 y) : Ints (w.setCell ⟨c, i, none⟩ u) v l := by
  rcases h with h | ⟨b, off, k, rfl, h0, hm, hlt, hc⟩
  · exact .inl h
  · have hne : b ≠ c := by
      rintro rfl
      have h1 := hc 0 h0
      rw [hk.cell] at h1
      exact hA _ (List.mem_of_getElem? h1) _ rfl
    exact .inr ⟨b, off, k, rfl, h0, hm, by simpa using hlt, fun j hj => (World.cell?_setCell_other _ _ _ _ (fun e => hne (congrArg Addr.block e).symm)).trans (hc j hj)⟩
theorem Bk.ne {w : World} {b c : Nat} {T T' : TypeId} {A A' : List Value} (h : Bk w b T A) (h' : Bk w c T' A') (hT : T ≠ T') : b ≠ c := by
  rintro rfl
  unfold Bk at h h'
  rw [h] at h'
  injection h' with h'
  injection h' with _ ht
  exact hT ht
theorem Scl.far {w : World} {p : Value} {T T' : TypeId} {l1 l2 : List Int} {c i : Nat} {u : Value} {A : List Value} (h : Scl w p T l1 l2) (hk : Bk w c T' A) (hT : T ≠ T') (hA : ∀ x ∈ A, ∀ y, x ≠ .int .i64 y) : Scl (w.setCell ⟨c, i, none⟩ u) p T l1 l2 := by
  obtain ⟨b, v1, v2, rfl, h1, h2, h3⟩ := h
  exact ⟨b, v1, v2, rfl, h1.far (h1.ne hk hT) _, h2.far hk hA, h3.far hk hA⟩
end Go.Proofs.YtnfndiafabhhdaaGreat
