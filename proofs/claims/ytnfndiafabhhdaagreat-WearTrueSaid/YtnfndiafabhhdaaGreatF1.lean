/- A slice of ints that the call itself makes, by append: what it holds; the law of append on it. -/
import Derived.Test.YtnfndiafabhhdaaGreatB1
import Derived.Test.YtnfndiafabhhdaaGreatProg
import Derived.Laws.AppendOwn
import Derived.Laws.Rows
import Derived.OwnWalk
import Derived.Test.YtnfndiafabhhdaaGreatE9
namespace Go.Proofs.YtnfndiafabhhdaaGreat
open Go.ChangeShapes Go.WideShapes Go.ChangeAt Go.RowKit
def Own (w : World) (base : Nat) (v : Value) (l : List Int) : Prop := w.ownsRow base 3 1 v l.length (l.map (Value.int .i64))
theorem Own.nil (w : World) (base : Nat) : Own w base (.slice none 0 0) [] := World.ownsRow_nil _ _ _ _
theorem Own.below {w w' : World} {base : Nat} {v : Value} {l : List Int} (h : Own w base v l) (hb : Below w.heap.size w w') : Own w' base v l := by
  refine ⟨h.1, ?_⟩
  rcases h.2 with h1 | ⟨g, cap, cur, rfl, hbg, hg, rest⟩
  · exact .inl h1
  · refine .inr ⟨g, cap, cur, rfl, hbg, ?_, rest⟩
    have : g < w.heap.size := by
      rcases Nat.lt_or_ge g w.heap.size with hlt | hlt
      · exact hlt
      · rw [Array.getElem?_eq_none hlt] at hg; cases hg
    rw [hb.block g this, hg]
theorem Own.mono {w : World} {base base' : Nat} {v : Value} {l : List Int} (h : Own w base v l) (hb : base' ≤ base) : Own w base' v l := by
  refine ⟨h.1, ?_⟩
  rcases h.2 with h1 | ⟨g, cap, cur, rfl, hbg, hg, rest⟩
  · exact .inl h1
  · exact .inr ⟨g, cap, cur, rfl, Nat.le_trans hb hbg, hg, rest⟩
theorem Own.parts {w : World} {base : Nat} {v : Value} {l : List Int} (h : Own w base v l) : (l = [] ∧ v = .slice none 0 0) ∨ ∃ g c, v = .slice (some ⟨g, 0, none⟩) l.length c ∧ base ≤ g ∧ g < w.heap.size ∧ l.length ≤ 9223372036854775807 ∧ ∀ j, j < l.length → w.cell? ⟨g, j, none⟩ = some (.int .i64 (l[j]?.getD 0)) := by
  have h0 := h
  rcases h.2 with ⟨h1, h2⟩ | ⟨g, cap, cur, rfl, hbg, hg, hn, hc, _⟩
  · exact .inl ⟨List.eq_nil_of_length_eq_zero h2, h1⟩
  · refine .inr ⟨g, cap, rfl, hbg, ?_, by unfold maxLen at hc; omega, fun j hj => ?_⟩
    · rcases Nat.lt_or_ge g w.heap.size with hlt | hlt
      · exact hlt
      · rw [Array.getElem?_eq_none hlt] at hg; cases hg
    · have := h0.cells (g := g) rfl j (.int .i64 (l[j]?.getD 0)) (by simp [hj])
      have e : (⟨g, 0, none⟩ : Addr).add j = ⟨g, j, none⟩ := by unfold Addr.add; split <;> simp_all
      rw [e] at this
      exact this
theorem Own.ints {w : World} {base : Nat} {v : Value} {l : List Int} (h : Own w base v l) : Ints w v l := by
  rcases h.parts with ⟨rfl, rfl⟩ | ⟨g, c, rfl, hbg, hlt, hm, hc⟩
  · exact .inl ⟨rfl, none, 0, rfl⟩
  · by_cases h0 : 0 < l.length
    · exact .inr ⟨g, 0, c, rfl, h0, hm, hlt, fun j hj => by simpa using hc j hj⟩
    · have : l = [] := List.eq_nil_of_length_eq_zero (by omega)
      subst this
      exact .inl ⟨rfl, _, _, rfl⟩
theorem int_info : (Tryz.prog.info? 3).map (fun i => (i.zero, i.size, i.bytes)) = some (some (.int .i64 0), 1, 8) := by kernel_rfl
theorem wp_append_int {ops : Array Oper} {rest : List Oper} {o : Oper} {a : Act} {w : World} {Q : Exit → Act → World → Prop} (hgd : o.guard = none) (s x : Operand)
    (ho : o.op = .call { callee := .builtin .append, args := #[s, x], argTypes := #[51, 51] })
    (base : Nat) (v : Value) (l : List Int) (hs : a.eval s = v) (hown : Own w base v l) (ad : Addr) (c : Nat) (y : Int) (hx : a.eval x = .slice (some ad) 1 c) (hy : w.cell? ad = some (.int .i64 y))
    (hl : l.length ≤ 100000000) (hbase : base ≤ w.heap.size)
    (h : ∀ v' w', Own w' base v' (l ++ [y]) → Below base w w' → wpList Tryz.prog ops Q rest (a.put o.dst v') w') : wpList Tryz.prog ops Q (o :: rest) a w := by
  obtain ⟨i0, hi, hz0, hz1, hz2⟩ := info_parts int_info
  refine wpList_append_own w hgd s x 51 ho base 3 i0 (.int .i64 0) 1 8 Tryz.underlying51 hi hz0 hz1 hz2 rfl (by decide) v l.length (l.map (Value.int .i64)) hs hown ad 1 c [.int .i64 y] hx rfl ?_ ?_ (by unfold maxLen; omega) (by omega) hbase ?_
  · intro j u hj
    match j, hj with
    | 0, hj => simp at hj; subst hj; simpa [Addr.add] using hy
  · intro u hu; simp at hu; subst hu; rfl
  · intro v' w' h1 h2 h3
    refine h v' w' ?_ ?_
    · unfold Own; rw [List.length_append, List.map_append]; exact h1
    · exact (Below.refl base w).grown h2 hbase (fun k hk => (hown.lt k hk).1)
theorem step_append_int {ops : Array Oper} {o : Oper} {a : Act} {w : World} {K : Act → World → Prop} {Q : Exit → Act → World → Prop} {E : Prop} (hgd : o.guard = none) (s x : Operand)
    (ho : o.op = .call { callee := .builtin .append, args := #[s, x], argTypes := #[51, 51] })
    (base : Nat) (v : Value) (l : List Int) (hs : a.eval s = v) (hown : Own w base v l) (ad : Addr) (c : Nat) (y : Int) (hx : a.eval x = .slice (some ad) 1 c) (hy : w.cell? ad = some (.int .i64 y))
    (hl : l.length ≤ 100000000) (hbase : base ≤ w.heap.size)
    (h : ∀ v' w', Own w' base v' (l ++ [y]) → Below base w w' → K (a.put o.dst v') w') : if Region.wanted o (yielded ops a.tmps) = true then Oper.wp Tryz.prog o a w K Q else E := by
  have hw : Region.wanted o (yielded ops a.tmps) = true := by simp [Region.wanted, hgd]
  rw [if_pos hw]
  obtain ⟨i0, hi, hz0, hz1, hz2⟩ := info_parts int_info
  refine wp_append_own w s x 51 ho base 3 i0 (.int .i64 0) 1 8 Tryz.underlying51 hi hz0 hz1 hz2 rfl (by decide) v l.length (l.map (Value.int .i64)) hs hown ad 1 c [.int .i64 y] hx rfl ?_ ?_ (by unfold maxLen; omega) (by omega) hbase ?_
  · intro j u hj
    match j, hj with
    | 0, hj => simp at hj; subst hj; simpa [Addr.add] using hy
  · intro u hu; simp at hu; subst hu; rfl
  · intro v' w' h1 h2 h3
    refine h v' w' ?_ ?_
    · unfold Own; rw [List.length_append, List.map_append]; exact h1
    · exact (Below.refl base w).grown h2 hbase (fun k hk => (hown.lt k hk).1)
structure Bo where
  a : Int
  b : Int
  c : Int
  d : Int
  deriving DecidableEq
def boQ (F : Fl) : Bo := if rdE F true = 0 then ⟨lowN1 (1000 * (knR F).hi.d) (knR F).hi.n, lowN2 (1000 * (knR F).hi.d) (knR F).hi.n, lowN1 (1000 * (knR F).lo.d) (knR F).lo.n, lowN2 (1000 * (knR F).lo.d) (knR F).lo.n⟩ else ⟨0, 0, 0, 0⟩
theorem boV_Q (F : Fl) : boV F = .tuple #[.agg #[.int .i64 (boQ F).a, .int .i64 (boQ F).b], .agg #[.int .i64 (boQ F).c, .int .i64 (boQ F).d], .int .i64 (rdE F true)] := by
  unfold boV boQ
  by_cases h : rdE F true = 0
  · rw [if_pos h, if_pos h, h]
  · rw [if_neg h, if_neg h]
def reB (F : Fl) (i : Nat) : Bool := decide (boQ (woF F i) ≠ boQ F)
def reL (F : Fl) (k : Nat) : List Int := ((List.range k).filter (reB F)).map fun (i : Nat) => (i : Int)
theorem reL_t {F : Fl} {k : Nat} (h : reB F k = true) : reL F (k + 1) = reL F k ++ [(k : Int)] := by simp [reL, List.range_succ, List.filter_append, h]
theorem reL_f {F : Fl} {k : Nat} (h : reB F k = false) : reL F (k + 1) = reL F k := by simp [reL, List.range_succ, List.filter_append, h]
theorem reL_len (F : Fl) (k : Nat) : (reL F k).length ≤ k := by
  unfold reL
  rw [List.length_map]
  exact Nat.le_trans (List.length_filter_le _ _) (by rw [List.length_range]; exact Nat.le_refl _)
def RePost (F : Fl) (base : Nat) (e : Ending) (w' : World) : Prop :=
  (rdE F true ≠ 0 ∧ e = .returned (.tuple #[.slice none 0 0, .int .i64 (rdE F true)])) ∨
  (rdE F true = 0 ∧ ∃ v, e = .returned (.tuple #[v, .int .i64 0]) ∧ Own w' base v (reL F F.s.length))
set_option maxRecDepth 100000 in
set_option maxHeartbeats 4000000 in
theorem Rests_any (F : Fl) (vv vs : Value) (w : World) (hF : FlIn w F vv vs) : Calls Tryz.prog 55 #[flV F vv vs] w fun e w' => RePost F w.heap.size e w' ∧ Below w.heap.size w w' := by
  have hO := Bounds_any F vv vs _ (hF.alloc (flO F vv vs))
  have HF := Lib.hid hF
  have B1 := Lib.hid (Bk.new w 30 [vv, .int .i64 F.f.lv, .int .i64 F.f.er, .int .i64 F.wlo, .int .i64 F.whi, vs])
  obtain ⟨os, cs, rfl, ms⟩ := hF.s.parts
  obtain ⟨ov, cv, rfl, mv⟩ := hF.v.parts
  rw [boV_Q] at hO
  have hbd := rdE_bd F true
  by_cases h0 : rdE F true = 0
  · have hok := rdE_ok h0
    have n24 := hok.n
    have hv24 : F.v.length ≤ 24 := by have := hok.v; simp only [okVs, Bool.and_eq_true, decide_eq_true_eq] at this; exact this.1.2
    rw [h0] at hO
    have H0 := Lib.hid h0
    obtain ⟨q, hq⟩ : ∃ q, boQ F = q := ⟨_, rfl⟩
    obtain ⟨l1, l2, l3, l4⟩ := q
    rw [hq] at hO
    have HQ1 := Lib.hid hq
    have HO := Lib.hid hO
    clear hO hF hok hq h0 hbd
    go_enter Tryz.func55, Tryz.ntmps55
    go_wp2_with fail
    refine HO.out.mono ?_
    rintro e w1 ⟨rfl, hb1⟩
    have hbw := bafter hb1
    have h1 := B1.out.below hb1
    obtain ⟨W, hWW⟩ : ∃ W, (w1.alloc (Obj.cells #[.int .i64 l1, .int .i64 l2] 41)).alloc (Obj.cells #[.int .i64 l3, .int .i64 l4] 41) = W := ⟨_, rfl⟩
    have h1W : Below w1.heap.size w1 W := by rw [← hWW]; exact (ballo _ _).alloc (by simp) _
    have hr1 : Bk W w1.heap.size 41 [.int .i64 l1, .int .i64 l2] := by rw [← hWW]; exact (Bk.new w1 _ [_, _]).alloc _
    have hr2 : Bk W (w1.heap.size + 1) 41 [.int .i64 l3, .int .i64 l4] := by rw [← hWW]; exact Bk.new1 w1 _ _ [_, _]
    have c0 := (h1.below h1W).cell 5
    have c1 := (h1.below h1W).lt
    simp only [List.getElem?_cons_zero, List.getElem?_cons_succ] at c0
    have HBW := Lib.hid (bthen hbw h1W)
    have HR1 := Lib.hid hr1
    have HR2 := Lib.hid hr2
    have HB1 := Lib.hid (h1.below h1W)
    have d5 := h1.cell 5
    have d6 := h1.lt
    simp only [List.getElem?_cons_zero, List.getElem?_cons_succ] at d5
    obtain ⟨L, hL⟩ : ∃ k, F.s.length = k := ⟨_, rfl⟩
    have HL := Lib.hid hL
    rw [hL] at c0 n24 d5
    clear hb1 hbw h1 h1W hr1 hr2 HO B1 hL d5
    go_wp2_with fail
    try rw [hWW]
    clear hWW
    go_loopw [7, 24] (fun v i wr => ∃ k : Nat, k ≤ L ∧ i = .int .i64 (k : Int) ∧ Below W.heap.size W wr ∧ Hid (wr.ownsRow W.heap.size 3 1 v (reL F k).length ((reL F k).map (Value.int .i64)))) (fun _ i _ => L - (intOf i).toNat)
    case atStart => exact ⟨0, Nat.zero_le _, rfl, Below.refl _ _, World.ownsRow_nil _ _ _ _⟩
    case round =>
      obtain ⟨k, hk, rfl, hbl, hown⟩ := hrel
      have hszr := hbl.size
      by_cases hkL : k < L
      · have hbf := HB1.out.below hbl
        have hFr := HF.out.below (HBW.out.trans (hbl.mono HBW.out.size))
        have HW := Lib.hid (wout_any F _ _ k wr hFr (by rw [HL.out]; exact hkL) (by rw [HL.out]; omega) (by omega))
        have HBF := Lib.hid hbf
        have HBL := Lib.hid hbl
        have HOWN := Lib.hid hown.out
        clear hbf hFr hbl hown
        go_wp2_with (first | (refine ld_at rfl (T := 30) rfl rfl HBF.out Tryz.underlying30 rfl (by kernel_rfl) ?_) | fail)
        refine HW.out.mono ?_
        rintro e w2 ⟨vv', vs', rfl, hb2, hown2⟩
        have hO := Bounds_any (woF F k) vv' vs' w2 hown2.in_
        rw [boV_Q] at hO
        obtain ⟨er, her⟩ : ∃ x, rdE (woF F k) true = x := ⟨_, rfl⟩
        rw [her] at hO
        obtain ⟨q, hq⟩ : ∃ q, boQ (woF F k) = q := ⟨_, rfl⟩
        obtain ⟨a1, a2, a3, a4⟩ := q
        rw [hq] at hO
        have HQ2 := Lib.hid hq
        have HO := Lib.hid hO
        have HB2 := Lib.hid hb2
        obtain ⟨x1, n1', hx1, _⟩ := hown2.v.row.parts
        obtain ⟨x4, n4, hx4, _⟩ := hown2.s.row.parts
        subst hx1 hx4
        clear hO hq her hb2 hown2
        go_wp2_with fail
        refine HO.out.mono ?_
        rintro e w3 ⟨rfl, hb3⟩
        have hb23 := bthen HB2.out hb3
        have HOWN3 := owns_below HOWN.out hb23
        have hz3 := hb23.size
        obtain ⟨w5, hw5⟩ : ∃ V, (w3.alloc (Obj.cells #[.int .i64 a1, .int .i64 a2] 41)).alloc (Obj.cells #[.int .i64 a3, .int .i64 a4] 41) = V := ⟨_, rfl⟩
        have h35 : Below w3.heap.size w3 w5 := by rw [← hw5]; exact (ballo _ _).alloc (by simp) _
        have hp1 : Bk w5 w3.heap.size 41 [.int .i64 a1, .int .i64 a2] := by rw [← hw5]; exact (Bk.new w3 _ [_, _]).alloc _
        have hp2 : Bk w5 (w3.heap.size + 1) 41 [.int .i64 a3, .int .i64 a4] := by rw [← hw5]; exact Bk.new1 w3 _ _ [_, _]
        have HOWN5 := Lib.hid (owns_below HOWN3 h35)
        have hb5 := HBL.out.trans ((bthen hb23 h35).mono hszr)
        have hb53 := HBL.out.trans (hb23.mono hszr)
        have r1 := HR1.out.below hb53
        have r2 := HR2.out.below hb53
        have z1 := r1.cell 0
        have z2 := r1.cell 1
        have z3 := r2.cell 0
        have z4 := r2.cell 1
        have z5 := r1.lt
        have z6 := r2.lt
        simp only [List.getElem?_cons_zero, List.getElem?_cons_succ] at z1 z2 z3 z4
        have HB5 := Lib.hid hb5
        have hz5 := hb5.size
        clear hb23 hb3 h35 hp1 hp2 hb5 hb53 r1 r2 HOWN3 HOWN HO HW HBF
        subst hw5
        by_cases e1 : a1 = l1
        · have q1 : (a1 == l1) = true := by simp [e1]
          by_cases e2 : a2 = l2
          · have q2 : (a2 == l2) = true := by simp [e2]
            by_cases e3 : a3 = l3
            · have q3 : (a3 == l3) = true := by simp [e3]
              by_cases e4 : a4 = l4
              · have HRE := Lib.hid (reL_f (show reB F k = false by unfold reB; rw [HQ1.out, HQ2.out]; simp [e1, e2, e3, e4]))
                have q4 : (a4 == l4) = true := by simp [e4]
                clear e1 e2 e3 e4
                go_wp2_with fail
                refine ⟨⟨k + 1, by omega, by go_num, HB5.out, ?_⟩, by simp [intOf]; omega⟩
                refine Lib.hid ?_
                rw [HRE.out]
                exact HOWN5.out
              · have q4 : (a4 == l4) = false := by simp [e4]
                have HRE := Lib.hid (reL_t (show reB F k = true by unfold reB; rw [HQ1.out, HQ2.out]; simp [e4]))
                have HLEN := Lib.hid (reL_len F k)
                have HE := Lib.hid e4
                have hk3 := Bk.new ((w3.alloc (Obj.cells #[.int .i64 a1, .int .i64 a2] 41)).alloc (Obj.cells #[.int .i64 a3, .int .i64 a4] 41)) 3 [.int .i64 (k : Int)]
                rw [show ((w3.alloc (Obj.cells #[.int .i64 a1, .int .i64 a2] 41)).alloc (Obj.cells #[.int .i64 a3, .int .i64 a4] 41)).heap.size = w3.heap.size + 2 from by simp] at hk3
                have HK3 := Lib.hid hk3
                clear hk3
                clear e4
                try clear e1
                try clear e2
                try clear e3
                go_wp2_with (with_reducible refine list_own Tryz.underlying51 int_el (by decide) (by decide) rfl (.tmp 43) (.tmp 45) rfl W.heap.size _ _ _ rfl (owns_below HOWN5.out (ballo _ _)) ⟨w3.heap.size + 2, 0, none⟩ _ [.int .i64 (k : Int)] rfl rfl (news_bk HK3.out) ?_ ?_ ?_ ?_)
                · intro u hu; simp at hu; subst hu; rfl
                · have := HLEN.out; omega
                · simp; omega
                intro g c w8 hown8 hb8 hg8 hh8
                go_wp2_with fail
                refine ⟨⟨k + 1, by omega, by go_num, HB5.out.trans ((ballo _ _).mono (by omega) |>.trans hb8), ?_⟩, by simp [intOf]; omega⟩
                refine Lib.hid ?_
                rw [HRE.out, List.length_append, List.map_append]
                exact hown8
            · have q3 : (a3 == l3) = false := by simp [e3]
              have HRE := Lib.hid (reL_t (show reB F k = true by unfold reB; rw [HQ1.out, HQ2.out]; simp [e3]))
              have HLEN := Lib.hid (reL_len F k)
              have HE := Lib.hid e3
              have hk3 := Bk.new ((w3.alloc (Obj.cells #[.int .i64 a1, .int .i64 a2] 41)).alloc (Obj.cells #[.int .i64 a3, .int .i64 a4] 41)) 3 [.int .i64 (k : Int)]
              rw [show ((w3.alloc (Obj.cells #[.int .i64 a1, .int .i64 a2] 41)).alloc (Obj.cells #[.int .i64 a3, .int .i64 a4] 41)).heap.size = w3.heap.size + 2 from by simp] at hk3
              have HK3 := Lib.hid hk3
              clear hk3
              clear e3
              try clear e1
              try clear e2
              try clear e3
              go_wp2_with (with_reducible refine list_own Tryz.underlying51 int_el (by decide) (by decide) rfl (.tmp 43) (.tmp 45) rfl W.heap.size _ _ _ rfl (owns_below HOWN5.out (ballo _ _)) ⟨w3.heap.size + 2, 0, none⟩ _ [.int .i64 (k : Int)] rfl rfl (news_bk HK3.out) ?_ ?_ ?_ ?_)
              · intro u hu; simp at hu; subst hu; rfl
              · have := HLEN.out; omega
              · simp; omega
              intro g c w8 hown8 hb8 hg8 hh8
              go_wp2_with fail
              refine ⟨⟨k + 1, by omega, by go_num, HB5.out.trans ((ballo _ _).mono (by omega) |>.trans hb8), ?_⟩, by simp [intOf]; omega⟩
              refine Lib.hid ?_
              rw [HRE.out, List.length_append, List.map_append]
              exact hown8
          · have q2 : (a2 == l2) = false := by simp [e2]
            have HRE := Lib.hid (reL_t (show reB F k = true by unfold reB; rw [HQ1.out, HQ2.out]; simp [e2]))
            have HLEN := Lib.hid (reL_len F k)
            have HE := Lib.hid e2
            have hk3 := Bk.new ((w3.alloc (Obj.cells #[.int .i64 a1, .int .i64 a2] 41)).alloc (Obj.cells #[.int .i64 a3, .int .i64 a4] 41)) 3 [.int .i64 (k : Int)]
            rw [show ((w3.alloc (Obj.cells #[.int .i64 a1, .int .i64 a2] 41)).alloc (Obj.cells #[.int .i64 a3, .int .i64 a4] 41)).heap.size = w3.heap.size + 2 from by simp] at hk3
            have HK3 := Lib.hid hk3
            clear hk3
            clear e2
            try clear e1
            try clear e2
            try clear e3
            go_wp2_with (with_reducible refine list_own Tryz.underlying51 int_el (by decide) (by decide) rfl (.tmp 43) (.tmp 45) rfl W.heap.size _ _ _ rfl (owns_below HOWN5.out (ballo _ _)) ⟨w3.heap.size + 2, 0, none⟩ _ [.int .i64 (k : Int)] rfl rfl (news_bk HK3.out) ?_ ?_ ?_ ?_)
            · intro u hu; simp at hu; subst hu; rfl
            · have := HLEN.out; omega
            · simp; omega
            intro g c w8 hown8 hb8 hg8 hh8
            go_wp2_with fail
            refine ⟨⟨k + 1, by omega, by go_num, HB5.out.trans ((ballo _ _).mono (by omega) |>.trans hb8), ?_⟩, by simp [intOf]; omega⟩
            refine Lib.hid ?_
            rw [HRE.out, List.length_append, List.map_append]
            exact hown8
        · have q1 : (a1 == l1) = false := by simp [e1]
          have HRE := Lib.hid (reL_t (show reB F k = true by unfold reB; rw [HQ1.out, HQ2.out]; simp [e1]))
          have HLEN := Lib.hid (reL_len F k)
          have HE := Lib.hid e1
          have hk3 := Bk.new ((w3.alloc (Obj.cells #[.int .i64 a1, .int .i64 a2] 41)).alloc (Obj.cells #[.int .i64 a3, .int .i64 a4] 41)) 3 [.int .i64 (k : Int)]
          rw [show ((w3.alloc (Obj.cells #[.int .i64 a1, .int .i64 a2] 41)).alloc (Obj.cells #[.int .i64 a3, .int .i64 a4] 41)).heap.size = w3.heap.size + 2 from by simp] at hk3
          have HK3 := Lib.hid hk3
          clear hk3
          clear e1
          try clear e1
          try clear e2
          try clear e3
          go_wp2_with (with_reducible refine list_own Tryz.underlying51 int_el (by decide) (by decide) rfl (.tmp 43) (.tmp 45) rfl W.heap.size _ _ _ rfl (owns_below HOWN5.out (ballo _ _)) ⟨w3.heap.size + 2, 0, none⟩ _ [.int .i64 (k : Int)] rfl rfl (news_bk HK3.out) ?_ ?_ ?_ ?_)
          · intro u hu; simp at hu; subst hu; rfl
          · have := HLEN.out; omega
          · simp; omega
          intro g c w8 hown8 hb8 hg8 hh8
          go_wp2_with fail
          refine ⟨⟨k + 1, by omega, by go_num, HB5.out.trans ((ballo _ _).mono (by omega) |>.trans hb8), ?_⟩, by simp [intOf]; omega⟩
          refine Lib.hid ?_
          rw [HRE.out, List.length_append, List.map_append]
          exact hown8
      · have hk2 : k = L := by omega
        have HB8 := Lib.hid (HBW.out.trans (hbl.mono HBW.out.size))
        have HOWN := Lib.hid hown.out
        clear hown hbl
        go_wp2_with fail
        subst hk2
        refine bodyPost_ret (results_tmp2 rfl _ _ _) rfl ⟨Or.inr ⟨H0.out, _, rfl, ?_⟩, HB8.out⟩
        rw [HL.out]
        exact Own.mono HOWN.out HBW.out.size
  · rw [boQ, if_neg h0] at hO
    have HO := Lib.hid hO
    have H0 := Lib.hid h0
    have g0 : (rdE F true == 0) = false := by simp [h0]
    clear hO hF h0
    go_enter Tryz.func55, Tryz.ntmps55
    go_wp2_with fail
    refine HO.out.mono ?_
    rintro e w1 ⟨rfl, hb1⟩
    have hbw := bafter hb1
    have h1 := B1.out.below hb1
    have HBW := Lib.hid hbw
    have h3 := hbw.size
    clear hb1 hbw h1 HO B1
    go_wp2_with fail
    refine bodyPost_ret (results_tmp2 rfl _ _ _) rfl ⟨Or.inl ⟨H0.out, rfl⟩, HBW.out.trans (((ballo _ _).alloc (by simp) _).mono h3)⟩
theorem knR_eq {F : Fl} (hc : canI F (allL F) = true) : knR F = solvedW F (allL F) := by
  have h := hc
  unfold canI at h
  have he : (solvedW F (allL F)).e = false := by
    unfold Rn.some at h
    cases h1 : (solvedW F (allL F)).e with
    | false => rfl
    | true => rw [h1] at h; simp at h
  unfold knR solW
  show (⟨(solvedW F (allL F)).lo, (solvedW F (allL F)).hi, !(solvedW F (allL F)).some⟩ : Rn) = solvedW F (allL F)
  rw [h]
  cases h2 : solvedW F (allL F) with
  | mk lo hi e => rw [h2] at he; simp at he; subst he; rfl
theorem unB_eq {F : Fl} (hc : canI F (allL F) = true) (x m : Int) : unB F x m = unM F (allL F) x m := by
  unfold unB solW unM canM moreW
  rw [knR_eq hc]
  simp [lows, ups, lnT]
theorem ovB_eq {F : Fl} (hc : canI F (allL F) = true) (x m : Int) : ovB F x m = ovM F (allL F) x m := by
  unfold ovB solW ovM canM moreW
  rw [knR_eq hc]
  simp [lows, ups, lnT]
theorem evB_eq {F : Fl} (hc : canI F (allL F) = true) (x m : Int) : evB F x m = evM F (allL F) x m := by
  unfold evB solW evM canM moreW
  rw [knR_eq hc]
  simp [lows, ups, lnT]
def exF : Fl := ⟨[⟨100, 500, 200⟩], ⟨100, 0⟩, 500, 2000, [⟨90, 100, ⟨50, 0⟩⟩]⟩
def exG : Fl := ⟨[⟨100, 500, 200⟩], ⟨100, 0⟩, 500, 2000, [⟨90, 100, ⟨50, 0⟩⟩, ⟨100, 100, ⟨60, 1⟩⟩]⟩
theorem exP1 : (okFl exF && canI exF (allL exF)) = true := by decide +kernel
theorem exP2 : chkF exF = 0 := by decide +kernel
theorem exBo : boV exF = .tuple #[.agg #[.int .i64 900, .int .i64 1], .agg #[.int .i64 1000, .int .i64 1], .int .i64 0] := by kernel_rfl
theorem exRe : reV exF 25 = .tuple #[.agg #[.int .i64 135, .int .i64 150], .int .i64 0] := by kernel_rfl
theorem exLe : leV exF 90 = .tuple #[.agg #[.int .i64 50, .int .i64 55], .int .i64 0] := by kernel_rfl
theorem exSe : seV exF 0 = .tuple #[.agg #[.int .i64 90, .int .i64 100], .int .i64 0] := by kernel_rfl
theorem exSk : skV exF 60 50 = .tuple #[.agg #[.int .i64 18, .int .i64 20], .int .i64 0] := by kernel_rfl
theorem exSu : suV exF 0 199 = .tuple #[.bool false, .int .i64 0] := by kernel_rfl
theorem exEv : evV exF 0 180 = .tuple #[.bool true, .int .i64 0] := by kernel_rfl
theorem exCc : ccV exF 950 1 (-1) = 0 := by decide +kernel
theorem exRd : rdE exF true = 0 := by decide +kernel
theorem exRs : reL exF 1 = [0] := by decide +kernel
theorem exCk : ckV exG [0, 1] = 0 := by decide +kernel
theorem exCl : ckV exG [-1, 0, 1] = 32 := by decide +kernel
theorem exGo : okFl exG = true := by decide +kernel
theorem exGc : canI exG (allL exG) = false := by decide +kernel
def subs : List Int → List (List Int)
  | [] => [[]]
  | x :: l => subs l ++ (subs l).map (x :: ·)
theorem mem_subs {L l : List Int} (h : L.Sublist l) : L ∈ subs l := by
  induction h with
  | slnil => simp [subs]
  | cons x _ ih => simp [subs, ih]
  | cons_cons x _ ih => simp [subs, ih]
theorem exGm : ((subs (allL exG)).filter fun L => !canI exG L && (List.range L.length).all fun k => canI exG (butL L k)) = [[0, 1]] := by decide +kernel
theorem exGl {L : List Int} (h : ClOk exG L) : L = [0, 1] := by
  have h1 : L ∈ (subs (allL exG)).filter fun L => !canI exG L && (List.range L.length).all fun k => canI exG (butL L k) := by
    rw [List.mem_filter]
    refine ⟨mem_subs h.sub, ?_⟩
    simp only [h.no, Bool.not_false, Bool.true_and, List.all_eq_true, List.mem_range]
    exact h.min
  rw [exGm] at h1
  simpa using h1
theorem equal_any (v1 v2 : Value) (l1 l2 : List Int) (w : World) (h1 : Ints w v1 l1) (h2 : Ints w v2 l2) (m1 : l1.length ≤ 9223372036854775807) (m2 : l2.length ≤ 9223372036854775807) :
    Calls Tryz.prog 42 #[v1, v2] w fun e w' => e = .returned (.bool (l1 == l2)) ∧ Below w.heap.size w w' := by
  obtain ⟨o1, n1, c1, rfl, e1, _⟩ := h1.parts
  obtain ⟨o2, n2, c2, rfl, e2, _⟩ := h2.parts
  have e1 := e1.out
  have e2 := e2.out
  by_cases hn : n1 = n2
  · by_cases h0 : n1 = 0
    · subst hn
      subst h0
      have a1 : l1 = [] := List.eq_nil_of_length_eq_zero e1
      have a2 : l2 = [] := List.eq_nil_of_length_eq_zero e2
      subst a1 a2
      exact (Go.Proofs.Tryz.slices_Equal_int_empty o1 o2 c1 0 c2 w (by omega)).mono fun e w' ⟨he, hw⟩ => ⟨he, by subst hw; exact Below.refl _ _⟩
    · obtain ⟨b1, f1, rfl, _, k1⟩ := h1.cells (by omega)
      obtain ⟨b2, f2, rfl, _, k2⟩ := h2.cells (by omega)
      have := Go.Proofs.Tryz.slices_Equal_int b1 f1 n1 c1 b2 f2 n2 c2 l1 l2 w (by omega) (by omega) (by omega) (by omega) (fun j hj => by rw [k1 j (by omega)]; simp [List.getD]) (fun j hj => by rw [k2 j (by omega)]; simp [List.getD])
      rw [show l1.take n1 = l1 by rw [← e1]; simp, show l2.take n2 = l2 by rw [← e2]; simp] at this
      exact this.mono fun e w' ⟨he, q, hw⟩ => ⟨he, by subst hw; exact below_drewN (Below.refl _ _) q⟩
  · have := Go.Proofs.Tryz.slices_Equal_int_lens o1 o2 n1 c1 n2 c2 w hn
    have hne : (l1 == l2) = false := by
      rw [beq_eq_false_iff_ne]
      intro h; subst h; omega
    rw [hne]
    exact this.mono fun e w' ⟨he, hw⟩ => ⟨he, by subst hw; exact Below.refl _ _⟩
theorem look_any (x y : Int) (w : World) : Calls Tryz.prog 119 #[.int .i64 x, .int .i64 y] w fun e w' => e = .returned (.agg #[.int .i64 x, .int .i64 y]) ∧ Below w.heap.size w w' := by
  go_enter Tryz.func119, Tryz.ntmps119
  go_wp2_with fail
  exact bodyPost_ret (results_cell_row rfl _ _ w.heap.size _ _ (0, 0) _ rfl (Bk.new w _ [_, _]) Tryz.underlying25 rfl (by kernel_rfl)) rfl ⟨rfl, ballo _ _⟩
theorem seen_any (a b x y : Int) (w : World) : Calls Tryz.prog 68 #[.int .i64 a, .int .i64 b, .int .i64 x, .int .i64 y] w fun e w' => e = .returned (.agg #[.int .i64 a, .int .i64 b, .int .i64 x, .int .i64 y]) ∧ Below w.heap.size w w' := by
  have B0 := Lib.hid (Bk.new w 88 [.int .i64 0, .int .i64 0, .int .i64 0, .int .i64 0])
  go_enter Tryz.func68, Tryz.ntmps68
  go_wp2_with fail
  refine (look_any _ _ _).mono ?_
  rintro e w1 ⟨rfl, hb1⟩
  have HB := Lib.hid (bafter hb1)
  have HR := Lib.hid (B0.out.below hb1)
  clear hb1 B0
  go_wp2_with (refine st_at rfl (T := 88) rfl rfl (cs := [.int .i64 a, .int .i64 b, .int .i64 x, .int .i64 y]) rfl HR.out (by kernel_rfl) rfl rfl ?_; intro wk hkk hsk)
  exact bodyPost_ret (results_cell_row rfl _ _ w.heap.size _ _ (0, 0) _ rfl hkk Tryz.underlying88 rfl (by kernel_rfl)) rfl ⟨rfl, bes_then HB.out hsk (Nat.le_refl _) HB.out.size⟩
theorem row_one {w : World} {b k : Nat} {T : TypeId} {A : List Value} {f : Nat → Nat → Value} (h : Bk w b T A) (hf : ∀ j, j < k → A[j]? = some (f 0 j)) : Row w (.slice (some ⟨b, 0, none⟩) 1 1) k 1 f := by
  refine ⟨_, _, rfl, by decide, fun _ => ⟨b, 0, rfl, h.lt, fun i j hi hj => ?_⟩⟩
  obtain rfl : i = 0 := by omega
  rw [h.cell]
  simpa using hf j hj
theorem own_one {w : World} {b k base : Nat} {T : TypeId} {A : List Value} (h : Bk w b T A) (hk : A.length = k) (hb : base ≤ b) : w.ownsRow base T k (.slice (some ⟨b, 0, none⟩) 1 1) 1 A := by
  refine ⟨by omega, .inr ⟨b, 1, A.toArray, rfl, hb, h, by decide, by decide, by simp; omega, ?_⟩⟩
  simp [← hk]
theorem example_any (w : World) : Calls Tryz.prog 67 #[] w fun e w' => ∃ vv b, e = .returned (flV exF vv (.slice (some ⟨b, 0, none⟩) 1 1)) ∧ FlIn w' exF vv (.slice (some ⟨b, 0, none⟩) 1 1) ∧ Below w.heap.size w w' ∧ w.heap.size ≤ b ∧ Bk w' b 88 [.int .i64 90, .int .i64 100, .int .i64 50, .int .i64 0] := by
  have B0 := Lib.hid ((Bk.new w 30 flZ).alloc (Obj.cells #[.int .i64 100, .int .i64 500, .int .i64 200] 169))
  have B1 := Lib.hid (Bk.new1 w (Obj.cells flZ.toArray 30) 169 [.int .i64 100, .int .i64 500, .int .i64 200])
  go_enter Tryz.func67, Tryz.ntmps67
  go_wp2_with fail
  refine (look_any _ _ _).mono ?_
  rintro e w1 ⟨rfl, hb1⟩
  have HB := Lib.hid (bafter (bafter hb1))
  have HR := Lib.hid (B0.out.below hb1)
  have HS := Lib.hid (B1.out.below hb1)
  clear hb1 B0 B1
  go_wp2_with fail
  refine (seen_any _ _ _ _ _).mono ?_
  rintro e w2 ⟨rfl, hb2⟩
  have HB2 := Lib.hid (bthen HB.out hb2)
  have HR2 := Lib.hid (HR.out.below hb2)
  have HS2 := Lib.hid (HS.out.below hb2)
  have HB3 := Lib.hid (ballo w2 (Obj.cells #[.int .i64 90, .int .i64 100, .int .i64 50, .int .i64 0] 88))
  have HT3 := Lib.hid (Bk.new w2 88 [.int .i64 90, .int .i64 100, .int .i64 50, .int .i64 0])
  have hz := HR2.out.lt
  clear hb2 HB HR HS
  go_wp2_with (refine st_at rfl (T := 30) rfl rfl (cs := [.slice (some ⟨w.heap.size + 1, 0, none⟩) 1 1, .int .i64 100, .int .i64 0, .int .i64 500, .int .i64 2000, .slice (some ⟨w2.heap.size, 0, none⟩) 1 1]) rfl (HR2.out.below HB3.out) (by kernel_rfl) rfl rfl ?_; intro wk hkk hsk)
  refine bodyPost_ret (results_cell_row rfl _ _ w.heap.size _ _ (0, 0) _ rfl hkk Tryz.underlying30 rfl (by kernel_rfl)) rfl ⟨_, _, rfl, ⟨row_one ((HS2.out.below HB3.out).bes hsk (by omega)) ?_, row_one (HT3.out.bes hsk (by omega)) ?_⟩, bes_then (bthen HB2.out HB3.out) hsk (Nat.le_refl _) (Nat.le_trans HB2.out.size HB3.out.size), HB2.out.size, HT3.out.bes hsk (by omega)⟩
  · intro j hj
    have : j = 0 ∨ j = 1 ∨ j = 2 := by omega
    rcases this with rfl | rfl | rfl <;> rfl
  · intro j hj
    have : j = 0 ∨ j = 1 ∨ j = 2 ∨ j = 3 := by omega
    rcases this with rfl | rfl | rfl | rfl <;> rfl
def fewB (F : Fl) : Bool := decide (F.s.length ≤ 26) && decide (F.v.length ≤ 26)
theorem few_any (F : Fl) (vv vs : Value) (w : World) (hF : FlIn w F vv vs) : Calls Tryz.prog 19 #[flV F vv vs] w fun e w' => e = .returned (.bool (fewB F)) ∧ Below w.heap.size w w' := by
  obtain ⟨os, cs, rfl, ms⟩ := hF.s.parts
  obtain ⟨ov, cv, rfl, mv⟩ := hF.v.parts
  unfold fewB
  by_cases h1 : F.s.length ≤ 26
  · by_cases h2 : F.v.length ≤ 26
    all_goals
      go_enter Tryz.func19, Tryz.ntmps19
      go_wp2_with fail
      go_ret
      exact ⟨ret_bool (by simp [h1, h2] <;> omega), ballo _ _⟩
  · go_enter Tryz.func19, Tryz.ntmps19
    go_wp2_with fail
    go_ret
    exact ⟨ret_bool (by simp), ballo _ _⟩
end Go.Proofs.YtnfndiafabhhdaaGreat
