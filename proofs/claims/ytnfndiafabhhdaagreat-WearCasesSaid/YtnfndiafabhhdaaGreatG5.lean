/- Walk of the reference's Of: the lines and the numbers g of some items (Wear). -/
import Derived.Test.YtnfndiafabhhdaaGreatG4
namespace Go.Proofs.YtnfndiafabhhdaaGreat
open Go.ChangeShapes Go.WideShapes Go.ChangeAt Go.RowKit
theorem Item_any (F : Fl) (vv vs : Value) (i : Int) (w : World) (hF : FlIn w F vv vs) (hO : OkF F) (hi : -1 ≤ i ∧ i < F.s.length) :
    Calls Tryz.prog 148 #[flV F vv vs, .int .i64 i] w fun e w' => ∃ s, e = .returned s ∧ Below w.heap.size w w' ∧ OwnRl w' w.heap.size s (itemL F i) := by
  by_cases h : i = -1
  · subst h; exact Item_first F vv vs w hF hO
  · obtain ⟨k, rfl⟩ : ∃ k : Nat, i = k := ⟨i.toNat, by omega⟩
    exact Item_seen F vv vs k w hF hO (by omega)
theorem itemL_len (F : Fl) (i : Int) : 0 < (itemL F i).length ∧ (itemL F i).length ≤ 2 := by
  unfold itemL
  split
  · simp
  · split <;> simp
theorem rnR_snoc (F : Fl) (I : List Int) (i : Int) : rnR F (I ++ [i]) = if i = -2 then { rnR F I with lo := mxR (rnR F I).lo ⟨1000, F.whi, false⟩, hi := mnR (rnR F I).hi ⟨1000, F.wlo, false⟩ } else rnR F I := by
  simp [rnR, List.foldl_append]
theorem mxR_C {r : Rn} {b : Bd} (h : RnC r) (b0 : 0 < b.n) (b1 : b.n ≤ 480000000000) (b2 : 0 < b.d) (b3 : b.d ≤ 2097152000000) : RnC { r with lo := mxR r.lo b } := by
  have e : mxR r.lo b = b ∨ ∃ s, mxR r.lo b = ⟨r.lo.n, r.lo.d, s⟩ := by
    unfold mxR
    split
    · exact .inl rfl
    · split
      · exact .inr ⟨_, rfl⟩
      · exact .inr ⟨r.lo.s, rfl⟩
  rcases e with e | ⟨s, e⟩
  · exact ⟨by simp only [e]; exact b0, by simp only [e]; exact b1, by simp only [e]; exact b2, by simp only [e]; exact b3, h.c0, h.c1, h.d0, h.d1⟩
  · exact ⟨by simp only [e]; exact h.a0, by simp only [e]; exact h.a1, by simp only [e]; exact h.b0, by simp only [e]; exact h.b1, h.c0, h.c1, h.d0, h.d1⟩
theorem mnR_C {r : Rn} {b : Bd} (h : RnC r) (b0 : 0 < b.n) (b1 : b.n ≤ 480000000000) (b2 : 0 < b.d) (b3 : b.d ≤ 2097152000000) : RnC { r with hi := mnR r.hi b } := by
  have e : mnR r.hi b = b ∨ ∃ s, mnR r.hi b = ⟨r.hi.n, r.hi.d, s⟩ := by
    unfold mnR
    split
    · exact .inl rfl
    · split
      · exact .inr ⟨_, rfl⟩
      · exact .inr ⟨r.hi.s, rfl⟩
  rcases e with e | ⟨s, e⟩
  · exact ⟨h.a0, h.a1, h.b0, h.b1, by simp only [e]; omega, by simp only [e]; exact b1, by simp only [e]; exact b2, by simp only [e]; exact b3⟩
  · exact ⟨h.a0, h.a1, h.b0, h.b1, by simp only [e]; exact h.c0, by simp only [e]; exact h.c1, by simp only [e]; exact h.d0, by simp only [e]; exact h.d1⟩
theorem rnR_Cf {F : Fl} (h : OkF F) : ∀ (I : List Int) (r : Rn), RnC r → RnC (I.foldl (fun r i => if i = -2 then { r with lo := mxR r.lo ⟨1000, F.whi, false⟩, hi := mnR r.hi ⟨1000, F.wlo, false⟩ } else r) r)
  | [], _, k => k
  | i :: I, r, k => by
    have h1 := h.w1
    have h2 := h.w2
    have h3 := h.w3
    rw [List.foldl_cons]
    split
    · exact rnR_Cf h I _ (mnR_C (mxR_C k (by simp only; omega) (by simp only; omega) (by simp only; omega) (by simp only; omega)) (by simp only; omega) (by simp only; omega) (by simp only; omega) (by simp only; omega))
    · exact rnR_Cf h I _ k
theorem rnR_c {F : Fl} (h : OkF F) (I : List Int) : RnC (rnR F I) := rnR_Cf h I _ ⟨by decide, by decide, by decide, by decide, by decide, by decide, by decide, by decide⟩
theorem owns_bes' {w w' : World} {base : Nat} {E : TypeId} {k n : Nat} {v : Value} {xs : List Value} {b : Nat} (h : w.ownsRow base E k v n xs) (hb : Bes b w w') (hne : v.ownBlock ≠ some b) : w'.ownsRow base E k v n xs := by
  refine ⟨h.1, ?_⟩
  rcases h.2 with h1 | ⟨g, cap, cur, rfl, hbg, hg, rest⟩
  · exact .inl h1
  · refine .inr ⟨g, cap, cur, rfl, hbg, ?_, rest⟩
    have : g < w.heap.size := by
      rcases Nat.lt_or_ge g w.heap.size with hlt | hlt
      · exact hlt
      · rw [Array.getElem?_eq_none hlt] at hg; cases hg
    rw [hb.block g this (fun e => hne (by rw [e]; rfl)), hg]
theorem Bk.grown {w w' : World} {b : Nat} {T : TypeId} {A : List Value} {row : Option Nat} (h : Bk w b T A) (hg : w.grownBy w' row) (hne : row ≠ some b) : Bk w' b T A := by
  unfold Bk at h ⊢
  rw [hg.block b (Bk.lt h) (by
    cases row with
    | none => simp
    | some k => intro e; exact hne e.symm)]
  exact h
theorem step_rl {ops : Array Oper} {o : Oper} {a : Act} {w : World} {K : Act → World → Prop} {Q : Exit → Act → World → Prop} {X : Prop} (hgd : o.guard = none) (s x : Operand)
    (ho : o.op = .call { callee := .builtin .append, args := #[s, x], argTypes := #[127, 127] })
    (base : Nat) (v : Value) (L M : List (Ln × Bool)) (hs : a.eval s = v) (ht : OwnRl w base v L) (bx : Nat) (vx : Value) (hx : a.eval x = vx) (hM : OwnRl w bx vx M) (hm : 0 < M.length)
    (hn : L.length + M.length ≤ 100000000) (hbase : base ≤ w.heap.size)
    (h : ∀ (g c' : Nat) w', OwnRl w' base (.slice (some ⟨g, 0, none⟩) (L.length + M.length) c') (L ++ M) → Below base w w' → w.grownBy w' v.ownBlock → (v.ownBlock = some g ∨ g = w.heap.size) → K (a.put o.dst (.slice (some ⟨g, 0, none⟩) (L.length + M.length) c')) w') : if Region.wanted o (yielded ops a.tmps) = true then Oper.wp Tryz.prog o a w K Q else X := by
  have hw : Region.wanted o (yielded ops a.tmps) = true := by simp [Region.wanted, hgd]
  rw [if_pos hw]
  rcases hM.2 with ⟨_, h0⟩ | ⟨gx, cx, cur, rfl, hbg, hg, hnc, hcm, hsz, htk⟩
  · omega
  obtain ⟨i, z, hi, hz0, hz1, hz2, hz3⟩ := rline_el
  have hcells := hM.cells (g := gx) rfl
  have h1 : ∀ u ∈ rlL M, u.oneCell' = true := by
    intro u hu
    obtain ⟨y, _, hy⟩ := List.mem_flatMap.1 hu
    simp [rlC] at hy
    rcases hy with rfl | rfl | rfl | rfl | rfl <;> rfl
  have hmul : (L.length + M.length) * 32 ≤ (L.length + M.length) * 1000 := Nat.mul_le_mul_left _ (by decide)
  refine wp_append_lies w s x 127 ho base 139 i z 5 32 Tryz.underlying127 hi hz0 hz1 hz2 hz3 (by decide) v L.length (rlL L) hs ht ⟨gx, 0, none⟩ M.length cx (rlL M) hx (rlL_len M) hcells h1 hm (by unfold maxLen; omega) (by omega) hbase w.heap.size rfl ?_
  intro g cap w' k1 k2 k3 k4
  have e : (L ++ M).length = L.length + M.length := List.length_append
  have k1' : OwnRl w' base (.slice (some ⟨g, 0, none⟩) (L.length + M.length) cap) (L ++ M) := by
    unfold OwnRl rlL
    rw [e, List.flatMap_append]
    exact k1
  exact h g cap w' k1' ((Below.refl base w).grown k2 hbase (fun j hj => (ht.lt j hj).1)) k2 k3
abbrev r0R : Rn := ⟨⟨1000, 4000, false⟩, ⟨1000, 1, false⟩, false⟩
abbrev z7L : List Value := [.int .i64 0, .int .i64 0, .int .i64 0, .int .i64 0, .bool false, .bool false, .bool false]
structure OfI (F : Fl) (vv vs : Value) (w w1 wr : World) (xb : Nat) (I : List Int) (s : Value) : Prop where
  f : Bk wr w.heap.size 30 [vv, .int .i64 F.f.lv, .int .i64 F.f.er, .int .i64 F.wlo, .int .i64 F.whi, vs]
  z : Bk wr (w.heap.size + 1) 129 z7L
  x : Bk wr xb 129 (inC (rnR F I))
  o : OwnRl wr (w.heap.size + 2) s (linesL F I)
  n : s.ownBlock ≠ some xb
  b : Below w.heap.size w wr
  xb : w.heap.size + 2 ≤ xb
set_option maxRecDepth 100000 in
set_option maxHeartbeats 4000000 in
theorem Of_any (F : Fl) (vv vs vI : Value) (I : List Int) (w : World) (hF : FlIn w F vv vs) (hO : OkF F) (hI : Ints w vI I) (hIt : ItOk F I) (hn : I.length ≤ 1000) :
    Calls Tryz.prog 91 #[flV F vv vs, vI] w fun e w' => ∃ s, e = .returned (.tuple #[s, inV (rnR F I)]) ∧ Below w.heap.size w w' ∧ OwnRl w' (w.heap.size + 2) s (linesL F I) := by
  have hv := (okv_iff F.v).1 hO.v
  obtain ⟨os, cs, rfl, ms⟩ := hF.s.parts
  obtain ⟨ov, cv, rfl, mv⟩ := hF.v.parts
  obtain ⟨oi, n, ci, rfl, hl, mi⟩ := hI.parts
  have hn1 : n ≤ 1000 := by rw [← hl.out]; exact hn
  obtain ⟨ls, hls⟩ : ∃ n, F.s.length = n := ⟨_, rfl⟩
  obtain ⟨lv, hlv⟩ : ∃ n, F.v.length = n := ⟨_, rfl⟩
  rw [hls] at hF ms ⊢
  rw [hlv] at hF mv ⊢
  have hF0 := (hF.alloc (flO F (.slice ov lv cv) (.slice os ls cs))).alloc (Obj.cells z7L.toArray 129)
  have hB := (Bk.new w 30 [.slice ov lv cv, .int .i64 F.f.lv, .int .i64 F.f.er, .int .i64 F.wlo, .int .i64 F.whi, .slice os ls cs]).alloc (Obj.cells z7L.toArray 129)
  have hZ := Bk.new1 w (flO F (.slice ov lv cv) (.slice os ls cs)) 129 z7L
  have hFr := Frame_any F (.slice ov lv cv) _ hF0.v hv
  have HF := Lib.hid hF
  have HB := Lib.hid hB
  have HZ := Lib.hid hZ
  have HFr := Lib.hid hFr
  have HII := Lib.hid hI
  have HIT := Lib.hid hIt
  have HO := Lib.hid hO
  clear hFr hZ hB hF0 hF hI hIt hn hv hls hlv hO
  go_enter Tryz.func91, Tryz.ntmps91
  go_wp2_with fail
  refine HFr.out.mono ?_
  rintro e w1 ⟨s, rfl, hb1, hS⟩
  have hB1 := HB.out.below hb1
  have hZ1 := HZ.out.below hb1
  have hW1 : Below w.heap.size w w1 := bafter (bafter hb1)
  have hz2 : w.heap.size + 2 ≤ w1.heap.size := by have := hb1.size; simpa using this
  have hI1 : Hid (OfI F (.slice ov lv cv) (.slice os ls cs) w w1 (w1.alloc (Obj.cells #[.int .i64 1000, .int .i64 4000, .int .i64 1000, .int .i64 1, .bool false, .bool false, .bool false] 129)) w1.heap.size [] s) :=
    Lib.hid ⟨hB1.alloc _, hZ1.alloc _, Bk.new w1 _ (inC r0R), owns_below (by simpa [linesL] using hS) (ballo _ _), fun e => by have := (World.ownsRow.lt hS _ e).2; omega, hW1.alloc hW1.size _, hz2⟩
  obtain ⟨os0, ns0, cs0, rfl⟩ : ∃ o m c, s = .slice o m c := by
    obtain ⟨o, m, c, e, _⟩ := own_cap hS
    exact ⟨o, m, c, e⟩
  clear hB1 hZ1 hb1 hS HB HZ HFr
  go_wp2_with fail
  go_loopw [6, 8] (fun l i wr => ∃ k : Nat, k ≤ n ∧ i = .int .i64 (k : Int) ∧ Hid (OfI F (.slice ov lv cv) (.slice os ls cs) w w1 wr w1.heap.size (I.take k) l)) (fun _ i _ => n - (intOf i).toNat)
  case atStart => exact ⟨0, Nat.zero_le _, rfl, hI1⟩
  case round =>
    obtain ⟨k, hk, rfl, HI⟩ := hrel
    by_cases h0 : k < n
    · obtain ⟨bi, fi, rfl, hbi, hci⟩ := HII.out.cells (by omega)
      have d0 := (HI.out.b.cell (p := ⟨bi, fi + k, none⟩) hbi).trans (hci k h0)
      obtain ⟨i, hi⟩ : ∃ i, I[k]?.getD 0 = i := ⟨_, rfl⟩
      rw [hi] at d0
      have hkI : k < I.length := by rw [hl.out]; exact h0
      have htk := take_snoc hkI hi
      have hmem : i ∈ I := by rw [← hi, List.getElem?_eq_getElem hkI, Option.getD_some]; exact List.getElem_mem hkI
      have hii := HIT.out i hmem
      have HTK := Lib.hid htk
      clear hci htk hi hmem
      have hbw : bi < wr.heap.size := Nat.lt_of_lt_of_le hbi HI.out.b.size
      have c0 := HI.out.f.cell 0
      have c1 := HI.out.f.cell 1
      have c2 := HI.out.f.cell 2
      have c3 := HI.out.f.cell 3
      have c4 := HI.out.f.cell 4
      have c5 := HI.out.f.cell 5
      have cl := HI.out.f.lt
      have x0 := HI.out.x.cell 0
      have x1 := HI.out.x.cell 1
      have x2 := HI.out.x.cell 2
      have x3 := HI.out.x.cell 3
      have x4 := HI.out.x.cell 4
      have x5 := HI.out.x.cell 5
      have x6 := HI.out.x.cell 6
      have xl := HI.out.x.lt
      simp only [inC, List.getElem?_cons_zero, List.getElem?_cons_succ] at c0 c1 c2 c3 c4 c5 x0 x1 x2 x3 x4 x5 x6
      have xbl := HI.out.xb
      obtain ⟨R, hR⟩ : ∃ R, rnR F (I.take k) = R := ⟨_, rfl⟩
      have hC : RnC R := by rw [← hR]; exact rnR_c HO.out _
      have HR := Lib.hid hR
      have hx := HI.out.x
      rw [hR] at x0 x1 x2 x3 x4 x5 x6 hx
      clear hR
      by_cases hw : i = -2
      · subst hw
        have w1b := HO.out.w1
        have w2b := HO.out.w2
        have w3b := HO.out.w3
        have hz := HI.out.b.size
        go_wp2_with fail
        refine (atLeast_any R ⟨1000, F.whi, false⟩ _ hC.lo ⟨by simp only; omega, by simp only; omega, by simp only; omega, by simp only; omega⟩).mono ?_
        rintro e w2 ⟨rfl, hb2⟩
        have hx2 := hx.below hb2
        have hf2 := HI.out.f.below hb2
        have hC1 : RnC { R with lo := mxR R.lo ⟨1000, F.whi, false⟩ } := mxR_C hC (by simp only; omega) (by simp only; omega) (by simp only; omega) (by simp only; omega)
        obtain ⟨R1, hR1⟩ : ∃ R1, ({ R with lo := mxR R.lo ⟨1000, F.whi, false⟩ } : Rn) = R1 := ⟨_, rfl⟩
        rw [hR1] at hC1
        have hlo : R1.lo = mxR R.lo ⟨1000, F.whi, false⟩ := by rw [← hR1]
        have hhi : R1.hi = R.hi := by rw [← hR1]
        have HR1 := Lib.hid hR1
        have HLO := Lib.hid hlo
        have HHI := Lib.hid hhi
        have e1 : inV { R with lo := mxR R.lo ⟨1000, F.whi, false⟩ } = inV R1 := by rw [hR1]
        rw [e1]
        have HX2 := Lib.hid hx2
        have HF2 := Lib.hid hf2
        clear hR1 hlo hhi e1 x0 x1 x2 x3 x4 x5 x6 c0 c1 c2 c3 c4 c5 d0 hx hx2 hf2
        go_wp2_with (first | (refine ld_at rfl (T := 129) rfl rfl hkk Tryz.underlying129 rfl (by kernel_rfl) ?_) | (refine st_at rfl (T := 129) rfl rfl (cs := inC R1) rfl HX2.out (by kernel_rfl) rfl rfl ?_; intro wk hkk hsk; have hfk := HF2.out.bes hsk (by omega); have c3 := hfk.cell 3; have cl := hfk.lt; simp only [List.getElem?_cons_zero, List.getElem?_cons_succ] at c3))
        refine (atMost_any R1 ⟨1000, F.wlo, false⟩ _ hC1.hi ⟨by simp only; omega, by simp only; omega, by simp only; omega, by simp only; omega⟩).mono ?_
        rintro e w3 ⟨rfl, hb3⟩
        have hx3 := hkk.below hb3
        obtain ⟨R2, hR2⟩ : ∃ R2, ({ R1 with hi := mnR R1.hi ⟨1000, F.wlo, false⟩ } : Rn) = R2 := ⟨_, rfl⟩
        have e2 : inV { R1 with hi := mnR R1.hi ⟨1000, F.wlo, false⟩ } = inV R2 := by rw [hR2]
        rw [e2]
        have HR2 := Lib.hid hR2
        clear hR2 e2 c3
        go_wp2_with (refine st_at rfl (T := 129) rfl rfl (cs := inC R2) rfl hx3 (by kernel_rfl) rfl rfl ?_; intro wk2 hkk2 hsk2)
        have ne0 : w.heap.size ≠ w1.heap.size := by omega
        have ne1 : w.heap.size + 1 ≠ w1.heap.size := by omega
        have hB2 := HI.out.b.trans (hb2.mono hz)
        have hB3 := bes_then hB2 hsk (by omega) hB2.size
        have hB4 := hB3.trans (hb3.mono hB3.size)
        have hB5 := bes_then hB4 hsk2 (by omega) hB4.size
        refine ⟨⟨k + 1, by omega, by go_num, Lib.hid ⟨?_, ?_, ?_, ?_, HI.out.n, hB5, xbl⟩⟩, by simp [intOf]; omega⟩
        · exact (((HI.out.f.below hb2).bes hsk ne0).below hb3).bes hsk2 ne0
        · exact (((HI.out.z.below hb2).bes hsk ne1).below hb3).bes hsk2 ne1
        · rw [HTK.out, rnR_snoc, if_pos rfl, HR.out, ← HLO.out, ← HHI.out]
          have e : ({ lo := R1.lo, hi := mnR R1.hi ⟨1000, F.wlo, false⟩, e := R.e } : Rn) = R2 := by rw [← HR2.out, ← HR1.out]
          rw [e]
          exact hkk2
        · rw [HTK.out, lines_snoc, if_pos rfl, List.append_nil]
          exact owns_bes' (owns_below (owns_bes' (owns_below HI.out.o hb2) hsk HI.out.n) hb3) hsk2 HI.out.n
      · have hi1 : -1 ≤ i ∧ i < F.s.length := by omega
        have hlen := lines_len F (I.take k)
        have hlk : (I.take k).length ≤ 1000 := by rw [List.length_take]; omega
        have hil := itemL_len F i
        have hz := HI.out.b.size
        have hFr := Lib.hid (HF.out.below HI.out.b)
        clear hx
        go_wp2_with fail
        refine WpK.begin (S := fun _ => True) (kp := fun _ => true) (f := 9) (up := #[false, false, false, false, false, false, false, false, false]) (by kernel_rfl) (by kernel_rfl) (by kernel_rfl) ?_
        refine WpK.take (i := 0) (v := ?_) ((toArray_at _ _).trans rfl) (by kernel_rfl) (by kernel_rfl) (by kernel_rfl) (by kernel_rfl) (by kernel_rfl) (fun _ _ _ h => h) (Or.inl ⟨by rfl, ?_⟩) trivial ?_
        rotate_left
        · (intro x hx; go_simp <;> with_reducible rfl)
        simp only [Act.put, puts]
        refine WpK.take (i := 2) (v := ?_) ((toArray_at _ _).trans rfl) (by kernel_rfl) (by kernel_rfl) (by kernel_rfl) (by kernel_rfl) (by kernel_rfl) (fun _ _ _ h => h) (Or.inl ⟨by rfl, ?_⟩) trivial ?_
        rotate_left
        · (intro x hx; go_simp <;> with_reducible rfl)
        simp only [Act.put, puts]
        refine WpK.take (i := 3) (v := ?_) ((toArray_at _ _).trans rfl) (by kernel_rfl) (by kernel_rfl) (by kernel_rfl) (by kernel_rfl) (by kernel_rfl) (fun _ _ _ h => h) (Or.inl ⟨by rfl, ?_⟩) trivial ?_
        rotate_left
        · (intro x hx; go_simp <;> with_reducible rfl)
        simp only [Act.put, puts]
        refine WpK.take (i := 4) (v := ?_) ((toArray_at _ _).trans rfl) (by kernel_rfl) (by kernel_rfl) (by kernel_rfl) (by kernel_rfl) (by kernel_rfl) (fun _ _ _ h => h) (Or.inl ⟨by rfl, ?_⟩) trivial ?_
        rotate_left
        · (intro x hx; go_simp <;> with_reducible rfl)
        simp only [Act.put, puts]
        refine WpK.weaken (S := fun x => Below wr.heap.size wr x) (kp := (fun i => decide (i < 6))) (fun _ => trivial) _ ?_
        have hS0 := (show Below wr.heap.size wr wr.drew from (Below.refl _ _).drew)
        refine WpK.take (i := 1) (v := ?_) ((toArray_at _ _).trans rfl) (by kernel_rfl) (by kernel_rfl) (by kernel_rfl) (by kernel_rfl) (by kernel_rfl) (fun _ _ _ h => h) (Or.inl ⟨by rfl, ?_⟩) hS0 ?_
        rotate_left
        · (intro x hx; obtain ⟨hcx, hfx⟩ := bcell hx; go_simp <;> with_reducible rfl)
        try simp only [Act.put, puts]
        refine WpK.take (i := 5) (v := ?_) ((toArray_at _ _).trans rfl) (by kernel_rfl) (by kernel_rfl) (by kernel_rfl) (by kernel_rfl) (by kernel_rfl) (fun _ _ _ h => h) (Or.inl ⟨by rfl, ?_⟩) hS0 ?_
        rotate_left
        · (intro x hx; obtain ⟨hcx, hfx⟩ := bcell hx; go_simp <;> with_reducible rfl)
        try simp only [Act.put, puts]
        clear hS0
        refine WpK.one (i := 6) (by kernel_rfl) ((toArray_at _ _).trans rfl) ?_
        intro K hK
        have HK := Lib.hid hK
        clear hK
        go_simp
        refine (Item_any F _ _ i _ (hFr.out.below (Below.drew (Below.refl _ _))) HO.out hi1).mono ?_
        rintro e W2 ⟨s2, rfl, hbq, hO2⟩
        have hW2 : Below wr.heap.size wr W2 := Below.trans (Below.drew (Below.refl _ _)) hbq
        clear hbq
        refine HK.out _ _ (fun h => absurd h (by decide)) (fun _ => ?_)
        clear HK K
        try simp only [puts]
        refine WpK.one (i := 7) (by kernel_rfl) ((toArray_at _ _).trans rfl) ?_
        intro K hK
        have HK := Lib.hid hK
        clear hK
        refine step_rl rfl (.tmp 38) (.tmp 44) rfl (w.heap.size + 2) _ (linesL F (I.take k)) (itemL F i) rfl (owns_below HI.out.o hW2) _ s2 rfl hO2 hil.1 (by omega) (by have := hW2.size; omega) ?_
        intro g1 cc q3 hO3 hP3 hG3 hN3
        refine HK.out _ _ (fun h => absurd h (by decide)) (fun _ => ?_)
        clear HK K
        try simp only [puts]
        refine WpK.one (i := 8) (by kernel_rfl) ((toArray_at _ _).trans rfl) ?_
        intro K hK
        have HK := Lib.hid hK
        clear hK
        go_simp
        refine HK.out _ _ (fun h => absurd h (by decide)) (fun _ => ?_)
        clear HK K
        try simp only [puts]
        refine WpK.done (by kernel_rfl) ?_
        clear c0 c1 c2 c3 c4 c5 x0 x1 x2 x3 x4 x5 x6 d0
        have hW3 : Below (w.heap.size + 2) W2 q3 := hP3
        go_wp2_with fail
        have hx2 : Bk q3 w1.heap.size 129 (inC (rnR F (I.take k))) := (HI.out.x.below hW2).grown hG3 HI.out.n
        have hf2 := HI.out.f.below hW2
        have hz2 := HI.out.z.below hW2
        refine ⟨⟨k + 1, by omega, by go_num, Lib.hid ⟨?_, ?_, ?_, ?_, ?_, ?_, xbl⟩⟩, by simp [intOf]; omega⟩
        · exact (hW3.block _ (by omega)).trans hf2
        · exact (hW3.block _ (by omega)).trans hz2
        · rw [HTK.out, rnR_snoc, if_neg hw]
          exact hx2
        · rw [HTK.out, lines_snoc, if_neg hw]
          exact hO3
        · intro e
          have e : g1 = w1.heap.size := Option.some.inj e
          rcases hN3 with h | h
          · rw [e] at h; exact HI.out.n h
          · have := (HI.out.x.below hW2).lt; omega
        · have hB2 := HI.out.b.trans (hW2.mono hz)
          exact hB2.trans (hW3.mono (by omega))
    · obtain rfl : k = n := by omega
      have e : I.take k = I := by rw [← hl.out]; exact List.take_length
      rw [e] at HI
      obtain ⟨R, hR⟩ : ∃ R, rnR F I = R := ⟨_, rfl⟩
      have HR := Lib.hid hR
      have hx := HI.out.x
      rw [hR] at hx
      have c0 := HI.out.f.cell 0
      have c1 := HI.out.f.cell 1
      have c2 := HI.out.f.cell 2
      have c3 := HI.out.f.cell 3
      have c4 := HI.out.f.cell 4
      have c5 := HI.out.f.cell 5
      have cl := HI.out.f.lt
      have x0 := HI.out.x.cell 0
      have x1 := HI.out.x.cell 1
      have x2 := HI.out.x.cell 2
      have x3 := HI.out.x.cell 3
      have x4 := HI.out.x.cell 4
      have x5 := HI.out.x.cell 5
      have x6 := HI.out.x.cell 6
      have xl := HI.out.x.lt
      simp only [inC, List.getElem?_cons_zero, List.getElem?_cons_succ] at c0 c1 c2 c3 c4 c5 x0 x1 x2 x3 x4 x5 x6
      rw [hR] at x0 x1 x2 x3 x4 x5 x6
      have z0 := HI.out.z.cell 0
      have z1 := HI.out.z.cell 1
      have z2 := HI.out.z.cell 2
      have z3 := HI.out.z.cell 3
      have z4 := HI.out.z.cell 4
      have z5 := HI.out.z.cell 5
      have z6 := HI.out.z.cell 6
      have f0 := HI.out.z.frozen 0
      have f1 := HI.out.z.frozen 1
      have f2 := HI.out.z.frozen 2
      have f3 := HI.out.z.frozen 3
      have f4 := HI.out.z.frozen 4
      have f5 := HI.out.z.frozen 5
      have f6 := HI.out.z.frozen 6
      simp only [List.getElem?_cons_zero, List.getElem?_cons_succ] at z0 z1 z2 z3 z4 z5 z6
      clear hR e c0 c1 c2 c3 c4 c5
      go_wp2_with fail
      go_region
      go_wp2_with fail
      have hZf := ((((((HI.out.z.set 0 (.int .i64 R.lo.n)).set 1 (.int .i64 R.lo.d)).set 2 (.int .i64 R.hi.n)).set 3 (.int .i64 R.hi.d)).set 4 (.bool R.lo.s)).set 5 (.bool R.hi.s)).set 6 (.bool R.e)
      have hBf := ((((((HI.out.b.setCell (p := ⟨w.heap.size + 1, 0, none⟩) (Nat.le_succ _) (.int .i64 R.lo.n)).setCell (p := ⟨w.heap.size + 1, 1, none⟩) (Nat.le_succ _) (.int .i64 R.lo.d)).setCell (p := ⟨w.heap.size + 1, 2, none⟩) (Nat.le_succ _) (.int .i64 R.hi.n)).setCell (p := ⟨w.heap.size + 1, 3, none⟩) (Nat.le_succ _) (.int .i64 R.hi.d)).setCell (p := ⟨w.heap.size + 1, 4, none⟩) (Nat.le_succ _) (.bool R.lo.s)).setCell (p := ⟨w.heap.size + 1, 5, none⟩) (Nat.le_succ _) (.bool R.hi.s)).setCell (p := ⟨w.heap.size + 1, 6, none⟩) (Nat.le_succ _) (.bool R.e)
      have hlt : w.heap.size + 1 < w.heap.size + 2 := by omega
      have hOf := owns_setCell (j := 6) (owns_setCell (j := 5) (owns_setCell (j := 4) (owns_setCell (j := 3) (owns_setCell (j := 2) (owns_setCell (j := 1) (owns_setCell (j := 0) HI.out.o hlt (.int .i64 R.lo.n)) hlt (.int .i64 R.lo.d)) hlt (.int .i64 R.hi.n)) hlt (.int .i64 R.hi.d)) hlt (.bool R.lo.s)) hlt (.bool R.hi.s)) hlt (.bool R.e)
      refine bodyPost_ret (ret_tmp_cell rfl _ _ rfl hZf.drew Tryz.underlying129 rfl (by kernel_rfl)) rfl ⟨_, by rw [HR.out]; rfl, hBf.drew, ?_⟩
      exact owns_below hOf (Below.drew (Below.refl _ _))
def itF (k : Nat) : List Int := (List.range k).map fun (j : Nat) => (j : Int) - 2
theorem itF_snoc (k : Nat) : itF (k + 1) = itF k ++ [(k : Int) - 2] := by simp [itF, List.range_succ]
theorem itF_len (k : Nat) : (itF k).length = k := by simp [itF]
set_option maxRecDepth 100000 in
set_option maxHeartbeats 2000000 in
theorem rAll_any (F : Fl) (vv vs : Value) (w : World) (hF : FlIn w F vv vs) (hn : F.s.length ≤ 24) :
    Calls Tryz.prog 92 #[flV F vv vs] w fun e w' => ∃ v, e = .returned v ∧ Below w.heap.size w w' ∧ Ints w' v (allL F) := by
  obtain ⟨os, cs, rfl, ms⟩ := hF.s.parts
  obtain ⟨ls, hls⟩ : ∃ n, F.s.length = n := ⟨_, rfl⟩
  have hall : allL F = itF (ls + 2) := by rw [← hls]; rfl
  rw [hall]
  rw [hls] at hF ms hn ⊢
  have HB := Lib.hid (Bk.new w 30 [vv, .int .i64 F.f.lv, .int .i64 F.f.er, .int .i64 F.wlo, .int .i64 F.whi, .slice os ls cs])
  clear hF hls hall
  go_enter Tryz.func92, Tryz.ntmps92
  go_wp2_with fail
  go_loopw [3, 4] (fun v i wr => ∃ k : Nat, k ≤ ls + 2 ∧ i = .int .i64 ((k : Int) - 2) ∧ Hid (OwnI wr (w.heap.size + 1) 3 v (itF k)) ∧ Hid (Bk wr w.heap.size 30 [vv, .int .i64 F.f.lv, .int .i64 F.f.er, .int .i64 F.wlo, .int .i64 F.whi, .slice os ls cs]) ∧ Hid (Below w.heap.size w wr)) (fun _ i _ => (ls + 2) - (intOf i + 2).toNat)
  case atStart => exact ⟨0, Nat.zero_le _, rfl, World.ownsRow_nil _ _ _ _, HB, Lib.hid belw⟩
  case round =>
    obtain ⟨k, hk, rfl, hO, hB, hW⟩ := hrel
    have c5 := hB.out.cell 5
    have cl := hB.out.lt
    simp only [List.getElem?_cons_zero, List.getElem?_cons_succ] at c5
    by_cases h0 : k < ls + 2
    · have hl : (itF k).length = k := itF_len k
      have hO1 := hO.out
      unfold OwnI at hO1
      rw [hl] at hO1
      have HO1 := Lib.hid hO1
      clear hO1 hl
      go_wp2_with (with_reducible refine list_own Tryz.underlying51 int_el (by decide) (by decide) rfl (.tmp 12) (.tmp 14) rfl (w.heap.size + 1) _ k ((itF k).map (Value.int .i64)) rfl (owns_below HO1.out (ballo _ _)) ⟨wr.heap.size, 0, none⟩ _ [.int .i64 ((k : Int) - 2)] rfl rfl (news_bk (Bk.new _ _ [_])) ?_ ?_ ?_ ?_)
      · intro u hu; simp at hu; rcases hu with rfl; rfl
      · omega
      · simp; omega
      intro g1 t2 q3 hO1 hP1 hG1 _
      have hf : Bk q3 w.heap.size 30 [vv, .int .i64 F.f.lv, .int .i64 F.f.er, .int .i64 F.wlo, .int .i64 F.whi, .slice os ls cs] := (hP1.block _ (Nat.lt_succ_self _)).trans (hB.out.alloc _)
      have hsz := hW.out.size
      clear c5
      go_wp2_with fail
      refine ⟨⟨k + 1, by omega, by go_num, Lib.hid ?_, Lib.hid hf, Lib.hid ?_⟩, by simp [intOf]; omega⟩
      · unfold OwnI
        rw [itF_snoc, List.map_append, List.length_append, itF_len]
        exact hO1
      · exact (hW.out.alloc hsz _).trans (hP1.mono (Nat.le_succ _))
    · obtain rfl : k = ls + 2 := by omega
      have hi := OwnI.ints hO.out
      obtain ⟨oi, ni, ci, rfl, _, _⟩ := hi.parts
      have hle : ¬ ((ls + 2 : Nat) : Int) - 2 < (ls : Int) := by omega
      go_wp2_with fail
      go_ret
      exact ⟨_, rfl, hW.out, hi⟩
end Go.Proofs.YtnfndiafabhhdaaGreat
