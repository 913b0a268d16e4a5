/- A whole struct is stored into, and loaded from, a block that is known whole: one step each. No program in sight. -/
import Derived.Test.YtnfndiafabhhdaaGreatB1
import Derived.Laws.Tables
import Derived.Laws.Rows
import Derived.Test.YtnfndiafabhhdaaGreatC6
import Derived.Test.YtnfndiafabhhdaaGreatA1
namespace Go.Proofs.YtnfndiafabhhdaaGreat
open Go.ChangeShapes Go.WideShapes Go.ChangeAt Go.RowKit
theorem bes_setRow {w : World} {b : Nat} (cs : Array Value) : Bes b w (w.setRow b cs) :=
  ⟨rfl, rfl, rfl, by show w.heap.size ≤ (w.heap.modify b _).size; simp, fun k _ hk => setRow_other w b k cs hk⟩
theorem st_at {P : Program} {ops : Array Oper} {rest : List Oper} {o : Oper} {a : Act} {w : World} {Q : Exit → Act → World → Prop} (hgd : o.guard = none) {T : TypeId} {x y : Operand} (ho : o.op = .store T x y)
    {b : Nat} (hx : a.eval x = .pointer (some ⟨b, 0, none⟩)) {cs old : List Value} (hy : a.eval y = .agg cs.toArray) {T' : TypeId} (hg : Bk w b T' old) (hi : (P.info? T).map (·.size) = some cs.length)
    (hl : old.length = cs.length) (h1 : cs.all (·.oneCell') = true)
    (h : ∀ w', Bk w' b T' cs → Bes b w w' → wpList P ops Q rest (a.put o.dst undef) w') : wpList P ops Q (o :: rest) a w :=
  wpList_store_row hgd T x y ho b cs.toArray hx hy T' old.toArray hg (by simpa using hi) (by simpa using hl) (by simpa using h1) (h _ (setRow_heap w b _ _ _ _ hg) (bes_setRow _))
theorem ld_at {P : Program} {ops : Array Oper} {rest : List Oper} {o : Oper} {a : Act} {w : World} {Q : Exit → Act → World → Prop} (hgd : o.guard = none) {T : TypeId} {x : Operand} (ho : o.op = .load T x)
    {b : Nat} (hx : a.eval x = .pointer (some ⟨b, 0, none⟩)) {cs : List Value} {T' : TypeId} {d : TypeDesc} (hg : Bk w b T' cs) (hu : P.underlying T = some d)
    (hd : (match d with | .struct _ | .array _ _ => true | _ => false) = true) (hi : (P.info? T).map (·.size) = some cs.length)
    (h : wpList P ops Q rest (a.put o.dst (.agg cs.toArray)) w) : wpList P ops Q (o :: rest) a w :=
  wpList_load_row hgd T x ho b hx T' cs.toArray (0, 0) d hg hu hd (by simpa using hi) h
theorem ret_cell_tmp {P : Program} {fn : Func} {p u : Tmp} {ty : TypeId} (h : fn.results = #[.cell p ty, .tmp u]) (tmps : Array Value) (w : World) {g : Nat} {t : TypeId} {cs : List Value} {d : TypeDesc}
    (hp : tmps.getD p undef = .pointer (some ⟨g, 0, none⟩)) (hg : Bk w g t cs)
    (hu : P.underlying ty = some d) (hd : (match d with | .struct _ | .array _ _ => true | _ => false) = true) (hi : (P.info? ty).map (·.size) = some cs.length) :
    (results fn tmps).run P w = .ok (.tuple #[.agg cs.toArray, tmps.getD u undef]) w := by
  rw [results_cell_tmp h, hp]
  simp [asAddr, run_loadVar_row w g t ty cs.toArray (0, 0) d hg hu hd (by simpa using hi)]
abbrev knV (b : Nat) (r : Rn) (va vb : Value) : Value := .agg #[.pointer (some ⟨b, 0, none⟩), .int .i64 r.lo.n, .int .i64 r.lo.d, .bool r.lo.s, .int .i64 r.hi.n, .int .i64 r.hi.d, .bool r.hi.s, va, vb, .bool r.e]
abbrev knZ : Value := .agg #[.pointer none, .int .i64 0, .int .i64 0, .bool false, .int .i64 0, .int .i64 0, .bool false, .slice none 0 0, .slice none 0 0, .bool false]
def knR (F : Fl) : Rn := solW (rnW F (allL F)) (lows (linesL F (allL F))) (ups (linesL F (allL F)))
theorem knR_e (F : Fl) : (knR F).e = !canI F (allL F) := rfl
structure Kn (w : World) (F : Fl) (b : Nat) (vv vs pv va vb : Value) : Prop where
  s : Sty w F b vv vs pv
  a : LnR w va (lows (linesL F (allL F)))
  b : LnR w vb (ups (linesL F (allL F)))
  ca : CapOk va
  cb : CapOk vb
theorem Kn.below {w w' : World} {F : Fl} {b : Nat} {vv vs pv va vb : Value} (h : Kn w F b vv vs pv va vb) (hb : Below w.heap.size w w') : Kn w' F b vv vs pv va vb := ⟨h.s.below hb, h.a.below hb, h.b.below hb, h.ca, h.cb⟩
theorem Kn.alloc {w : World} {F : Fl} {b : Nat} {vv vs pv va vb : Value} (h : Kn w F b vv vs pv va vb) (o : Obj) : Kn (w.alloc o) F b vv vs pv va vb := h.below (ballo w o)
def rdE (F : Fl) (R : Bool) : Int := if okFl F then if R then if canI F (allL F) then 0 else 31 else 1 else 30
def RdPost (F : Fl) (R : Bool) (vv vs : Value) (w : World) (e : Ending) (w' : World) : Prop :=
  (rdE F R ≠ 0 ∧ e = .returned (.tuple #[knZ, .int .i64 (rdE F R)]) ∧ Below w.heap.size w w') ∨
  (rdE F R = 0 ∧ ∃ b pv va vb, e = .returned (.tuple #[knV b (knR F) va vb, .int .i64 0]) ∧ Below w.heap.size w w' ∧ Kn w' F b vv vs pv va vb)
theorem allL_ok (F : Fl) : ItOk F (allL F) := fun i hi => by
  obtain ⟨j, hj, rfl⟩ := List.mem_map.1 hi
  have := List.mem_range.1 hj
  omega
theorem sn_ok {F : Fl} (h : OkF F) (m : Nat) : okSn (hgt F.v) (snA F.s m) = true ∨ snA F.s m = ⟨0, 0, ⟨0, 0⟩⟩ := by
  by_cases hm : m < F.s.length
  · exact .inl (h.s _ (by rw [snA, List.getElem?_eq_getElem hm, Option.getD_some]; exact List.getElem_mem hm))
  · exact .inr (by rw [snA, List.getElem?_eq_none (by omega), Option.getD_none])
theorem item_B {F : Fl} (h : OkF F) {i : Int} (hi : -1 ≤ i ∧ i < F.s.length) : ∀ x ∈ itemL F i, LnB x.1 := by
  intro x hx
  have hH := (pt_bd ((okv_iff F.v).1 h.v) (Nat.le_refl _)).1
  have hh : hgt F.v = vX F.v F.v.length := rfl
  rw [← hh] at hH
  unfold itemL at hx
  split at hx
  · obtain ⟨⟨n1, n2⟩, n3, n4⟩ := end_in h.f
    simp only [List.mem_cons, List.not_mem_nil, or_false] at hx
    rcases hx with rfl | rfl
    · exact lnB_T h n1 (by omega) (by decide) (by decide) _
    · exact lnB_T h (by omega) n4 (by decide) (by decide) _
  · have hm : i.toNat < F.s.length := by omega
    have hs : okSn (hgt F.v) (sn F i) = true := h.s _ (by rw [sn, List.getElem?_eq_getElem hm, Option.getD_some]; exact List.getElem_mem hm)
    generalize sn F i = s at *
    have hlk : okLk (hgt F.v) s.k = true := by simp only [okSn, Bool.and_eq_true] at hs; exact hs.2
    obtain ⟨s1, s2, s3⟩ : 0 ≤ s.lo ∧ s.lo ≤ s.hi ∧ s.hi ≤ 1048576 := by simp only [okSn, Bool.and_eq_true, decide_eq_true_eq] at hs; exact ⟨hs.1.1.1, hs.1.1.2, hs.1.2⟩
    obtain ⟨⟨n1, n2⟩, n3, n4⟩ := end_in hlk
    rcases List.mem_cons.1 hx with rfl | hx
    · exact lnB_T h (by omega) n4 (by show 0 ≤ s.hi; omega) (by show s.hi ≤ 2097152; omega) _
    · split at hx
      · simp only [List.mem_cons, List.not_mem_nil, or_false] at hx
        subst hx
        exact lnB_T h n1 (by omega) s1 (by show s.lo ≤ 2097152; omega) _
      · cases hx
theorem lines_B1 {F : Fl} (h : OkF F) {I : List Int} (hI : ItOk F I) : ∀ x ∈ linesL F I, LnB x.1 := by
  have hH := (pt_bd ((okv_iff F.v).1 h.v) (Nat.le_refl _)).1
  have hh : hgt F.v = vX F.v F.v.length := rfl
  rw [← hh] at hH
  intro x hx
  rcases List.mem_append.1 hx with hx | hx
  · simp only [frameL, List.mem_cons, List.not_mem_nil, or_false] at hx
    rcases hx with rfl | rfl
    · exact ⟨by decide, by decide, by decide, by decide, by decide, by decide⟩
    · exact lnB_T h hH.1 (Int.le_refl _) (by decide) (by decide) _
  · obtain ⟨i, hi, hx⟩ := List.mem_flatMap.1 hx
    split at hx
    · cases hx
    · exact item_B h ⟨by have := hI i hi; omega, (hI i hi).2⟩ x hx
theorem lines_B {F : Fl} (h : OkF F) {I : List Int} (hI : ItOk F I) : (∀ l ∈ lows (linesL F I), LnB l) ∧ ∀ u ∈ ups (linesL F I), LnB u := by
  constructor
  · intro l hl
    obtain ⟨x, hx, rfl⟩ := List.mem_map.1 hl
    exact lines_B1 h hI x (List.mem_filter.1 hx).1
  · intro l hl
    obtain ⟨x, hx, rfl⟩ := List.mem_map.1 hl
    exact lines_B1 h hI x (List.mem_filter.1 hx).1
abbrev knC0 : List Value := [.pointer none, .int .i64 0, .int .i64 0, .bool false, .int .i64 0, .int .i64 0, .bool false, .slice none 0 0, .slice none 0 0, .bool false]
theorem ne_known {w : World} {b b0 p : Nat} {T : TypeId} (hz : Bk w b0 T knC0) {k1 k2 k3 : IntKind} {x y z : Int} (h0 : w.cell? ⟨b, p, none⟩ = some (.int k1 x)) (h1 : w.cell? ⟨b, p + 1, none⟩ = some (.int k2 y)) (h2 : w.cell? ⟨b, p + 2, none⟩ = some (.int k3 z)) : b ≠ b0 := by
  rintro rfl
  rw [hz.cell p] at h0
  rw [hz.cell (p + 1)] at h1
  rw [hz.cell (p + 2)] at h2
  match p, h0, h1, h2 with
  | 0, h0, _, _ => simp at h0
  | 1, _, _, h2 => simp at h2
  | 2, _, h1, _ => simp at h1
  | 3, h0, _, _ => simp at h0
  | 4, _, _, h2 => simp at h2
  | 5, _, h1, _ => simp at h1
  | 6, h0, _, _ => simp at h0
  | 7, h0, _, _ => simp at h0
  | 8, h0, _, _ => simp at h0
  | 9, h0, _, _ => simp at h0
  | p + 10, h0, _, _ => simp at h0
theorem Row.bes {w w' : World} {v : Value} {k n b0 : Nat} {f : Nat → Nat → Value} (h : Row w v k n f) (hb : Bes b0 w w')
    (hne : ∀ b off, 0 < n → (∀ i j, i < n → j < k → w.cell? ⟨b, off + i * k + j, none⟩ = some (f i j)) → b ≠ b0) : Row w' v k n f := by
  obtain ⟨o, c, rfl, hm, h⟩ := h
  refine ⟨o, c, rfl, hm, fun h0 => ?_⟩
  obtain ⟨b, off, ho, hlt, hc⟩ := h h0
  exact ⟨b, off, ho, Nat.lt_of_lt_of_le hlt hb.size, fun i j hi hj => (World.cell?_of_block (a := ⟨b, off + i * k + j, none⟩) (hb.block b hlt (hne b off h0 hc))).trans (hc i j hi hj)⟩
theorem lnr_bes {w w' : World} {v : Value} {L : List Ln} {b0 : Nat} {T : TypeId} (h : LnR w v L) (hb : Bes b0 w w') (hz : Bk w b0 T knC0) : LnR w' v L :=
  Row.bes h hb fun b off h0 hc => ne_known hz (hc 0 0 h0 (by decide)) (hc 0 1 h0 (by decide)) (hc 0 2 h0 (by decide))
theorem ptr_bes {w w' : World} {v : Value} {l : List Rg} {b0 : Nat} {T : TypeId} (h : PtR w v l) (h1 : 0 < l.length) (hb : Bes b0 w w') (hz : Bk w b0 T knC0) : PtR w' v l :=
  Row.bes h hb fun b off h0 hc => ne_known (p := off) hz (hc 0 0 h0 (by decide)) (hc 0 1 h0 (by decide)) (by have h2 := hc 1 0 (by omega) (by decide); simp only [ptF, Nat.one_mul, Nat.add_zero] at h2; exact h2)
theorem Bk.ty {w : World} {b b' : Nat} {T T' : TypeId} {A A' : List Value} (h : Bk w b T A) (h' : Bk w b' T' A') (hne : T ≠ T') : b ≠ b' := by
  rintro rfl
  unfold Bk at h h'
  rw [h] at h'
  injection h' with h'
  injection h' with _ h2
  exact hne h2
set_option maxRecDepth 100000 in
set_option maxHeartbeats 4000000 in
theorem ready_any (F : Fl) (vv vs : Value) (n : Nat) (caps : Array Value) (R : Bool) (w : World) (hF : FlIn w F vv vs) (hn : ∀ (args : Array Value) (W : World), Sem.run Tryz.prog (callFunc n args) W = .ok (.enter n args) W)
    (hR : okFl F = true → ∀ (b : Nat) (pv : Value) (W : World), Below w.heap.size w W → Sty W F b vv vs pv → Calls Tryz.prog n (#[.pointer (some ⟨b, 0, none⟩)] ++ caps) W fun e w' => e = .returned (.bool R) ∧ Below W.heap.size W w') :
    Calls Tryz.prog 69 #[flV F vv vs, .func (.func n) #[] caps] w fun e w' => RdPost F R vv vs w e w' := by
  have hZ0 := (Bk.new w 30 [vv, .int .i64 F.f.lv, .int .i64 F.f.er, .int .i64 F.wlo, .int .i64 F.whi, vs])
  have hK0 := Bk.new1 w (flO F vv vs) 102 [.pointer none, .int .i64 0, .int .i64 0, .bool false, .int .i64 0, .int .i64 0, .bool false, .slice none 0 0, .slice none 0 0, .bool false]
  have hO := opened_any F vv vs _ ((hF.alloc (flO F vv vs)).alloc (Obj.cells #[.pointer none, .int .i64 0, .int .i64 0, .bool false, .int .i64 0, .int .i64 0, .bool false, .slice none 0 0, .slice none 0 0, .bool false] 102))
  have HO := Lib.hid hO
  have HK0 := Lib.hid hK0
  obtain ⟨os, cs, rfl, ms⟩ := hF.s.parts
  obtain ⟨ov, cv, rfl, mv⟩ := hF.v.parts
  have HF := Lib.hid hF
  clear hO hK0 hF hZ0
  go_enter Tryz.func69, Tryz.ntmps69
  go_wp2_with fail
  refine HO.out.mono ?_
  rintro e w1 (⟨h0, rfl, hb1⟩ | ⟨b, pv, rfl, hb1, hS⟩)
  · have hk1 := HK0.out.below hb1
    have hz1 := hk1.lt
    go_wp2_with (refine st_at rfl rfl rfl (cs := [.pointer none, .int .i64 0, .int .i64 0, .bool false, .int .i64 0, .int .i64 0, .bool false, .slice none 0 0, .slice none 0 0, .bool false]) rfl hk1 (by kernel_rfl) rfl rfl ?_; intro wk hkk hsk)
    have he : rdE F R = 30 := by unfold rdE; rw [h0]; rfl
    refine bodyPost_ret (ret_cell_tmp rfl _ _ rfl hkk Tryz.underlying102 rfl (by kernel_rfl)) rfl (.inl ⟨by rw [he]; decide, by rw [he]; rfl, ?_⟩)
    exact bes_then (Below.mono (B := w.heap.size) (Below.trans belw (hb1.mono (by simp; omega))) (Nat.le_refl _)) hsk (Nat.le_succ _) (by have := hb1.size; simp at this; omega)
  · have hok : okFl F = true := (okFl_iff F).2 hS.o
    have hbw : Below w.heap.size w w1 := Below.mono (B := w.heap.size) (Below.trans belw (hb1.mono (by simp; omega))) (Nat.le_refl _)
    go_wp2_with fail
    refine (hR hok b pv w1 hbw hS).mono ?_
    rintro e w2 ⟨rfl, hb2⟩
    have hk2 := (HK0.out.below hb1).below hb2
    have hbw2 := Below.trans hbw (hb2.mono hbw.size)
    have hz2 := hk2.lt
    cases R with
    | false =>
      go_wp2_with (refine st_at rfl rfl rfl (cs := [.pointer none, .int .i64 0, .int .i64 0, .bool false, .int .i64 0, .int .i64 0, .bool false, .slice none 0 0, .slice none 0 0, .bool false]) rfl hk2 (by kernel_rfl) rfl rfl ?_; intro wk hkk hsk)
      have he : rdE F false = 1 := by unfold rdE; rw [hok]; rfl
      refine bodyPost_ret (ret_cell_tmp rfl _ _ rfl hkk Tryz.underlying102 rfl (by kernel_rfl)) rfl (.inl ⟨by rw [he]; decide, by rw [he]; rfl, ?_⟩)
      exact bes_then hbw2 hsk (Nat.le_succ _) (by have := hbw2.size; omega)
    | true =>
      have hS2 := hS.below hb2
      have HK2 := Lib.hid hk2
      have HB2 := Lib.hid hbw2
      have hz3 := hbw2.size
      clear hk2 hbw2 hbw hb1 hb2 hS hR hn HK0
      go_wp2_with fail
      refine (all_any F b _ _ pv w2 hS2).mono ?_
      rintro e w3 ⟨v3, rfl, hb3, hi3⟩
      obtain ⟨oi, ni, ci, rfl, hli, mi⟩ := hi3.parts
      go_wp2_with fail
      have hnn : (allL F).length ≤ 1000 := by rw [all_len]; have := hS2.o.n; omega
      refine (region_any F b _ _ pv _ (allL F) w3 (hS2.below hb3) hi3 (allL_ok F) hnn).mono ?_
      rintro e w4 ⟨va, vb, rfl, hb4, ⟨hA4, hcA⟩, hB4, hcB⟩
      have hb34 := bthen hb3 hb4
      have hS4 := hS2.below hb34
      have hRB := rnW_b hS2.o (allL F)
      have hLB := lines_B hS2.o (allL_ok F)
      obtain ⟨oa, ca, rfl, ma⟩ := hA4.parts
      obtain ⟨ob, cb, rfl, mb⟩ := hB4.parts
      go_wp2_with fail
      refine (solved_any (rnW F (allL F)) _ _ _ _ w4 hA4 hB4 hRB hLB.1 hLB.2).mono ?_
      rintro e w5 ⟨rfl, hb5⟩
      have hb35 := bthen hb34 hb5
      have hk5 := HK2.out.below hb35
      have hK5 : Kn w5 F b _ _ pv _ _ := ⟨hS4.below hb5, hA4.below hb5, hB4.below hb5, hcA, hcB⟩
      obtain ⟨kr, hkrr⟩ : ∃ r, knR F = r := ⟨_, rfl⟩
      have hkre := knR_e F
      rw [show solW (rnW F (allL F)) (lows (linesL F (allL F))) (ups (linesL F (allL F))) = kr from hkrr]
      rw [hkrr] at hkre
      have HKR := Lib.hid hkrr
      clear hkrr hA4 hB4 hRB hLB hi3 hS4 hS2 hb3 hb4 hb5
      have hke : kr.e = !canI F (allL F) := hkre
      have hzz := hb35.size
      clear hkre
      cases hc : canI F (allL F) with
      | false =>
        rw [hc] at hke
        have hke : kr.e = true := hke
        have hkr := Bk.new w5 100 [.int .i64 kr.lo.n, .int .i64 kr.lo.d, .bool kr.lo.s, .int .i64 kr.hi.n, .int .i64 kr.hi.d, .bool kr.hi.s, .slice oa (lows (linesL F (allL F))).length ca, .slice ob (ups (linesL F (allL F))).length cb, .bool true]
        have hk6 := hk5.alloc (Obj.cells #[.int .i64 kr.lo.n, .int .i64 kr.lo.d, .bool kr.lo.s, .int .i64 kr.hi.n, .int .i64 kr.hi.d, .bool kr.hi.s, .slice oa (lows (linesL F (allL F))).length ca, .slice ob (ups (linesL F (allL F))).length cb, .bool true] 100)
        have hK6 := hK5.alloc (Obj.cells #[.int .i64 kr.lo.n, .int .i64 kr.lo.d, .bool kr.lo.s, .int .i64 kr.hi.n, .int .i64 kr.hi.d, .bool kr.hi.s, .slice oa (lows (linesL F (allL F))).length ca, .slice ob (ups (linesL F (allL F))).length cb, .bool true] 100)
        have hB6 : Below w.heap.size w (w5.alloc (Obj.cells #[.int .i64 kr.lo.n, .int .i64 kr.lo.d, .bool kr.lo.s, .int .i64 kr.hi.n, .int .i64 kr.hi.d, .bool kr.hi.s, .slice oa (lows (linesL F (allL F))).length ca, .slice ob (ups (linesL F (allL F))).length cb, .bool true] 100)) := (HB2.out.trans (hb35.mono hz3)).alloc (by have := hb35.size; omega) _
        have HB6 := Lib.hid hB6
        have HK6 := Lib.hid hK6
        clear hK5 hb34 hb35 hk5 hB6 hK6
        go_wp2_with (refine st_at rfl (T := 102) rfl rfl (cs := [.pointer none, .int .i64 0, .int .i64 0, .bool false, .int .i64 0, .int .i64 0, .bool false, .slice none 0 0, .slice none 0 0, .bool false]) rfl hk6 (by kernel_rfl) rfl rfl ?_; intro wk hkk hsk)
        have he : rdE F true = 31 := by unfold rdE; rw [hok, hc]; rfl
        refine bodyPost_ret (ret_cell_tmp rfl _ _ rfl hkk Tryz.underlying102 rfl (by kernel_rfl)) rfl (.inl ⟨by rw [he]; decide, by rw [he]; rfl, ?_⟩)
        exact bes_then HB6.out hsk (Nat.le_succ _) HB6.out.size
      | true =>
        rw [hc] at hke
        have hke : kr.e = false := hke
        have hkr := Bk.new w5 100 [.int .i64 kr.lo.n, .int .i64 kr.lo.d, .bool kr.lo.s, .int .i64 kr.hi.n, .int .i64 kr.hi.d, .bool kr.hi.s, .slice oa (lows (linesL F (allL F))).length ca, .slice ob (ups (linesL F (allL F))).length cb, .bool false]
        have hk6 := hk5.alloc (Obj.cells #[.int .i64 kr.lo.n, .int .i64 kr.lo.d, .bool kr.lo.s, .int .i64 kr.hi.n, .int .i64 kr.hi.d, .bool kr.hi.s, .slice oa (lows (linesL F (allL F))).length ca, .slice ob (ups (linesL F (allL F))).length cb, .bool false] 100)
        have hK6 := hK5.alloc (Obj.cells #[.int .i64 kr.lo.n, .int .i64 kr.lo.d, .bool kr.lo.s, .int .i64 kr.hi.n, .int .i64 kr.hi.d, .bool kr.hi.s, .slice oa (lows (linesL F (allL F))).length ca, .slice ob (ups (linesL F (allL F))).length cb, .bool false] 100)
        have hB6 : Below w.heap.size w (w5.alloc (Obj.cells #[.int .i64 kr.lo.n, .int .i64 kr.lo.d, .bool kr.lo.s, .int .i64 kr.hi.n, .int .i64 kr.hi.d, .bool kr.hi.s, .slice oa (lows (linesL F (allL F))).length ca, .slice ob (ups (linesL F (allL F))).length cb, .bool false] 100)) := (HB2.out.trans (hb35.mono hz3)).alloc (by have := hb35.size; omega) _
        have HB6 := Lib.hid hB6
        have HK6 := Lib.hid hK6
        clear hK5 hb34 hb35 hk5 hB6 hK6
        go_wp2_with (first | (refine ld_at rfl (T := 100) rfl rfl hkr Tryz.underlying100 rfl (by kernel_rfl) ?_) | (refine st_at rfl (T := 102) rfl rfl (cs := [.pointer (some ⟨b, 0, none⟩), .int .i64 kr.lo.n, .int .i64 kr.lo.d, .bool kr.lo.s, .int .i64 kr.hi.n, .int .i64 kr.hi.d, .bool kr.hi.s, .slice oa (lows (linesL F (allL F))).length ca, .slice ob (ups (linesL F (allL F))).length cb, .bool false]) rfl hk6 (by kernel_rfl) rfl rfl ?_; intro wk hkk hsk))
        have he : rdE F true = 0 := by unfold rdE; rw [hok, hc]; rfl
        refine bodyPost_ret (ret_cell_tmp rfl _ _ rfl hkk Tryz.underlying102 rfl (by kernel_rfl)) rfl (.inr ⟨he, b, pv, .slice oa _ ca, .slice ob _ cb, by rw [HKR.out, knV, hke]; rfl, ?_, ?_⟩)
        · exact bes_then HB6.out hsk (Nat.le_succ _) HB6.out.size
        · have hbw := bes_then HB6.out hsk (Nat.le_succ _) HB6.out.size
          have hv1 : 0 < F.v.length := by have := ((okv_iff F.v).1 HK6.out.s.o.v).1; omega
          exact ⟨⟨HK6.out.s.k.bes hsk (Bk.ty HK6.out.s.k hk6 (by decide)), HF.out.below hbw, ptr_bes HK6.out.s.p hv1 hsk hk6, HK6.out.s.o⟩, lnr_bes HK6.out.a hsk hk6, lnr_bes HK6.out.b hsk hk6, HK6.out.ca, HK6.out.cb⟩
theorem fine_any (p : Value) (w : World) : Calls Tryz.prog 100 #[p] w fun e w' => e = .returned (.bool true) ∧ w' = w := by
  go_enter Tryz.func100, Tryz.ntmps100
  go_wp2
  go_ret
  exact ⟨rfl, rfl⟩
theorem fine_run (args : Array Value) (W : World) : Sem.run Tryz.prog (callFunc 100 args) W = .ok (.enter 100 args) W := by
  simp [go_sem]
theorem ready_fine (F : Fl) (vv vs : Value) (w : World) (hF : FlIn w F vv vs) :
    Calls Tryz.prog 69 #[flV F vv vs, .func (.func 100) #[] #[]] w fun e w' => RdPost F true vv vs w e w' :=
  ready_any F vv vs 100 #[] true w hF fine_run fun _ b pv W _ _ => by
    refine (fine_any _ W).mono ?_
    rintro e w' ⟨rfl, rfl⟩
    exact ⟨rfl, Below.refl _ _⟩
set_option maxRecDepth 100000 in
set_option maxHeartbeats 2000000 in
theorem Check_any (F : Fl) (vv vs : Value) (w : World) (hF : FlIn w F vv vs) : Calls Tryz.prog 37 #[flV F vv vs] w fun e w' => e = .returned (.int .i64 (chkF F)) ∧ Below w.heap.size w w' := by
  have hO := opened_any F vv vs _ (hF.alloc (flO F vv vs))
  obtain ⟨os, cs, rfl, ms⟩ := hF.s.parts
  obtain ⟨ov, cv, rfl, mv⟩ := hF.v.parts
  have HO := Lib.hid hO
  clear hO hF
  go_enter Tryz.func37, Tryz.ntmps37
  go_wp2_with fail
  refine HO.out.mono ?_
  rintro e w1 (⟨h0, rfl, hb1⟩ | ⟨b, pv, rfl, hb1, hS⟩)
  · go_wp2_with fail
    go_ret
    refine ⟨?_, belw⟩
    rw [chkF, h0]; rfl
  · have hok : okFl F = true := (okFl_iff F).2 hS.o
    go_wp2_with fail
    go_ret
    refine ⟨?_, belw⟩
    rw [chkF, hok]; rfl
set_option maxRecDepth 100000 in
set_option maxHeartbeats 2000000 in
theorem Possible_any (F : Fl) (vv vs : Value) (w : World) (hF : FlIn w F vv vs) : Calls Tryz.prog 35 #[flV F vv vs] w fun e w' => e = .returned (.tuple #[.bool (okFl F && canI F (allL F)), .int .i64 (chkF F)]) ∧ Below w.heap.size w w' := by
  have hO := ready_fine F vv vs _ (hF.alloc (flO F vv vs))
  obtain ⟨os, cs, rfl, ms⟩ := hF.s.parts
  obtain ⟨ov, cv, rfl, mv⟩ := hF.v.parts
  have HO := Lib.hid hO
  clear hO hF
  go_enter Tryz.func35, Tryz.ntmps35
  go_wp2_with fail
  refine HO.out.mono ?_
  have hd : rdE F true = if okFl F then if canI F (allL F) then 0 else 31 else 30 := rfl
  rintro e w1 (⟨h0, rfl, hb1⟩ | ⟨h0, b, pv, va, vb, rfl, hb1, hK⟩)
  · have hbw := bafter hb1
    have hz := hbw.size
    cases ho : okFl F with
    | false =>
      rw [ho] at hd
      have hd : rdE F true = 30 := hd
      rw [hd]
      go_wp2_with fail
      go_ret2
      exact ⟨by show Ending.returned (.tuple #[.bool false, .int .i64 30]) = _; simp [chkF, ho], hbw.alloc hz _⟩
    | true =>
      cases hc : canI F (allL F) with
      | false =>
        rw [ho, hc] at hd
        have hd : rdE F true = 31 := hd
        rw [hd]
        go_wp2_with fail
        go_ret2
        exact ⟨by show Ending.returned (.tuple #[.bool false, .int .i64 0]) = _; simp [chkF, ho, hc], hbw.alloc hz _⟩
      | true =>
        rw [ho, hc] at hd
        exact absurd hd h0
  · have hbw := bafter hb1
    have hz := hbw.size
    obtain ⟨oa, ca, rfl, _⟩ := hK.a.parts
    obtain ⟨ob, cb, rfl, _⟩ := hK.b.parts
    rw [h0] at hd
    obtain ⟨ho, hc⟩ : okFl F = true ∧ canI F (allL F) = true := by
      cases ho : okFl F <;> cases hc : canI F (allL F) <;> simp [ho, hc] at hd <;> exact ⟨rfl, rfl⟩
    obtain ⟨kr, hkr⟩ : ∃ r, knR F = r := ⟨_, rfl⟩
    rw [hkr]
    clear hkr
    have hbw2 := Lib.hid hbw
    clear hK hb1 hbw hd
    go_wp2_with fail
    go_ret2
    exact ⟨by show Ending.returned (.tuple #[.bool true, .int .i64 0]) = _; simp [chkF, ho, hc], hbw2.out.alloc hz _⟩
end Go.Proofs.YtnfndiafabhhdaaGreat
