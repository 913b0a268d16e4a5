/- What CheckClash accepts: one to three items; none where a case is possible (Wear). Plain. -/
import Derived.Test.YtnfndiafabhhdaaGreatD1
import Derived.Test.YtnfndiafabhhdaaGreatA5
import Derived.Test.YtnfndiafabhhdaaGreatF3
import Derived.Test.YtnfndiafabhhdaaGreatG7
import Derived.Test.YtnfndiafabhhdaaGreatH6
import Derived.Test.YtnfndiafabhhdaaGreatH7
namespace Go.Proofs.YtnfndiafabhhdaaGreat
theorem inB_in {n lo hi : Int} (h : inB n lo hi = true) : lo ≤ n ∧ n ≤ hi := by simpa [inB] using h
theorem liA_get {l : List Int} {k : Nat} (hk : k < l.length) : liA l k = l[k] := by simp [liA, hk]
theorem its_in {F : Fl} {l : List Int} (h : itsB F l = true) {k : Nat} (hk : k < l.length) : (-2 ≤ liA l k ∧ liA l k ≤ (F.s.length : Int) - 1) ∧ (0 < k → liA l (k - 1) < liA l k) := by
  have := List.all_eq_true.1 h k (List.mem_range.2 hk)
  simp only [itB, Bool.and_eq_true, Bool.not_eq_true', Bool.and_eq_false_iff, decide_eq_false_iff_not] at this
  exact ⟨inB_in this.1, fun k0 => by rcases this.2 with h | h <;> omega⟩
theorem its_lt {F : Fl} {l : List Int} (h : itsB F l = true) {j : Nat} : ∀ k : Nat, k < l.length → j < k → liA l j < liA l k := by
  intro k
  induction k with
  | zero => intro _ hj; omega
  | succ k ih =>
    intro hk hj
    have s := (its_in h hk).2 (by omega)
    rw [Nat.add_sub_cancel] at s
    rcases Nat.lt_or_ge j k with c | c
    · have := ih (by omega) c; omega
    · have : j = k := by omega
      subst this; exact s
theorem its_nd {F : Fl} {l : List Int} (h : itsB F l = true) : l.Nodup := by
  rw [List.Nodup, List.pairwise_iff_getElem]
  intro i j hi hj hij e
  have := its_lt h j hj hij
  rw [liA_get hi, liA_get hj] at this
  omega
theorem its_all {F : Fl} {l : List Int} (h : itsB F l = true) : ∀ i ∈ l, -2 ≤ i ∧ i < F.s.length := fun i hi => by
  obtain ⟨k, hk, rfl⟩ := List.getElem_of_mem hi
  have := (its_in h hk).1
  rw [liA_get hk] at this
  omega
theorem but_mem {l : List Int} {k : Nat} (hk : k < l.length) {j : Int} (hj : j ∈ l) (ne : j ≠ l[k]) : j ∈ butL l k := by
  obtain ⟨i, hi, rfl⟩ := List.getElem_of_mem hj
  unfold butL
  rw [List.mem_append]
  rcases Nat.lt_trichotomy i k with c | c | c
  · exact .inl (List.mem_take_iff_getElem.2 ⟨i, by omega, rfl⟩)
  · subst c; exact absurd rfl ne
  · exact .inr (List.mem_drop_iff_getElem.2 ⟨i - (k + 1), by omega, by congr 1; omega⟩)
theorem but_sub {l : List Int} {k : Nat} {j : Int} (hj : j ∈ butL l k) : j ∈ l := by
  unfold butL at hj
  rw [List.mem_append] at hj
  exact hj.elim List.mem_of_mem_take List.mem_of_mem_drop
structure CkOk (F : Fl) (l : List Int) : Prop where
  its : itsB F l = true
  no : canI F l = false
  min : ∀ j, j < l.length → canI F (butL l j) = true
  one : 1 ≤ l.length
  thr : l.length ≤ 3
theorem ck_ok {F : Fl} (h : OkF F) {l : List Int} (h1 : itsB F l = true) (h2 : canI F l = false) (h3 : ∀ j, j < l.length → canI F (butL l j) = true) : CkOk F l := by
  have al := its_all h1
  refine ⟨h1, h2, h3, ?_, ?_⟩
  · cases l with
    | nil => rw [can_nil h] at h2; cases h2
    | cons a l => simp
  · refine three h (fun i hi => (al i hi).2) (its_nd h1) h2 fun i hi => ?_
    obtain ⟨k, hk, rfl⟩ := List.getElem_of_mem hi
    exact ⟨butL l k, fun j hj => (al j (but_sub hj)).2, fun j hj ne => but_mem hk hj ne, h3 k hk⟩
theorem ck_of {F : Fl} {l : List Int} (h : ckV F l = 0) : CkOk F l := by
  unfold ckV at h
  split at h
  · rename_i ho
    split at h
    · rename_i hb
      simp only [ckB, Bool.and_eq_true, Bool.not_eq_true', List.all_eq_true, List.mem_range] at hb
      exact ck_ok ((okFl_iff F).1 ho) hb.1 hb.2.1 hb.2.2
    · omega
  · omega
theorem CkOk.ck {F : Fl} {l : List Int} (ho : okFl F = true) (c : CkOk F l) : ckV F l = 0 := ck_yes ho (by
  simp only [ckB, Bool.and_eq_true, Bool.not_eq_true', List.all_eq_true, List.mem_range]
  exact ⟨c.its, c.no, c.min⟩)
theorem ck_or (F : Fl) (l : List Int) : ckV F l = 0 ∨ ckV F l = 32 ∨ ckV F l = 30 := by
  unfold ckV
  split
  · split
    · exact .inl rfl
    · exact .inr (.inl rfl)
  · exact .inr (.inr rfl)
theorem allL_mm {F : Fl} {i : Int} : i ∈ allL F ↔ -2 ≤ i ∧ i < F.s.length := allI_mem (F := F)
theorem ck_can {F : Fl} (h : OkF F) (hc : canI F (allL F) = true) {l : List Int} : ckV F l ≠ 0 := fun k => by
  have c := ck_of k
  have al := its_all c.its
  have := can_sub h (J := l) (fun i hi => (allL_mm.1 hi).2) (fun i hi => allL_mm.2 (al i hi)) hc
  rw [c.no] at this
  cases this
theorem all_pw (F : Fl) : (allL F).Pairwise (· < ·) := by
  show (List.map _ _).Pairwise _
  rw [List.pairwise_map]
  exact List.pairwise_lt_range.imp fun h => by omega
theorem cl_ck {F : Fl} (h : OkF F) {L : List Int} (c : ClOk F L) : CkOk F L := by
  have pw := (all_pw F).sublist c.sub
  refine ck_ok h ?_ c.no fun j hj => c.min j hj
  refine List.all_eq_true.2 fun k hk => ?_
  rw [List.mem_range] at hk
  have m := allL_mm.1 (c.sub.subset (List.getElem_mem hk))
  simp only [itB, Bool.and_eq_true, Bool.not_eq_true', Bool.and_eq_false_iff, decide_eq_false_iff_not]
  refine ⟨?_, ?_⟩
  · rw [liA_get hk]; simp [inB]; omega
  · rcases Nat.eq_zero_or_pos k with c | c
    · exact .inl (by omega)
    · right
      rw [liA_get hk, liA_get (show k - 1 < L.length by omega)]
      have := List.pairwise_iff_getElem.1 pw (k - 1) k (by omega) hk (by omega)
      omega
end Go.Proofs.YtnfndiafabhhdaaGreat
/- How further arguments of the laws read: ratios, readings, lists, truths (Wear). -/
namespace Go.Proofs.YtnfndiafabhhdaaGreat
open Go.ChangeShapes Go.WideShapes Go.ChangeAt Go.RowKit Go.Deep
abbrev I64 (a : Int) : Prop := -9223372036854775808 ≤ a ∧ a ≤ 9223372036854775807
section
variable {H : Type} {enc : TypeId × Value → H} {W : World}
set_option maxRecDepth 200000 in
theorem two_open_bd {t : TypeId} {f0 f1 : Field} {n base : Nat} {sp : Nat → Bool} {hd : Bool} {cs : List Value} {x : DataW H × List MemPlace} (hs : Tryz.prog.underlying t = some (.struct #[f0, f1])) (hone : oneCellFields Tryz.prog #[f0, f1] = true) (hC : Tryz.prog.cellsOf t = 2)
    (t0 : Tryz.prog.underlying f0.type = some (.int .i64)) (t1 : Tryz.prog.underlying f1.type = some (.int .i64)) (h : DataW.trod enc Tryz.prog W base sp hd n t cs = some x) : ∃ a b, cs = [.int .i64 a, .int .i64 b] ∧ I64 a ∧ I64 b := by
  obtain ⟨y0, y1, m, _, hl, h0, h1⟩ := trod_struct2 hs h
  obtain ⟨o0, k0⟩ := hone_of hone 0 f0 rfl
  obtain ⟨o1, k1⟩ := hone_of hone 1 f1 rfl
  rw [hC] at hl
  obtain ⟨c0, c1, rfl⟩ := list2 hl
  · simp [o0, k0] at h0
    simp [o1, k1] at h1
    obtain ⟨a, ha, _, wa⟩ := DataW.trod_int t0 h0
    obtain ⟨b, hb, _, wb⟩ := DataW.trod_int t1 h1
    simp at ha hb
    exact ⟨a, b, by rw [ha, hb], wf_bd wa, wf_bd wb⟩
set_option maxRecDepth 200000 in
theorem ratio_open {base : Nat} {v : Value} {d : DataW H} {p : List MemPlace} (hv : Value.okWide Tryz.prog W .any base 41 v) (h : DataW.Trod enc Tryz.prog W 0 (fun _ => true) true 41 v d p) :
    ∃ a b, v = .agg #[.int .i64 a, .int .i64 b] ∧ I64 a ∧ I64 b := by
  obtain ⟨cs, rfl, hsz⟩ := okWide_struct Tryz.underlying41 hv
  obtain ⟨l⟩ := cs
  obtain ⟨fuel, hf⟩ := h
  obtain ⟨a, b, e, w1, w2⟩ := two_open_bd Tryz.underlying41 (by kernel_rfl) (by kernel_rfl) Tryz.underlying3 Tryz.underlying3 (show DataW.trod enc Tryz.prog W 0 (fun _ => true) true fuel 41 l = some (d, p) from hf)
  exact ⟨a, b, by rw [e], w1, w2⟩
structure SnI (S : Sn) : Prop where
  a : I64 S.lo
  b : I64 S.hi
  c : I64 S.k.lv
  d : I64 S.k.er
set_option maxRecDepth 200000 in
theorem seen_open {base : Nat} {v : Value} {d : DataW H} {p : List MemPlace} (hv : Value.okWide Tryz.prog W .any base 88 v) (h : DataW.Trod enc Tryz.prog W 0 (fun _ => true) true 88 v d p) :
    ∃ S : Sn, v = .agg #[.int .i64 S.lo, .int .i64 S.hi, .int .i64 S.k.lv, .int .i64 S.k.er] ∧ SnI S := by
  obtain ⟨cs, rfl, hsz⟩ := okWide_struct Tryz.underlying88 hv
  obtain ⟨l⟩ := cs
  rw [show Tryz.prog.cellsOf 88 = 4 by kernel_rfl] at hsz
  obtain ⟨c0, c1, c2, c3, rfl⟩ := list4 (show l.length = 4 from hsz)
  obtain ⟨fuel, hf⟩ := h
  have hf : DataW.trod enc Tryz.prog W 0 (fun _ => true) true fuel 88 [c0, c1, c2, c3] = some (d, p) := hf
  obtain ⟨y0, y1, m, _, hl, h0, h1⟩ := trod_struct2 Tryz.underlying88 hf
  have h0 : DataW.trod enc Tryz.prog W 0 (fun _ => true) true m 27 [c0, c1] = some y0 := by simpa [show Tryz.prog.cellsOf 27 = 2 by kernel_rfl] using h0
  have h1 : DataW.trod enc Tryz.prog W 0 (fun _ => true) true m 25 [c2, c3] = some y1 := by simpa [show Tryz.prog.cellsOf 25 = 2 by kernel_rfl] using h1
  obtain ⟨a, b, e1, w1, w2⟩ := two_open_bd Tryz.underlying27 (by kernel_rfl) (by kernel_rfl) Tryz.underlying3 Tryz.underlying3 h0
  obtain ⟨a', b', e2, w3, w4⟩ := two_open_bd Tryz.underlying25 (by kernel_rfl) (by kernel_rfl) Tryz.underlying3 Tryz.underlying3 h1
  simp at e1 e2
  exact ⟨⟨a, b, ⟨a', b'⟩⟩, by rw [e1.1, e1.2, e2.1, e2.2], w1, w2, w3, w4⟩
theorem ints_cap {n : Nat} {v : Value} {y : DataW H × List MemPlace} (h : DataW.trod enc Tryz.prog W 0 (fun _ => true) true n 51 [v] = some y) : ∃ o m c, v = .slice o m c ∧ m ≤ c := by
  rcases open_ints Tryz.underlying51 Tryz.underlying3 (by kernel_rfl) h with ⟨hcs, _⟩ | ⟨a, len, cap, zs, hcs, _, hl, _⟩
  · simp at hcs; subst hcs; exact ⟨_, _, _, rfl, Nat.le_refl _⟩
  · simp at hcs; subst hcs; exact ⟨_, _, _, rfl, hl⟩
set_option maxRecDepth 200000 in
theorem list_open {base : Nat} {v : Value} {d : DataW H} {p : List MemPlace} (_hv : Value.okWide Tryz.prog W .any base 51 v) (h : DataW.Trod enc Tryz.prog W 0 (fun _ => true) true 51 v d p) :
    ∃ l o m c, v = .slice o m c ∧ Ints W (.slice o m c) l ∧ m ≤ c := by
  obtain ⟨o, m, c, rfl⟩ := okWide_slice Tryz.underlying51 _hv
  obtain ⟨fuel, hf⟩ := h
  have hf : DataW.trod enc Tryz.prog W 0 (fun _ => true) true fuel 51 [.slice o m c] = some (d, p) := hf
  obtain ⟨l, hl⟩ := ints_of_trod hf
  obtain ⟨_, _, _, e, k⟩ := ints_cap hf
  cases e
  exact ⟨l, o, m, c, rfl, hl, k⟩
set_option maxRecDepth 200000 in
theorem truth_open {base : Nat} {v : Value} {d : DataW H} {p : List MemPlace} (hv : Value.okWide Tryz.prog W .any base 74 v) (h : DataW.Trod enc Tryz.prog W 0 (fun _ => true) true 74 v d p) :
    ∃ a b l o m c, v = .agg #[.int .i64 a, .int .i64 b, .slice o m c] ∧ (I64 a ∧ I64 b) ∧ Ints W (.slice o m c) l ∧ m ≤ c := by
  obtain ⟨cs, rfl, hsz⟩ := okWide_struct Tryz.underlying74 hv
  obtain ⟨l⟩ := cs
  rw [show Tryz.prog.cellsOf 74 = 3 by kernel_rfl] at hsz
  obtain ⟨c0, c1, c2, rfl⟩ := list3 (show l.length = 3 from hsz)
  obtain ⟨fuel, hf⟩ := h
  have hf : DataW.trod enc Tryz.prog W 0 (fun _ => true) true fuel 74 [c0, c1, c2] = some (d, p) := hf
  obtain ⟨y0, y1, y2, m, _, hl, h0, h1, h2⟩ := trod_struct3 Tryz.underlying74 hf
  have h0 : DataW.trod enc Tryz.prog W 0 (fun _ => true) true m 3 [c0] = some y0 := by simpa [show Tryz.prog.cellsOf 3 = 1 by kernel_rfl] using h0
  have h1 : DataW.trod enc Tryz.prog W 0 (fun _ => true) true m 3 [c1] = some y1 := by simpa [show Tryz.prog.cellsOf 3 = 1 by kernel_rfl] using h1
  have h2 : DataW.trod enc Tryz.prog W 0 (fun _ => true) true m 51 [c2] = some y2 := by simpa [show Tryz.prog.cellsOf 3 = 1 by kernel_rfl, show Tryz.prog.cellsOf 51 = 1 by kernel_rfl] using h2
  obtain ⟨a, ha, _, wa⟩ := DataW.trod_int Tryz.underlying3 h0
  obtain ⟨b, hb, _, wb⟩ := DataW.trod_int Tryz.underlying3 h1
  obtain ⟨l, hl⟩ := ints_of_trod h2
  obtain ⟨o, k, c, e, hk⟩ := ints_cap h2
  simp at ha hb
  subst e
  exact ⟨a, b, l, o, k, c, by rw [ha, hb], ⟨wf_bd wa, wf_bd wb⟩, hl, hk⟩
end
end Go.Proofs.YtnfndiafabhhdaaGreat
/- CheckClash, Without and Rests match the specification, which accepts what Clash returns (WearClashes): the walk. -/
namespace Go.Proofs.YtnfndiafabhhdaaGreat
open Go.ChangeShapes Go.WideShapes Go.ChangeAt Go.RowKit
def woQ (F : Fl) (n : Int) : Fl := if (okFl F && inB n 0 ((F.s.length : Int) - 1)) = true then woF F n.toNat else ⟨[], ⟨0, 0⟩, 0, 0, []⟩
def woC (F : Fl) (n : Int) : Int := if okFl F then (if inB n 0 ((F.s.length : Int) - 1) then 0 else 1) else 30
def reQ (F : Fl) : List Int := if rdE F true = 0 then reL F F.s.length else []
def WoQ (F : Fl) (n : Int) (e : Ending) (w' : World) : Prop := ∃ a b c d, e = .returned (.tuple #[flV (woQ F n) (.slice a (woQ F n).v.length b) (.slice c (woQ F n).s.length d), .int .i64 (woC F n)]) ∧ FlIn w' (woQ F n) (.slice a (woQ F n).v.length b) (.slice c (woQ F n).s.length d)
theorem wo_q {F : Fl} {n : Int} {e : Ending} {w' : World} {G : Fl} {c : Int} {v s : Value} (h1 : woQ F n = G) (h2 : woC F n = c) (h3 : e = .returned (.tuple #[flV G v s, .int .i64 c])) (h4 : FlIn w' G v s) : WoQ F n e w' := by
  subst h1 h2
  obtain ⟨a, b, rfl, _⟩ := h4.v.parts
  obtain ⟨x, y, rfl, _⟩ := h4.s.parts
  exact ⟨a, b, x, y, h3, h4⟩
def ReQ (F : Fl) (e : Ending) (w' : World) : Prop := ∃ v, e = .returned (.tuple #[v, .int .i64 (rdE F true)]) ∧ Ints w' v (reQ F)
theorem flZ_in (w : World) : FlIn w ⟨[], ⟨0, 0⟩, 0, 0, []⟩ (.slice none 0 0) (.slice none 0 0) := ⟨Row.nil _ _ _ _ _, Row.nil _ _ _ _ _⟩
theorem Without_q (F : Fl) (vv vs : Value) (n : Int) (w : World) (hF : FlIn w F vv vs) : Calls Tryz.prog 53 #[flV F vv vs, .int .i64 n] w fun e w' => WoQ F n e w' ∧ Below w.heap.size w w' := by
  refine (Without_any F vv vs n w hF).mono ?_
  rintro e w' ⟨(⟨h1, rfl⟩ | ⟨h1, h2, rfl⟩ | ⟨h1, h2, vv', vs', rfl, h3⟩), hb⟩
  · exact ⟨wo_q (by unfold woQ; rw [h1]; rfl) (by unfold woC; rw [h1]; rfl) rfl (flZ_in w'), hb⟩
  · exact ⟨wo_q (by unfold woQ; rw [h1, h2]; rfl) (by unfold woC; rw [h1, h2]; rfl) rfl (flZ_in w'), hb⟩
  · exact ⟨wo_q (by unfold woQ; rw [h1, h2]; rfl) (by unfold woC; rw [h1, h2]; rfl) rfl h3, hb⟩
theorem rWithout_q (F : Fl) (vv vs : Value) (n : Int) (w : World) (hF : FlIn w F vv vs) : Calls Tryz.prog 54 #[flV F vv vs, .int .i64 n] w fun e w' => WoQ F n e w' ∧ Below w.heap.size w w' := by
  cases h1 : okFl F with
  | false =>
    refine (rWithout_no F vv vs n w hF (.inl h1)).mono ?_
    rintro e w' ⟨rfl, hb⟩
    exact ⟨wo_q (by unfold woQ; rw [h1]; rfl) (by unfold woC; rw [h1]) (by rw [h1]; rfl) (flZ_in w'), hb⟩
  | true =>
    cases h2 : inB n 0 ((F.s.length : Int) - 1) with
    | false =>
      refine (rWithout_no F vv vs n w hF (.inr h2)).mono ?_
      rintro e w' ⟨rfl, hb⟩
      exact ⟨wo_q (by unfold woQ; rw [h1, h2]; rfl) (by unfold woC; rw [h1, h2]) (by rw [h1]; rfl) (flZ_in w'), hb⟩
    | true =>
      obtain ⟨n0, n1⟩ := inB_t h2
      obtain ⟨i, rfl⟩ : ∃ k : Nat, n = (k : Int) := ⟨n.toNat, by omega⟩
      refine (rWithout_yes F vv vs i w hF h1 (by omega)).mono ?_
      rintro e w' ⟨⟨vv', vs', rfl, h3⟩, hb⟩
      exact ⟨wo_q (by unfold woQ; rw [h1, h2]; rfl) (by unfold woC; rw [h1, h2]; rfl) rfl h3, hb⟩
theorem re_q {F : Fl} {base : Nat} {e : Ending} {w' : World} (h : RePost F base e w') : ReQ F e w' := by
  rcases h with ⟨h0, rfl⟩ | ⟨h0, v, rfl, h1⟩
  · exact ⟨_, rfl, by unfold reQ; rw [if_neg h0]; exact (Own.nil w' 0).ints⟩
  · exact ⟨v, by rw [h0], by unfold reQ; rw [if_pos h0]; exact h1.ints⟩
theorem Rests_q (F : Fl) (vv vs : Value) (w : World) (hF : FlIn w F vv vs) : Calls Tryz.prog 55 #[flV F vv vs] w fun e w' => ReQ F e w' ∧ Below w.heap.size w w' :=
  (Rests_any F vv vs w hF).mono fun _ _ h => And.intro (re_q h.1) h.2
theorem rRests_q (F : Fl) (vv vs : Value) (w : World) (hF : FlIn w F vv vs) : Calls Tryz.prog 56 #[flV F vv vs] w fun e w' => ReQ F e w' ∧ Below w.heap.size w w' :=
  (rRests_any F vv vs w hF).mono fun _ _ h => And.intro (re_q h.1) h.2
theorem woQ_len {F : Fl} {n : Int} : (woQ F n).v.length ≤ 1000 ∧ (woQ F n).s.length ≤ 1000 := by
  unfold woQ
  split
  · rename_i h
    rw [Bool.and_eq_true] at h
    have hO := (okFl_iff F).1 h.1
    have n24 := hO.n
    have hv24 : F.v.length ≤ 24 := by have := hO.v; simp only [okVs, Bool.and_eq_true, decide_eq_true_eq] at this; exact this.1.2
    have e : (woF F n.toNat).s.length ≤ F.s.length := List.length_eraseIdx_le _ _
    have e2 : (woF F n.toNat).v.length = F.v.length := rfl
    omega
  · simp
theorem reQ_len {F : Fl} : (reQ F).length ≤ 1000 := by
  unfold reQ
  split
  · rename_i h
    have := reL_len F F.s.length
    have := (rdE_ok h).n
    omega
  · simp
set_option maxRecDepth 100000 in
set_option maxHeartbeats 4000000 in
theorem law_clashes (F : Fl) (vv vs : Value) (l : List Int) (o : Option Addr) (m c : Nat) (n : Int) (w : World) (hF : FlIn w F vv vs) (hl : Ints w (.slice o m c) l ∧ m ≤ c) (_ : -9223372036854775808 ≤ n) (_ : n ≤ 9223372036854775807) :
    Calls Tryz.prog 13 #[flV F vv vs, .slice o m c, .int .i64 n] w fun e w' => e = .returned (.bool true) ∧ Below w.heap.size w w' := by
  have hmc := hl.2
  obtain ⟨os, cs, rfl, ms⟩ := hF.s.parts
  obtain ⟨ov, cv, rfl, mv⟩ := hF.v.parts
  obtain ⟨sl, hsl⟩ : ∃ k, F.s.length = k := ⟨_, rfl⟩
  obtain ⟨vl, hvl⟩ : ∃ k, F.v.length = k := ⟨_, rfl⟩
  rw [hsl] at hF ms ⊢
  rw [hvl] at hF mv ⊢
  have HSL := Lib.hid hsl
  have HVL := Lib.hid hvl
  clear hsl hvl
  have HF := Lib.hid (hF.alloc (flO F (.slice ov vl cv) (.slice os sl cs)))
  have BP := Lib.hid (Bk.new w 30 (flL F (.slice ov vl cv) (.slice os sl cs)))
  clear hF
  have HL := Lib.hid (hl.1.alloc (flO F (.slice ov vl cv) (.slice os sl cs)))
  clear hl
  go_enter Tryz.func13, Tryz.ntmps13
  go_wp2_with fail
  refine (sane_any _).mono ?_
  rintro e w1 ⟨rfl, hb⟩
  have HF1 := Lib.hid (HF.out.below hb)
  have BP1 := Lib.hid (BP.out.below hb)
  have HL1 := Lib.hid (HL.out.below hb)
  have HB1 := Lib.hid (bafter hb)
  clear hb HF BP HL
  go_wp2_with (first | (refine ld_at rfl (T := 30) rfl rfl BP1.out Tryz.underlying30 rfl (by kernel_rfl) ?_) | fail)
  obtain ⟨f, hf⟩ : ∃ f, fewB F = f := ⟨_, rfl⟩
  have HFEW := Lib.hid hf
  clear hf
  refine (few_any F _ _ _ HF1.out).mono ?_
  rw [HFEW.out]
  rintro e w2 ⟨rfl, hb⟩
  have HL2 := Lib.hid (HL1.out.below hb)
  clear HL1
  have HF2 := Lib.hid (HF1.out.below hb)
  have BP2 := Lib.hid (BP1.out.below hb)
  have HB2 := Lib.hid (bthen HB1.out hb)
  clear hb HF1 BP1 HB1
  cases f
  · go_wp2_with fail
    go_ret
    exact ⟨rfl, HB2.out⟩
  · by_cases hm : m ≤ 40
    · have c0 := BP2.out.cell 0
      have c1 := BP2.out.cell 1
      have c2 := BP2.out.cell 2
      have c3 := BP2.out.cell 3
      have c4 := BP2.out.cell 4
      have c5 := BP2.out.cell 5
      have cl := BP2.out.lt
      simp only [List.getElem?_cons_zero, List.getElem?_cons_succ] at c0 c1 c2 c3 c4 c5
      have mc := @more_cell w2
      have k1 : ∀ i : More w2, _ := fun i => more_call (CheckClash_any F _ _ l o m c i.x (HF2.out.below i.h) (HL2.out.below i.h) hmc (by omega))
      have k2 : ∀ i : More w2, _ := fun i => more_call (rCheckClash_any F _ _ l o m c i.x (HF2.out.below i.h) (HL2.out.below i.h) (by omega))
      obtain ⟨ck, hck⟩ : ∃ x, ckV F l = x := ⟨_, rfl⟩
      rw [hck] at k1 k2
      have K1 := Lib.hid k1
      have K2 := Lib.hid k2
      clear k1 k2 hck
      go_wp2_with fail
      refine wp_region_more (by kernel_rfl) (by kernel_rfl) ?_
      iterate 8 (try (first | go_big_quiet_step ((with_reducible first | exact K1.out _ | exact K2.out _)) | quiet_step ((with_reducible first | exact K1.out _ | exact K2.out _))))
      iterate 8 (try (first | go_big_quiet_step ((with_reducible first | exact K1.out _ | exact K2.out _)) | quiet_step ((with_reducible first | exact K1.out _ | exact K2.out _))))
      iterate 8 (try (first | go_big_quiet_step ((with_reducible first | exact K1.out _ | exact K2.out _)) | quiet_step ((with_reducible first | exact K1.out _ | exact K2.out _))))
      iterate 8 (try (first | go_big_quiet_step ((with_reducible first | exact K1.out _ | exact K2.out _)) | quiet_step ((with_reducible first | exact K1.out _ | exact K2.out _))))
      iterate 8 (try (first | go_big_quiet_step ((with_reducible first | exact K1.out _ | exact K2.out _)) | quiet_step ((with_reducible first | exact K1.out _ | exact K2.out _))))
      refine wpQuiet_nil ?_
      rintro ⟨wm, hbm⟩
      try dsimp only
      have HF3 := Lib.hid (HF2.out.below hbm)
      have BP3 := Lib.hid (BP2.out.below hbm)
      have HB3 := Lib.hid (bthen HB2.out hbm)
      clear hbm HF2 BP2 HB2 HL2 K1 K2 mc c0 c1 c2 c3 c4 c5 cl
      go_wp2_with (first | (refine ld_at rfl (T := 30) rfl rfl BP3.out Tryz.underlying30 rfl (by kernel_rfl) ?_) | fail)
      refine (Clash_any F _ _ _ HF3.out).mono ?_
      rintro e w4 ⟨(⟨h1, rfl⟩ | ⟨h1, h2, rfl⟩ | ⟨h1, h2, v, L, rfl, hL, ⟨o2, m2, k2, rfl, hmk⟩, hcl⟩), hb⟩
      · have HPS := Lib.hid (show (okFl F && canI F (allL F)) = false ∧ chkF F = 30 from ⟨by rw [h1]; rfl, chkF_30 h1⟩)
        clear h1
        have HF4 := Lib.hid (HF3.out.below hb)
        have BP4 := Lib.hid (BP3.out.below hb)
        have HB4 := Lib.hid (bthen HB3.out hb)
        clear hb HF3 BP3 HB3
        go_wp2_with (first | (refine ld_at rfl (T := 30) rfl rfl BP4.out Tryz.underlying30 rfl (by kernel_rfl) ?_) | fail)
        refine (rPossible_any F _ _ _ HF4.out).mono ?_
        rw [HPS.out.1, HPS.out.2]
        rintro e w5 ⟨rfl, hb⟩
        have HF5 := Lib.hid (HF4.out.below hb)
        have BP5 := Lib.hid (BP4.out.below hb)
        have HB5 := Lib.hid (bthen HB4.out hb)
        clear hb HF4 BP4 HB4
        go_wp2_with (first | (refine ld_at rfl (T := 30) rfl rfl BP5.out Tryz.underlying30 rfl (by kernel_rfl) ?_) | fail)
        refine (Without_q F _ _ n _ HF5.out).mono ?_
        rintro e w6 ⟨⟨x1, y1, x2, y2, rfl, hin1⟩, hb⟩
        have hb' := hb.alloc hb.size (flO (woQ F n) (.slice x1 (woQ F n).v.length y1) (.slice x2 (woQ F n).s.length y2))
        have HF6 := Lib.hid (HF5.out.below hb')
        have BP6 := Lib.hid (BP5.out.below hb')
        have HB6 := Lib.hid (bthen HB5.out hb')
        have hK := Bk.new w6 30 (flL' (woQ F n) (.slice x1 (woQ F n).v.length y1) (.slice x2 (woQ F n).s.length y2))
        have HK6 := Lib.hid hK
        have HI6 := Lib.hid (hin1.alloc (flO (woQ F n) (.slice x1 (woQ F n).v.length y1) (.slice x2 (woQ F n).s.length y2)))
        clear hb hb' hK hin1 HF5 BP5 HB5
        go_wp2_with (first | (refine ld_at rfl (T := 30) rfl rfl BP6.out Tryz.underlying30 rfl (by kernel_rfl) ?_) | fail)
        refine (rWithout_q F _ _ n _ HF6.out).mono ?_
        rintro e w7 ⟨⟨x3, y3, x4, y4, rfl, hin2⟩, hb⟩
        have hb' := hb.alloc hb.size (flO (woQ F n) (.slice x3 (woQ F n).v.length y3) (.slice x4 (woQ F n).s.length y4))
        have HF7 := Lib.hid (HF6.out.below hb')
        have BP7 := Lib.hid (BP6.out.below hb')
        have HB7 := Lib.hid (bthen HB6.out hb')
        have HK7 := Lib.hid (HK6.out.below hb')
        have HI7 := Lib.hid (HI6.out.below hb')
        have hK := Bk.new w7 30 (flL' (woQ F n) (.slice x3 (woQ F n).v.length y3) (.slice x4 (woQ F n).s.length y4))
        have HM7 := Lib.hid hK
        have HJ7 := Lib.hid (hin2.alloc (flO (woQ F n) (.slice x3 (woQ F n).v.length y3) (.slice x4 (woQ F n).s.length y4)))
        clear hb hb' hK hin2 HF6 BP6 HB6 HK6 HI6
        go_wp2_with (first | (refine ld_at rfl (T := 30) rfl rfl BP7.out Tryz.underlying30 rfl (by kernel_rfl) ?_) | fail)
        refine (Rests_q F _ _ _ HF7.out).mono ?_
        rintro e w8 ⟨⟨r1, rfl, hr1⟩, hb⟩
        have HK8 := Lib.hid (HK7.out.below hb)
        have HI8 := Lib.hid (HI7.out.below hb)
        have HM8 := Lib.hid (HM7.out.below hb)
        have HJ8 := Lib.hid (HJ7.out.below hb)
        have HR8 := Lib.hid hr1
        clear hr1 HK7 HI7 HM7 HJ7
        have HF8 := Lib.hid (HF7.out.below hb)
        have BP8 := Lib.hid (BP7.out.below hb)
        have HB8 := Lib.hid (bthen HB7.out hb)
        clear hb HF7 BP7 HB7
        go_wp2_with (first | (refine ld_at rfl (T := 30) rfl rfl BP8.out Tryz.underlying30 rfl (by kernel_rfl) ?_) | fail)
        refine (rRests_q F _ _ _ HF8.out).mono ?_
        rintro e w9 ⟨⟨r2, rfl, hr2⟩, hb⟩
        have HK9 := Lib.hid (HK8.out.below hb)
        have HI9 := Lib.hid (HI8.out.below hb)
        have HM9 := Lib.hid (HM8.out.below hb)
        have HJ9 := Lib.hid (HJ8.out.below hb)
        have HR9 := Lib.hid (HR8.out.below hb)
        have HS9 := Lib.hid hr2
        clear hr2 HK8 HI8 HM8 HJ8 HR8
        have HF9 := Lib.hid (HF8.out.below hb)
        have BP9 := Lib.hid (BP8.out.below hb)
        have HB9 := Lib.hid (bthen HB8.out hb)
        clear hb HF8 BP8 HB8
        go_wp2_with (first | (refine ld_at rfl (T := 30) rfl rfl HK9.out Tryz.underlying30 rfl (by kernel_rfl) ?_) | (refine ld_at rfl (T := 30) rfl rfl HM9.out Tryz.underlying30 rfl (by kernel_rfl) ?_) | fail)
        refine (rSame_any (woQ F n) _ _ _ _ _ HI9.out HJ9.out woQ_len.1 woQ_len.2).mono ?_
        rintro e w10 ⟨rfl, hb⟩
        have HR10 := Lib.hid (HR9.out.below hb)
        have HS10 := Lib.hid (HS9.out.below hb)
        have HB10 := Lib.hid (bthen HB9.out hb)
        clear hb
        go_wp2_with fail
        refine (equal_any _ _ _ _ _ HR10.out HS10.out (by have := reQ_len (F := F); omega) (by have := reQ_len (F := F); omega)).mono ?_
        rintro e w11 ⟨rfl, hb⟩
        have HB11 := Lib.hid (bthen HB10.out hb)
        rw [show (reQ F == reQ F) = true by simp]
        clear hb
        go_wp2_with fail
        go_ret
        exact ⟨by simp, HB11.out⟩
      · have HPS := Lib.hid (show (okFl F && canI F (allL F)) = true ∧ chkF F = 0 from ⟨by rw [h1, h2]; rfl, by unfold chkF; rw [if_pos h1]⟩)
        clear h1 h2
        have HF4 := Lib.hid (HF3.out.below hb)
        have BP4 := Lib.hid (BP3.out.below hb)
        have HB4 := Lib.hid (bthen HB3.out hb)
        clear hb HF3 BP3 HB3
        go_wp2_with (first | (refine ld_at rfl (T := 30) rfl rfl BP4.out Tryz.underlying30 rfl (by kernel_rfl) ?_) | fail)
        refine (rPossible_any F _ _ _ HF4.out).mono ?_
        rw [HPS.out.1, HPS.out.2]
        rintro e w5 ⟨rfl, hb⟩
        have HF5 := Lib.hid (HF4.out.below hb)
        have BP5 := Lib.hid (BP4.out.below hb)
        have HB5 := Lib.hid (bthen HB4.out hb)
        clear hb HF4 BP4 HB4
        go_wp2_with (first | (refine ld_at rfl (T := 30) rfl rfl BP5.out Tryz.underlying30 rfl (by kernel_rfl) ?_) | fail)
        refine (Without_q F _ _ n _ HF5.out).mono ?_
        rintro e w6 ⟨⟨x1, y1, x2, y2, rfl, hin1⟩, hb⟩
        have hb' := hb.alloc hb.size (flO (woQ F n) (.slice x1 (woQ F n).v.length y1) (.slice x2 (woQ F n).s.length y2))
        have HF6 := Lib.hid (HF5.out.below hb')
        have BP6 := Lib.hid (BP5.out.below hb')
        have HB6 := Lib.hid (bthen HB5.out hb')
        have hK := Bk.new w6 30 (flL' (woQ F n) (.slice x1 (woQ F n).v.length y1) (.slice x2 (woQ F n).s.length y2))
        have HK6 := Lib.hid hK
        have HI6 := Lib.hid (hin1.alloc (flO (woQ F n) (.slice x1 (woQ F n).v.length y1) (.slice x2 (woQ F n).s.length y2)))
        clear hb hb' hK hin1 HF5 BP5 HB5
        go_wp2_with (first | (refine ld_at rfl (T := 30) rfl rfl BP6.out Tryz.underlying30 rfl (by kernel_rfl) ?_) | fail)
        refine (rWithout_q F _ _ n _ HF6.out).mono ?_
        rintro e w7 ⟨⟨x3, y3, x4, y4, rfl, hin2⟩, hb⟩
        have hb' := hb.alloc hb.size (flO (woQ F n) (.slice x3 (woQ F n).v.length y3) (.slice x4 (woQ F n).s.length y4))
        have HF7 := Lib.hid (HF6.out.below hb')
        have BP7 := Lib.hid (BP6.out.below hb')
        have HB7 := Lib.hid (bthen HB6.out hb')
        have HK7 := Lib.hid (HK6.out.below hb')
        have HI7 := Lib.hid (HI6.out.below hb')
        have hK := Bk.new w7 30 (flL' (woQ F n) (.slice x3 (woQ F n).v.length y3) (.slice x4 (woQ F n).s.length y4))
        have HM7 := Lib.hid hK
        have HJ7 := Lib.hid (hin2.alloc (flO (woQ F n) (.slice x3 (woQ F n).v.length y3) (.slice x4 (woQ F n).s.length y4)))
        clear hb hb' hK hin2 HF6 BP6 HB6 HK6 HI6
        go_wp2_with (first | (refine ld_at rfl (T := 30) rfl rfl BP7.out Tryz.underlying30 rfl (by kernel_rfl) ?_) | fail)
        refine (Rests_q F _ _ _ HF7.out).mono ?_
        rintro e w8 ⟨⟨r1, rfl, hr1⟩, hb⟩
        have HK8 := Lib.hid (HK7.out.below hb)
        have HI8 := Lib.hid (HI7.out.below hb)
        have HM8 := Lib.hid (HM7.out.below hb)
        have HJ8 := Lib.hid (HJ7.out.below hb)
        have HR8 := Lib.hid hr1
        clear hr1 HK7 HI7 HM7 HJ7
        have HF8 := Lib.hid (HF7.out.below hb)
        have BP8 := Lib.hid (BP7.out.below hb)
        have HB8 := Lib.hid (bthen HB7.out hb)
        clear hb HF7 BP7 HB7
        go_wp2_with (first | (refine ld_at rfl (T := 30) rfl rfl BP8.out Tryz.underlying30 rfl (by kernel_rfl) ?_) | fail)
        refine (rRests_q F _ _ _ HF8.out).mono ?_
        rintro e w9 ⟨⟨r2, rfl, hr2⟩, hb⟩
        have HK9 := Lib.hid (HK8.out.below hb)
        have HI9 := Lib.hid (HI8.out.below hb)
        have HM9 := Lib.hid (HM8.out.below hb)
        have HJ9 := Lib.hid (HJ8.out.below hb)
        have HR9 := Lib.hid (HR8.out.below hb)
        have HS9 := Lib.hid hr2
        clear hr2 HK8 HI8 HM8 HJ8 HR8
        have HF9 := Lib.hid (HF8.out.below hb)
        have BP9 := Lib.hid (BP8.out.below hb)
        have HB9 := Lib.hid (bthen HB8.out hb)
        clear hb HF8 BP8 HB8
        go_wp2_with (first | (refine ld_at rfl (T := 30) rfl rfl HK9.out Tryz.underlying30 rfl (by kernel_rfl) ?_) | (refine ld_at rfl (T := 30) rfl rfl HM9.out Tryz.underlying30 rfl (by kernel_rfl) ?_) | fail)
        refine (rSame_any (woQ F n) _ _ _ _ _ HI9.out HJ9.out woQ_len.1 woQ_len.2).mono ?_
        rintro e w10 ⟨rfl, hb⟩
        have HR10 := Lib.hid (HR9.out.below hb)
        have HS10 := Lib.hid (HS9.out.below hb)
        have HB10 := Lib.hid (bthen HB9.out hb)
        clear hb
        go_wp2_with fail
        refine (equal_any _ _ _ _ _ HR10.out HS10.out (by have := reQ_len (F := F); omega) (by have := reQ_len (F := F); omega)).mono ?_
        rintro e w11 ⟨rfl, hb⟩
        have HB11 := Lib.hid (bthen HB10.out hb)
        rw [show (reQ F == reQ F) = true by simp]
        clear hb
        go_wp2_with fail
        go_ret
        exact ⟨by simp, HB11.out⟩
      · have HPS := Lib.hid (show (okFl F && canI F (allL F)) = false ∧ chkF F = 0 from ⟨by rw [h1, h2]; rfl, by unfold chkF; rw [if_pos h1]⟩)
        have hck := cl_ck ((okFl_iff F).1 h1) hcl
        have hlen := hL.len
        have hm2 : 1 ≤ m2 ∧ m2 ≤ 3 := by have := hck.one; have := hck.thr; omega
        obtain ⟨hm21, hm22⟩ := hm2
        have HCK := Lib.hid (hck.ck h1)
        have HQ4 := Lib.hid hL
        clear h1 h2 hck hcl hL hlen
        have HF4 := Lib.hid (HF3.out.below hb)
        have BP4 := Lib.hid (BP3.out.below hb)
        have HB4 := Lib.hid (bthen HB3.out hb)
        clear hb HF3 BP3 HB3
        go_wp2_with (first | (refine ld_at rfl (T := 30) rfl rfl BP4.out Tryz.underlying30 rfl (by kernel_rfl) ?_) | fail)
        refine (rPossible_any F _ _ _ HF4.out).mono ?_
        rw [HPS.out.1, HPS.out.2]
        rintro e w50 ⟨rfl, hb⟩
        have HQ5 := Lib.hid (HQ4.out.below hb)
        clear HQ4
        have HF50 := Lib.hid (HF4.out.below hb)
        have BP50 := Lib.hid (BP4.out.below hb)
        have HB50 := Lib.hid (bthen HB4.out hb)
        clear hb HF4 BP4 HB4
        have c0 := BP50.out.cell 0
        have c1 := BP50.out.cell 1
        have c2 := BP50.out.cell 2
        have c3 := BP50.out.cell 3
        have c4 := BP50.out.cell 4
        have c5 := BP50.out.cell 5
        have cl := BP50.out.lt
        simp only [List.getElem?_cons_zero, List.getElem?_cons_succ] at c0 c1 c2 c3 c4 c5
        go_wp2_with fail
        clear c0 c1 c2 c3 c4 c5 cl
        refine (rCheckClash_any F _ _ L o2 m2 k2 _ HF50.out HQ5.out (by omega)).mono ?_
        rw [HCK.out]
        rintro e w5 ⟨rfl, hb⟩
        clear HQ5
        have HF5 := Lib.hid (HF50.out.below hb)
        have BP5 := Lib.hid (BP50.out.below hb)
        have HB5 := Lib.hid (bthen HB50.out hb)
        clear hb HF50 BP50 HB50
        go_wp2_with (first | (refine ld_at rfl (T := 30) rfl rfl BP5.out Tryz.underlying30 rfl (by kernel_rfl) ?_) | fail)
        refine (Without_q F _ _ n _ HF5.out).mono ?_
        rintro e w6 ⟨⟨x1, y1, x2, y2, rfl, hin1⟩, hb⟩
        have hb' := hb.alloc hb.size (flO (woQ F n) (.slice x1 (woQ F n).v.length y1) (.slice x2 (woQ F n).s.length y2))
        have HF6 := Lib.hid (HF5.out.below hb')
        have BP6 := Lib.hid (BP5.out.below hb')
        have HB6 := Lib.hid (bthen HB5.out hb')
        have hK := Bk.new w6 30 (flL' (woQ F n) (.slice x1 (woQ F n).v.length y1) (.slice x2 (woQ F n).s.length y2))
        have HK6 := Lib.hid hK
        have HI6 := Lib.hid (hin1.alloc (flO (woQ F n) (.slice x1 (woQ F n).v.length y1) (.slice x2 (woQ F n).s.length y2)))
        clear hb hb' hK hin1 HF5 BP5 HB5
        go_wp2_with (first | (refine ld_at rfl (T := 30) rfl rfl BP6.out Tryz.underlying30 rfl (by kernel_rfl) ?_) | fail)
        refine (rWithout_q F _ _ n _ HF6.out).mono ?_
        rintro e w7 ⟨⟨x3, y3, x4, y4, rfl, hin2⟩, hb⟩
        have hb' := hb.alloc hb.size (flO (woQ F n) (.slice x3 (woQ F n).v.length y3) (.slice x4 (woQ F n).s.length y4))
        have HF7 := Lib.hid (HF6.out.below hb')
        have BP7 := Lib.hid (BP6.out.below hb')
        have HB7 := Lib.hid (bthen HB6.out hb')
        have HK7 := Lib.hid (HK6.out.below hb')
        have HI7 := Lib.hid (HI6.out.below hb')
        have hK := Bk.new w7 30 (flL' (woQ F n) (.slice x3 (woQ F n).v.length y3) (.slice x4 (woQ F n).s.length y4))
        have HM7 := Lib.hid hK
        have HJ7 := Lib.hid (hin2.alloc (flO (woQ F n) (.slice x3 (woQ F n).v.length y3) (.slice x4 (woQ F n).s.length y4)))
        clear hb hb' hK hin2 HF6 BP6 HB6 HK6 HI6
        go_wp2_with (first | (refine ld_at rfl (T := 30) rfl rfl BP7.out Tryz.underlying30 rfl (by kernel_rfl) ?_) | fail)
        refine (Rests_q F _ _ _ HF7.out).mono ?_
        rintro e w8 ⟨⟨r1, rfl, hr1⟩, hb⟩
        have HK8 := Lib.hid (HK7.out.below hb)
        have HI8 := Lib.hid (HI7.out.below hb)
        have HM8 := Lib.hid (HM7.out.below hb)
        have HJ8 := Lib.hid (HJ7.out.below hb)
        have HR8 := Lib.hid hr1
        clear hr1 HK7 HI7 HM7 HJ7
        have HF8 := Lib.hid (HF7.out.below hb)
        have BP8 := Lib.hid (BP7.out.below hb)
        have HB8 := Lib.hid (bthen HB7.out hb)
        clear hb HF7 BP7 HB7
        go_wp2_with (first | (refine ld_at rfl (T := 30) rfl rfl BP8.out Tryz.underlying30 rfl (by kernel_rfl) ?_) | fail)
        refine (rRests_q F _ _ _ HF8.out).mono ?_
        rintro e w9 ⟨⟨r2, rfl, hr2⟩, hb⟩
        have HK9 := Lib.hid (HK8.out.below hb)
        have HI9 := Lib.hid (HI8.out.below hb)
        have HM9 := Lib.hid (HM8.out.below hb)
        have HJ9 := Lib.hid (HJ8.out.below hb)
        have HR9 := Lib.hid (HR8.out.below hb)
        have HS9 := Lib.hid hr2
        clear hr2 HK8 HI8 HM8 HJ8 HR8
        have HF9 := Lib.hid (HF8.out.below hb)
        have BP9 := Lib.hid (BP8.out.below hb)
        have HB9 := Lib.hid (bthen HB8.out hb)
        clear hb HF8 BP8 HB8
        go_wp2_with (first | (refine ld_at rfl (T := 30) rfl rfl HK9.out Tryz.underlying30 rfl (by kernel_rfl) ?_) | (refine ld_at rfl (T := 30) rfl rfl HM9.out Tryz.underlying30 rfl (by kernel_rfl) ?_) | fail)
        refine (rSame_any (woQ F n) _ _ _ _ _ HI9.out HJ9.out woQ_len.1 woQ_len.2).mono ?_
        rintro e w10 ⟨rfl, hb⟩
        have HR10 := Lib.hid (HR9.out.below hb)
        have HS10 := Lib.hid (HS9.out.below hb)
        have HB10 := Lib.hid (bthen HB9.out hb)
        clear hb
        go_wp2_with fail
        refine (equal_any _ _ _ _ _ HR10.out HS10.out (by have := reQ_len (F := F); omega) (by have := reQ_len (F := F); omega)).mono ?_
        rintro e w11 ⟨rfl, hb⟩
        have HB11 := Lib.hid (bthen HB10.out hb)
        rw [show (reQ F == reQ F) = true by simp]
        clear hb
        go_wp2_with fail
        go_ret
        exact ⟨by simp, HB11.out⟩
    · go_wp2_with fail
      go_ret
      exact ⟨rfl, HB2.out⟩
end Go.Proofs.YtnfndiafabhhdaaGreat
