/- The frame of the laws: how the arguments read, what the statement asks behind the call, a world for the witness. -/
import Derived.Test.YtnfndiafabhhdaaGreatF2
import Derived.Test.YtnfndiafabhhdaaGreatRows
import Derived.ProofKit
import Derived.OpenShut
import Derived.Lib.SmallJoins
import Derived.Deep.Slices
import Derived.Deep.Strs
import Derived.Below
import Derived.ChangeSame
import Derived.Carry
namespace Go.Proofs.YtnfndiafabhhdaaGreat
open Go.ChangeShapes Go.WideShapes Go.ChangeAt Go.RowKit Go.Deep
theorem own : ownKnob Tryz.prog.godebug = none := by kernel_rfl
theorem laidOut : laidOutB Tryz.prog = true := by kernel_rfl
section
variable {H : Type} {enc : TypeId × Value → H} {P : Program}
theorem trodAll_stays (hl : laidOutB P = true) {W W' : World} {sp : Nat → Bool} (hb : Below W.heap.size W W') : ∀ {ts : List TypeId} {vs : List Value} {ds : List (DataW H)} {ps : List MemPlace},
    (∀ t ∈ ts, P.readableRec t = true ∧ t < P.types.size) → DataW.TrodAll enc P W 0 (fun _ => true) true ts vs ds ps → (∀ p ∈ ps, p.block < W.heap.size) → (∀ p ∈ ps, sp p.block = true) → DataW.TrodAll enc P W' 0 sp true ts vs ds ps
  | [], _, _, _, _, h, _, _ => by
    obtain ⟨rfl, rfl, rfl⟩ := trodAll_nil h
    exact trodAll_mk0
  | t :: ts, _, _, _, hr, h, hlt, hs => by
    obtain ⟨v, vs, d, ds, p, q, rfl, rfl, rfl, h1, h2⟩ := trodAll_cons h
    have hp : ∀ x ∈ p, x.block < W.heap.size := fun x hx => hlt x (by simp [hx])
    have hq : ∀ x ∈ q, x.block < W.heap.size := fun x hx => hlt x (by simp [hx])
    exact trodAll_cons_mk (WideElems.Trod_stays hl (hr t (by simp)).1 (hr t (by simp)).2 h1 (fun x hx => hb.same (hp x hx)) (fun x hx => hs x (by simp [hx])))
      (trodAll_stays hl hb (fun t' ht' => hr t' (by simp [ht'])) h2 hq (fun x hx => hs x (by simp [hx])))
theorem post_of_below {f : Func} {s : ChangeSpec} {apart fresh handsOn again : Bool} {W W' : World} {args : Array Value} {v : Value} {ds gs : List (DataW H)} {before pa pv : List MemPlace}
    (hW : DataW.Whole enc P f.params.toList s.vars apart W args.toList ds gs before)
    (hres : ∀ (b : Nat) (sp : Nat → Bool) (hd : Bool), DataW.TrodAll enc P W' b sp hd f.resultTypes.toList (v.resultList f.resultTypes.size) (s.fn H (ds ++ gs)).results [])
    (hargs : ∀ sp : Nat → Bool, (∀ p ∈ before, sp p.block = true) → DataW.TrodAll enc P W' 0 sp true f.params.toList args.toList (s.fn H (ds ++ gs)).args pa)
    (hvars : ∀ sp : Nat → Bool, (∀ p ∈ before, sp p.block = true) → DataW.TrodVars enc P W' sp s.vars (s.fn H (ds ++ gs)).vars pv)
    (hps : before = pa ++ pv) (hb : Below W.heap.size W W')
    (hok : ∀ (j : Nat) (t : TypeId) (r : Value), f.resultTypes[j]? = some t → (v.resultList f.resultTypes.size)[j]? = some r → Value.okWide P W' .any 0 t r) :
    s.post enc P f apart fresh handsOn again W args v W' := by
  have hlt : ∀ p ∈ before, p.block < W.heap.size := fun p hp => hW.lt p hp
  have hold : ∀ p ∈ before, (fun b => decide (b < W.heap.size)) p.block = true := fun p hp => by simpa using hlt p hp
  refine ⟨ds, gs, before, [], pa, pv, hW, hres _ _ _, hargs _ hold, hvars _ hold, World.keptBut_mono (fun p hp => ⟨hp, ?_⟩) (hb.frame (· ∈ before)), fun _ => ?_⟩
  · rw [hps, List.mem_append] at hp
    exact Or.inr hp
  · obtain ⟨_, _, _, _, _, hz, hn⟩ := hW
    refine ⟨hok, _, _, ([] ++ pa) ++ pv, ⟨[] ++ pa, pv, trodAll_append (hargs _ (fun _ _ => rfl)) (hres _ _ _), hvars _ (fun _ _ => rfl), rfl, ?_, ?_⟩, ?_⟩
    · intro b off hp
      have hin : MemPlace.cell b off ∈ before := by rw [hps]; simpa using hp
      rw [hb.frozen (hlt _ hin)]
      exact hz b off hin
    · intro ha
      have := hn ha
      rw [hps] at this
      simpa using this
    · intro p hp _
      rw [hps]
      simpa using hp
theorem law_post {f : Func} {s : ChangeSpec} {apart fresh handsOn again : Bool} {W W' : World} {args : Array Value} {ds gs : List (DataW H)} {before : List MemPlace} {tb : TypeId}
    (hl : laidOutB P = true) (hr : ∀ t ∈ f.params.toList, P.readableRec t = true ∧ t < P.types.size) (hv : s.vars = []) (hrt : f.resultTypes = #[tb]) (htb : P.underlying tb = some .bool)
    (hfn : s.fn H (ds ++ gs) = { results := [.lit (.bool true)], args := ds })
    (hW : DataW.Whole enc P f.params.toList s.vars apart W args.toList ds gs before) (hb : Below W.heap.size W W') : s.post enc P f apart fresh handsOn again W args (.bool true) W' := by
  have hlt : ∀ p ∈ before, p.block < W.heap.size := fun p hp => hW.lt p hp
  have hW0 := hW
  obtain ⟨pa, q, hA, hV, rfl, hz, hn⟩ := hW
  rw [hv] at hV
  obtain ⟨rfl, rfl⟩ := trodVars_none hV
  have hlt' : ∀ p ∈ pa, p.block < W.heap.size := fun p hp => hlt p (by simp [hp])
  refine post_of_below (pa := pa) (pv := []) hW0 (fun b sp hd => ?_) (fun sp hs => ?_) (fun sp _ => ?_) rfl hb (ok_one hrt rfl (okWide_bool_mk htb _))
  · rw [hrt, hfn]; exact trodAll_cons_mk (shut_bool htb _) trodAll_mk0
  · rw [hfn]; exact trodAll_stays hl hb hr hA hlt' (fun x hx => hs x (by simp [hx]))
  · rw [hv, hfn]; rfl
end
theorem ints_of_trod {H : Type} {enc : TypeId × Value → H} {W : World} {n : Nat} {v : Value} {y : DataW H × List MemPlace} (h : DataW.trod enc Tryz.prog W 0 (fun _ => true) true n 51 [v] = some y) : ∃ l, Ints W v l := by
  rcases open_ints Tryz.underlying51 Tryz.underlying3 (by kernel_rfl) h with ⟨hcs, _⟩ | ⟨a, len, cap, zs, hcs, _, hl, hm, hz, _, hcell, _⟩
  · simp at hcs; subst hcs
    exact ⟨[], .inl ⟨rfl, _, _, rfl⟩⟩
  · simp at hcs; subst hcs
    simp only [if_true] at hz
    by_cases h0 : len = 0
    · subst h0; exact ⟨[], .inl ⟨rfl, _, _, rfl⟩⟩
    · obtain ⟨b, off, spot⟩ := a
      have hspot : spot = none := by simpa [Addr.add] using World.cell?_spot (hcell 0 (by omega))
      subst hspot
      have hlen : (zs.take len).length = len := by simp; omega
      refine ⟨zs.take len, .inr ⟨b, off, cap, by rw [hlen], by omega, by rw [hlen]; unfold maxLen at hm; omega, ?_, fun j hj => ?_⟩⟩
      · exact World.block_lt_of_cell? W _ (by have := hcell 0 (by omega); simpa [Addr.add] using this)
      · rw [hlen] at hj
        have := hcell j (by omega)
        rw [add_plain] at this
        rw [this, List.getElem?_take_of_lt hj]
        simp [List.getD]
theorem and_true_of {a b : Bool} (h : a = true) (k : b = true) : (a && b) = true := by rw [h, k]; rfl
theorem list2 {α : Type} {l : List α} (h : l.length = 2) : ∃ a b, l = [a, b] := by
  match l, h with
  | [a, b], _ => exact ⟨a, b, rfl⟩
theorem list3 {α : Type} {l : List α} (h : l.length = 3) : ∃ a b c, l = [a, b, c] := by
  match l, h with
  | [a, b, c], _ => exact ⟨a, b, c, rfl⟩
theorem list4 {α : Type} {l : List α} (h : l.length = 4) : ∃ a b c d, l = [a, b, c, d] := by
  match l, h with
  | [a, b, c, d], _ => exact ⟨a, b, c, d, rfl⟩
theorem list6 {α : Type} {l : List α} (h : l.length = 6) : ∃ a b c d e f, l = [a, b, c, d, e, f] := by
  match l, h with
  | [a, b, c, d, e, f], _ => exact ⟨a, b, c, d, e, f, rfl⟩
section
variable {H : Type} {enc : TypeId × Value → H} {W : World}
set_option maxRecDepth 200000 in
theorem two_open {t : TypeId} {f0 f1 : Field} {n base : Nat} {sp : Nat → Bool} {hd : Bool} {cs : List Value} {x : DataW H × List MemPlace} (hs : Tryz.prog.underlying t = some (.struct #[f0, f1])) (hone : oneCellFields Tryz.prog #[f0, f1] = true) (hC : Tryz.prog.cellsOf t = 2)
    (t0 : Tryz.prog.underlying f0.type = some (.int .i64)) (t1 : Tryz.prog.underlying f1.type = some (.int .i64)) (h : DataW.trod enc Tryz.prog W base sp hd n t cs = some x) : ∃ a b, cs = [.int .i64 a, .int .i64 b] := by
  obtain ⟨y0, y1, m, _, hl, h0, h1⟩ := trod_struct2 hs h
  obtain ⟨o0, k0⟩ := hone_of hone 0 f0 rfl
  obtain ⟨o1, k1⟩ := hone_of hone 1 f1 rfl
  rw [hC] at hl
  obtain ⟨c0, c1, rfl⟩ := list2 hl
  · simp [o0, k0] at h0
    simp [o1, k1] at h1
    obtain ⟨a, ha, _, _⟩ := DataW.trod_int t0 h0
    obtain ⟨b, hb, _, _⟩ := DataW.trod_int t1 h1
    simp at ha hb
    exact ⟨a, b, by rw [ha, hb]⟩
set_option maxRecDepth 200000 in
theorem ring_open {n base : Nat} {sp : Nat → Bool} {hd : Bool} {cs : List Value} {x : DataW H × List MemPlace} (h : DataW.trod enc Tryz.prog W base sp hd n 169 cs = some x) : ∃ r : Rg, cs = [.int .i64 r.h, .int .i64 r.v, .int .i64 r.d] := by
  obtain ⟨y0, y1, y2, m, _, hl, h0, h1, h2⟩ := trod_struct3 Tryz.underlying169 h
  rw [show Tryz.prog.cellsOf 169 = 3 by kernel_rfl] at hl
  obtain ⟨c0, c1, c2, rfl⟩ := list3 hl
  · have h0 : DataW.trod enc Tryz.prog W base sp hd m 3 [c0] = some y0 := by simpa [show Tryz.prog.cellsOf 3 = 1 by kernel_rfl] using h0
    have h1 : DataW.trod enc Tryz.prog W base sp hd m 3 [c1] = some y1 := by simpa [show Tryz.prog.cellsOf 3 = 1 by kernel_rfl] using h1
    have h2 : DataW.trod enc Tryz.prog W base sp hd m 3 [c2] = some y2 := by simpa [show Tryz.prog.cellsOf 3 = 1 by kernel_rfl] using h2
    obtain ⟨a, ha, _, _⟩ := DataW.trod_int Tryz.underlying3 h0
    obtain ⟨b, hb, _, _⟩ := DataW.trod_int Tryz.underlying3 h1
    obtain ⟨c, hc, _, _⟩ := DataW.trod_int Tryz.underlying3 h2
    simp at ha hb hc
    exact ⟨⟨a, b, c⟩, by rw [ha, hb, hc]⟩
theorem span_open {n base : Nat} {sp : Nat → Bool} {hd : Bool} {cs : List Value} {x : DataW H × List MemPlace} (h : DataW.trod enc Tryz.prog W base sp hd n 27 cs = some x) : ∃ a b, cs = [.int .i64 a, .int .i64 b] :=
  two_open Tryz.underlying27 (by kernel_rfl) (by kernel_rfl) Tryz.underlying3 Tryz.underlying3 h
theorem look_open {n base : Nat} {sp : Nat → Bool} {hd : Bool} {cs : List Value} {x : DataW H × List MemPlace} (h : DataW.trod enc Tryz.prog W base sp hd n 25 cs = some x) : ∃ a b, cs = [.int .i64 a, .int .i64 b] :=
  two_open Tryz.underlying25 (by kernel_rfl) (by kernel_rfl) Tryz.underlying3 Tryz.underlying3 h
set_option maxRecDepth 200000 in
theorem snc_open {n base : Nat} {sp : Nat → Bool} {hd : Bool} {cs : List Value} {x : DataW H × List MemPlace} (h : DataW.trod enc Tryz.prog W base sp hd n 88 cs = some x) : ∃ s : Sn, cs = [.int .i64 s.lo, .int .i64 s.hi, .int .i64 s.k.lv, .int .i64 s.k.er] := by
  obtain ⟨y0, y1, m, _, hl, h0, h1⟩ := trod_struct2 Tryz.underlying88 h
  rw [show Tryz.prog.cellsOf 88 = 4 by kernel_rfl] at hl
  obtain ⟨c0, c1, c2, c3, rfl⟩ := list4 hl
  · have h0 : DataW.trod enc Tryz.prog W base sp hd m 27 [c0, c1] = some y0 := by simpa [show Tryz.prog.cellsOf 27 = 2 by kernel_rfl] using h0
    have h1 : DataW.trod enc Tryz.prog W base sp hd m 25 [c2, c3] = some y1 := by simpa [show Tryz.prog.cellsOf 25 = 2 by kernel_rfl] using h1
    obtain ⟨a, b, e1⟩ := span_open h0
    obtain ⟨c, d, e2⟩ := look_open h1
    simp at e1 e2
    exact ⟨⟨a, b, ⟨c, d⟩⟩, by rw [e1.1, e1.2, e2.1, e2.2]⟩
set_option maxRecDepth 200000 in
theorem rows_open {α : Type} {t e : TypeId} {k n : Nat} {v : Value} {y : DataW H × List MemPlace} (cells : α → List Value) (f : List α → Nat → Nat → Value) (a0 : α) (hk : 0 < k) (ht : Tryz.prog.underlying t = some (.slice e)) (hC : Tryz.prog.cellsOf e = k)
    (hP : ∀ m cs x, DataW.trod enc Tryz.prog W 0 (fun _ => true) true m e cs = some x → ∃ A : α, cs = cells A) (hf : ∀ (l : List α) (i j : Nat) (A : α), l[i]? = some A → j < k → (cells A)[j]? = some (f l i j))
    (h : DataW.trod enc Tryz.prog W 0 (fun _ => true) true n t [v] = some y) : ∃ l : List α, Row W v k l.length (f l) := by
  rcases open_slice ht h with ⟨hcs, _⟩ | ⟨a, len, cap, m, n, D, Pl, hcs, _, hl, hm, hmm, _, hx⟩
  · simp at hcs; subst hcs
    exact ⟨[], Row.nil _ _ _ _ _⟩
  · simp at hcs; subst hcs
    simp only [if_true] at hmm
    subst hmm
    have each : ∀ i, ∃ A : α, i < len → ∃ cs', W.cells? 0 (a.add (i * k)) k = some cs' ∧ cs' = cells A := by
      intro i
      by_cases hi : i < len
      · obtain ⟨cs', h1, h2⟩ := hx i (by omega)
        obtain ⟨A, hA⟩ := hP _ _ _ h2
        rw [hC] at h1
        exact ⟨A, fun _ => ⟨cs', h1, hA⟩⟩
      · exact ⟨a0, fun h => absurd h hi⟩
    obtain ⟨F, hF⟩ : ∃ F : Nat → α, ∀ i, i < len → ∃ cs', W.cells? 0 (a.add (i * k)) k = some cs' ∧ cs' = cells (F i) := ⟨fun i => Classical.choose (each i), fun i => Classical.choose_spec (each i)⟩
    have hcell : ∀ i j, i < len → j < k → W.cell? ((a.add (i * k)).add j) = some (f ((List.range len).map F) i j) := by
      intro i j hi hj
      obtain ⟨cs', h1, h2⟩ := hF i hi
      obtain ⟨_, hlen, hc⟩ := World.cells?_some h1
      have h3 := hf ((List.range len).map F) i j (F i) (by simp [hi]) hj
      rw [hc j hj, h2, h3]
    refine ⟨(List.range len).map F, some a, m, by simp, by simp; unfold maxLen at hm; omega, fun h0 => ?_⟩
    have h0 : 0 < len := by simpa using h0
    obtain ⟨b, off, spot⟩ := a
    have hspot : spot = none := by simpa [Addr.add] using World.cell?_spot (hcell 0 0 h0 hk)
    subst hspot
    refine ⟨b, off, rfl, ?_, fun i j hi hj => ?_⟩
    · have := hcell 0 0 h0 hk
      exact World.block_lt_of_cell? W _ (by simpa [Addr.add] using this)
    · have := hcell i j (by simpa using hi) hj
      rw [add_add, add_off, show off + (i * k + j) = off + i * k + j by omega] at this
      exact this
set_option maxRecDepth 200000 in
theorem fl_open {base : Nat} {v : Value} {d : DataW H} {p : List MemPlace} (hv : Value.okWide Tryz.prog W .any base 30 v) (h : DataW.Trod enc Tryz.prog W 0 (fun _ => true) true 30 v d p) :
    ∃ F vv vs, v = flV F vv vs ∧ FlIn W F vv vs := by
  obtain ⟨cs, rfl, hsz⟩ := okWide_struct Tryz.underlying30 hv
  rw [show Tryz.prog.cellsOf 30 = 6 by kernel_rfl] at hsz
  obtain ⟨l⟩ := cs
  obtain ⟨c0, c1, c2, c3, c4, c5, rfl⟩ := list6 (show l.length = 6 from hsz)
  obtain ⟨fuel, hf⟩ := h
  obtain ⟨y0, y1, y2, y3, m, _, _, h0, h1, h2, h3⟩ := Joins.trod_struct4 Tryz.underlying30 hf
  · have h0 : DataW.trod enc Tryz.prog W 0 (fun _ => true) true m 23 [c0] = some y0 := by simpa [Value.cells, show Tryz.prog.cellsOf 23 = 1 by kernel_rfl] using h0
    have h1 : DataW.trod enc Tryz.prog W 0 (fun _ => true) true m 25 [c1, c2] = some y1 := by simpa [Value.cells, show Tryz.prog.cellsOf 25 = 2 by kernel_rfl] using h1
    have h2 : DataW.trod enc Tryz.prog W 0 (fun _ => true) true m 27 [c3, c4] = some y2 := by simpa [Value.cells, show Tryz.prog.cellsOf 27 = 2 by kernel_rfl] using h2
    have h3 : DataW.trod enc Tryz.prog W 0 (fun _ => true) true m 28 [c5] = some y3 := by simpa [Value.cells, show Tryz.prog.cellsOf 28 = 1 by kernel_rfl] using h3
    obtain ⟨a, b, e1⟩ := look_open h1
    obtain ⟨c, d, e2⟩ := span_open h2
    simp at e1 e2
    obtain ⟨lv, hlv⟩ := rows_open (k := 3) (fun r : Rg => [.int .i64 r.h, .int .i64 r.v, .int .i64 r.d]) rgF ⟨1, 1, 1⟩ (by decide) Tryz.underlying23 (by kernel_rfl) (fun _ _ _ => ring_open) (fun l i j A hA hj => by
      have : rg l i = A := by simp [rg, hA]
      have hj3 : j = 0 ∨ j = 1 ∨ j = 2 := by omega
      rcases hj3 with rfl | rfl | rfl <;> simp [rgF, this]) h0
    obtain ⟨ls, hls⟩ := rows_open (k := 4) (fun s : Sn => [.int .i64 s.lo, .int .i64 s.hi, .int .i64 s.k.lv, .int .i64 s.k.er]) snF ⟨0, 0, ⟨0, 0⟩⟩ (by decide) Tryz.underlying28 (by kernel_rfl) (fun _ _ _ => snc_open) (fun l i j A hA hj => by
      have : snA l i = A := by simp [snA, hA]
      have hj4 : j = 0 ∨ j = 1 ∨ j = 2 ∨ j = 3 := by omega
      rcases hj4 with rfl | rfl | rfl | rfl <;> simp [snF, this]) h3
    refine ⟨⟨lv, ⟨a, b⟩, c, d, ls⟩, c0, c5, ?_, ⟨hlv, hls⟩⟩
    rw [e1.1, e1.2, e2.1, e2.2]
end
theorem wf_bd {n : Int} (h : (Lit.int .i64 n).wf = true) : -9223372036854775808 ≤ n ∧ n ≤ 9223372036854775807 := by
  have h1 : IntKind.i64.min = -9223372036854775808 := rfl
  have h2 : IntKind.i64.max = 9223372036854775807 := rfl
  simp only [Lit.wf, Bool.and_eq_true, decide_eq_true_eq] at h
  omega
set_option maxRecDepth 200000 in
theorem int_open {H : Type} {enc : TypeId × Value → H} {W : World} {base : Nat} {v : Value} {d : DataW H} {p : List MemPlace} (hv : Value.okWide Tryz.prog W .any base 3 v) (h : DataW.Trod enc Tryz.prog W 0 (fun _ => true) true 3 v d p) :
    ∃ n, v = .int .i64 n ∧ -9223372036854775808 ≤ n ∧ n ≤ 9223372036854775807 := by
  obtain ⟨m, rfl, _, _, wm⟩ := open_int Tryz.underlying3 hv h
  exact ⟨m, rfl, wf_bd wm⟩
end Go.Proofs.YtnfndiafabhhdaaGreat
