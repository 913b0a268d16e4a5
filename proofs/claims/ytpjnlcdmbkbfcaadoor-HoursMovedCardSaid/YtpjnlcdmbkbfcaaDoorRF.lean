/- A region that draws its order, walked once within a round of a loop over a function; the days from one to another one as an iterator: its contract. -/
import Derived.RangeFuncNested
import Derived.RangeFuncBound
import Derived.RangeFuncCalls
import Derived.RangeFuncLeaves
import Derived.RangeFuncFrom
import Derived.Shelf.Abstract
import Derived.OwnWalkIn
import Derived.TacticsInMore
import Derived.RegionIn
import Derived.LoopNIn
import Derived.LoopIn
import Derived.Laws.EntriesVeiled
import Derived.Test.YtpjnlcdmbkbfcaaDoorBase
import Derived.Test.YtpjnlcdmbkbfcaaDoorProg
namespace Go.Proofs.YtpjnlcdmbkbfcaaDoor
open Go.ChangeShapes Go.WideShapes Go.ChangeAt Go.RowKit Go.Shelf
attribute [local go_sem] Oper.semAt_some

section
variable {P : Program} {ops : Array Oper} {md : Region.Mode} {C : World → Prop} {n l : Nat}
def noDefer (ops : List Oper) : Bool := ops.all fun o => match o.op with | .defer _ => false | _ => true
theorem noDefer_at {ops : List Oper} (h : noDefer ops = true) {o : Oper} (ho : o ∈ ops) : ∀ c, o.op ≠ .defer c := by
  intro c e
  have := List.all_eq_true.1 h o ho
  rw [e] at this
  simp at this

theorem wpIn_of_quiet {o : Oper} {a : Act} {K : Act → Prop} {K' : Act → World → Prop} {Q' : Exit → Act → World → Prop} {w : World} (hd : ∀ c, o.op ≠ .defer c) (hw : C w) (h : ∀ a w', C w' → K a → K' a w') (hh : o.quiet P a C K) :
    o.wpIn (Fence.wide.inRound l) n P a w K' Q' := by
  obtain ⟨v, h1, h2⟩ := hh
  have h3 := h1 w hw
  unfold Oper.quietAt at h3
  refine ⟨fun _ _ => trivial, ?_⟩
  rw [Oper.semAt_eq _ _ _ hd]
  generalize (execOp a.eval o).run P w = r at *
  cases r with
  | ok n w' =>
    cases n <;> simp only [Oper.quietUpon] at h3 <;> simp only [Oper.uponIn]
    case value u =>
      obtain ⟨e1, e2⟩ := h3
      rw [e1, e2]
      exact h _ _ hw h2
    case skip =>
      obtain ⟨e1, e2⟩ := h3
      rw [e1, ← e2]
      exact h _ _ hw h2
    case enter f args =>
      obtain ⟨e1, hc⟩ := h3
      rw [e1]
      refine ⟨fun hx => by simp [Fence.wide] at hx, ?_⟩
      refine CallsIn.inRound l (callsIn_wide.2 ?_)
      exact hc.mono fun e w'' ⟨he, hw''⟩ => by subst he; exact h _ _ hw'' h2
  | halt x w' => simp only [Oper.quietUpon] at h3

theorem wpOpIn_of_qOp {i : Nat} {a : Act} {K : Act → Prop} {K' : Act → World → Prop} {Q' : Exit → Act → World → Prop} {w : World} (hd : ∀ o ∈ ops.toList, ∀ c, o.op ≠ .defer c) (hC : C w) (h : ∀ a w', C w' → K a → K' a w') (hh : qOp P ops C i K a) :
    wpOpIn (Fence.wide.inRound l) n P ops Q' i K' a w := by
  unfold qOp at hh
  unfold wpOpIn
  split
  · rename_i ho; simp only [ho] at hh; exact h _ _ hC hh
  · rename_i o ho
    simp only [ho] at hh
    split
    · rename_i hw
      simp only [hw, if_true] at hh
      exact wpIn_of_quiet (hd o (by rw [← Array.mem_def]; exact Array.mem_of_getElem? ho)) hC h hh
    · rename_i hw; simp only [hw] at hh; exact ⟨fun _ _ => trivial, h _ _ hC hh⟩

theorem wpAnyIn_of_quiet {Q : Act → Prop} {Q' : Exit → Act → World → Prop} (hd : ∀ o ∈ ops.toList, ∀ c, o.op ≠ .defer c) (hQ : ∀ a w, C w → Q a → Q' .normal a w) : ∀ (fuel : Nat) (listed : Array Bool) (a : Act) (w : World), C w →
    wpAnyQ P md ops C Q fuel listed a → wpAnyIn (Fence.wide.inRound l) n P md ops Q' fuel listed a w
  | 0, _, _, _, hw, h => ⟨h.1, hQ _ _ hw h.2⟩
  | fuel + 1, _, _, _, hw, h => ⟨fun h0 => hQ _ _ hw (h.1 h0), fun i hi => wpOpIn_of_qOp hd hw (fun a' w' hw' => wpAnyIn_of_quiet hd hQ fuel _ a' w' hw') (h.2 i hi)⟩

theorem wpIn_region_quiet {id : Nat} {Q : Exit → Act → World → Prop} {a : Act} {w : World} (hm : P.follows .mixedOrders = true) (hB : Region.lexB .any ops = true) (hd : noDefer ops.toList = true) (hC : C { w with drawn := w.drawn + 1 })
    (h : wpQuiet P ops C (fun a' => ∀ w', C w' → Q .normal a' w') ops.toList a) : (Code.region id ops true).wpIn (Fence.wide.inRound l) n P Q a w := by
  simp only [Region.lexB, Bool.and_eq_true] at hB
  refine wpIn_region_any hm (wpAnyIn_of_quiet (fun o ho => noDefer_at hd ho) (Q := fun a' => ∀ w', C w' → Q .normal a' w') (fun _ w' hw' h => h w' hw') _ _ _ _ hC ?_)
  have := wpAnyQ_lex (C := C) (md := .any) hB.1 ops.toList 0 (Array.replicate ops.size false) a (by simp) (by simpa using hB.2) h
  simpa using this

theorem wpIn_region_more {id : Nat} {Q : Exit → Act → World → Prop} {a : Act} {W : World} {L : List Oper} (hm : P.follows .mixedOrders = true) (hB : Region.lexB .any L.toArray = true) (hd : noDefer L = true)
    (h : wpQuiet P L.toArray (fun w' => ∃ i : More W, w' = i.x) (fun a' => ∀ i : More W, Q .normal a' i.x) L a) : (Code.region id L.toArray true).wpIn (Fence.wide.inRound l) n P Q a W := by
  refine wpIn_region_quiet (C := fun w' => ∃ i : More W, w' = i.x) hm hB hd ⟨⟨_, (Below.refl _ _).drew⟩, rfl⟩ ?_
  have e : (fun a' => ∀ w', (∃ i : More W, w' = i.x) → Q .normal a' w') = fun a' => ∀ i : More W, Q .normal a' i.x := by
    funext a'
    exact propext ⟨fun k i => k _ ⟨i, rfl⟩, fun k w' ⟨i, hi⟩ => by subst hi; exact k i⟩
  rw [e]
  simpa using h
end

/-- The day that comes in round j, of N from a on. -/
def dy (a : Int) (N : Nat) (j : Nat) : Int := a + ((j % N : Nat) : Int)
theorem dy_lt {a : Int} {N j : Nat} (h : j < N) : dy a N j = a + j := by unfold dy; rw [Nat.mod_eq_of_lt h]
theorem dy_bd {a : Int} {N : Nat} (h : 0 < N) (j : Nat) : a ≤ dy a N j ∧ dy a N j < a + N := by
  have := Nat.mod_lt j h
  unfold dy; omega
/-- A block is as it was. -/
def Kpb (b : Nat) (A B : World) : Prop := B.heap[b]? = A.heap[b]?
theorem Kpb.trans {b : Nat} {A B C : World} (h : Kpb b A B) (k : Kpb b B C) : Kpb b A C := Eq.trans k h
theorem Kpb.refl (b : Nat) (A : World) : Kpb b A A := rfl
theorem Kpb.below {b : Nat} {A B : World} (h : Below A.heap.size A B) (hb : b < A.heap.size) : Kpb b A B := h.block b hb
theorem Kpb.setCell {b : Nat} {A B : World} (h : Kpb b A B) {p : Addr} (hp : p.block ≠ b) (v : Value) : Kpb b A (B.setCell p v) := by
  exact (Below.heap_setCell B p v b (Ne.symm hp)).trans h
theorem Kpb.cell {b : Nat} {A B : World} (h : Kpb b A B) (o : Nat) : B.cell? ⟨b, o, none⟩ = A.cell? ⟨b, o, none⟩ := by
  simp only [World.cell?, show B.heap[b]? = A.heap[b]? from h]

set_option maxHeartbeats 1000000 in
theorem days_stops (n : Nat) (hn : 1 ≤ n) (b1 b2 : Nat) (a z : Int) (hz : z ≤ 4611686018427387904) (ha : -4611686018427387904 ≤ a) (ha' : a ≤ 4611686018427387904) (N : Nat) (hN : (z + 1 - a).toNat = N) (w : World) (h1 : b1 < w.heap.size) (h2 : b2 < w.heap.size)
    (c1 : w.cell? ⟨b1, 0, none⟩ = some (.int .i64 a)) (c2 : w.cell? ⟨b2, 0, none⟩ = some (.int .i64 z)) :
    SeqStopsK Fence.wide n Tryd.prog 108 #[.pointer (some ⟨b1, 0, none⟩), .pointer (some ⟨b2, 0, none⟩)] (fun j : Nat => #[.int .i64 (dy a N j)]) (Kpb b2) (fun xs => xs = List.range N) (fun pre => ∃ k : Nat, k < N ∧ pre = List.range (k + 1)) N w := fun l J Jx W hW hJ hJx hY h0 => by
  have c1' := (hW.cell (p := ⟨b1, 0, none⟩) h1).trans c1
  have c2' := (hW.cell (p := ⟨b2, 0, none⟩) h2).trans c2
  refine callsIn_of_wp Tryd.func108 rfl trivial ?_ rfl
  simp only [Tryd.ntmps108, List.size_toArray, List.length_cons, List.length_nil, Nat.reduceAdd, Nat.reduceSub, Array.replicate_succ, Array.replicate_zero, List.push_toArray, List.append_toArray, List.nil_append, List.cons_append]
  clear c1 c2
  have HY := Lib.hid hY; clear hY
  gi_wp2
  gi_loopw [4] (fun p wr => ∃ k : Nat, k ≤ N ∧ p = .int .i64 (a + k) ∧ Kpb b2 W wr ∧ J (List.range k) wr) (fun p _ => (z + 1 - intOf p).toNat)
  case atStart => exact ⟨0, Nat.zero_le _, by simp, Kpb.refl _ _, h0⟩
  case round =>
    obtain ⟨k, hk, rfl, hbr, hJs⟩ := hrel
    have c2r := (hbr.cell 0).trans c2'
    rcases Int.lt_or_le z (a + k) with hlt | hlt
    · gi_wp2
      go_end0
      refine ⟨⟨_, rfl⟩, .inl ⟨_, rfl, ?_⟩⟩
      obtain rfl : k = N := by omega
      exact hJs
    · obtain ⟨fn, tmps, assign, body, hy, hR⟩ := HY.out (List.range k) k wr hJs (by rw [List.length_range]; omega)
      rw [dy_lt (by omega)] at hy
      gi_wp2
      refine hR.mono ?_
      rintro e W3 (⟨rfl, hJ3, hk3⟩ | ⟨rfl, hJx3⟩)
      · gi_wp2
        go_roundw
        case rel => exact ⟨k + 1, by omega, by congr 1; omega, hbr.trans hk3, by rw [List.range_succ]; exact hJ3⟩
        case measure => simp [intOf]; omega
      · gi_wp2
        refine bodyPost_ret (results_none rfl _ _ _) rfl ?_
        exact ⟨⟨_, rfl⟩, .inr ⟨_, ⟨k, by omega, List.range_succ.symm⟩, hJx3⟩⟩

/-- A loop over the days from a to z: a body that keeps the box of the last day. -/
theorem wpIn_days {g : Operand} {p q : Nat} {assign body : Code} {Q : Exit → Act → World → Prop} {f : Act} {w : World} (b1 b2 : Nat) (a z : Int) (N : Nat)
    (hg : f.eval g = .func (.func 108) #[] #[.pointer (some ⟨b1, 0, none⟩), .pointer (some ⟨b2, 0, none⟩)])
    (hz : z ≤ 4611686018427387904) (ha : -4611686018427387904 ≤ a) (ha' : a ≤ 4611686018427387904) (hN : (z + 1 - a).toNat = N) (h1 : b1 < w.heap.size) (h2 : b2 < w.heap.size)
    (c1 : w.cell? ⟨b1, 0, none⟩ = some (.int .i64 a)) (c2 : w.cell? ⟨b2, 0, none⟩ = some (.int .i64 z))
    (I : List Nat → World → Prop) (Ix : Code → List Nat → World → Prop) (hI : OwnFrom w.heap.size I) (hIx : ∀ c, OwnFrom w.heap.size (Ix c)) (h0 : I [] w)
    (hassign : ∀ (l : Nat) (j : Nat) (W : World) (K : Act → World → Prop), K { tmps := (f.tmps.setIfInBounds p (.int .i64 (dy a N j))).setIfInBounds q (.int .i64 (dy a N j)), defers := [] } W →
      assign.wpIn (Fence.wide.inRound l) 3 Tryd.prog (Exit.then K (fun _ _ _ => False)) { tmps := f.tmps.setIfInBounds p (.int .i64 (dy a N j)), defers := [] } W)
    (hbody : ∀ (l : Nat) (pre : List Nat) (j : Nat) (W : World), I pre W → pre.length < N → body.wpIn (Fence.wide.inRound l) 3 Tryd.prog (ownPostK (Kpb b2) I Ix (pre ++ [j]) W) { tmps := (f.tmps.setIfInBounds p (.int .i64 (dy a N j))).setIfInBounds q (.int .i64 (dy a N j)), defers := [] } W)
    (hdone : ∀ (D : Nat) (W : World), w.heap.size ≤ D → I (List.range N) W → W.heap[D]? = some (.deferred (some [])) → Q .normal { f with defers := { target := .collected D, args := #[] } :: f.defers } W)
    (hstop : ∀ (D : Nat) (c : Code) (k : Nat) (W : World), w.heap.size ≤ D → k < N → Ix c (List.range (k + 1)) W → W.heap[D]? = some (.deferred (some [])) → c.wpIn Fence.wide 5 Tryd.prog Q { f with defers := { target := .collected D, args := #[] } :: f.defers } W) :
    (Code.rangeFunc g #[p] assign body).wpIn Fence.wide 5 Tryd.prog Q f w := by
  refine wpIn_rangeFunc_ownF (F := Fence.wide) (n := 5) rfl (by decide) (gf := 108) hg trivial (enters_of Tryd.func108 (by kernel_rfl) rfl)
    (days_stops 4 (by decide) b1 b2 a z hz ha ha' N hN w h1 h2 c1 c2) Kpb.trans ?_ (Below.refl _ _) (fun _ => rfl) I Ix hI hIx h0
    (fun j => { tmps := (f.tmps.setIfInBounds p (.int .i64 (dy a N j))).setIfInBounds q (.int .i64 (dy a N j)), defers := [] }) ?_ hbody ?_ ?_
  · intro W l o o' hl _ _ _
    unfold Kpb
    exact World.putObj_heap_other (by omega)
  · intro l x W K hK
    have hx := hassign l x W K hK
    simpa using hx
  · rintro D xs W hD rfl hi hK
    exact hdone D W hD hi hK
  · rintro D c pre W hD ⟨k, hk, rfl⟩ hi hK
    exact hstop D c k W hD hk hi hK

/-- A box of one cell: what it holds, and that it may be written. -/
def Held (W : World) (b : Nat) (v : Value) : Prop := W.cell? ⟨b, 0, none⟩ = some v ∧ W.frozen? ⟨b, 0, none⟩ = false
theorem Held.below {W W' : World} {b : Nat} {v : Value} (h : Held W b v) (hb : Below W.heap.size W W') (hlt : b < W.heap.size) : Held W' b v :=
  ⟨(hb.cell (p := ⟨b, 0, none⟩) hlt).trans h.1, (hb.frozen (p := ⟨b, 0, none⟩) hlt).trans h.2⟩
theorem Held.lt {W : World} {b : Nat} {v : Value} (h : Held W b v) : b < W.heap.size := by
  have := h.1
  unfold World.cell? at this
  rcases Nat.lt_or_ge b W.heap.size with hb | hb
  · exact hb
  · simp [Array.getElem?_eq_none hb] at this
theorem Held.set {W : World} {b : Nat} {v : Value} (h : Held W b v) (u : Value) : Held (W.setCell ⟨b, 0, none⟩ u) b u :=
  ⟨World.cell?_setCell_same' _ _ _ (by rw [h.1]; rfl), by rw [World.frozen?_setCell]; exact h.2⟩
theorem Held.other {W : World} {b : Nat} {v : Value} (h : Held W b v) {p : Addr} (hp : p.block ≠ b) (u : Value) : Held (W.setCell p u) b v :=
  ⟨(World.cell?_setCell_other _ _ _ _ (fun e => hp (congrArg Addr.block e))).trans h.1, by rw [World.frozen?_setCell]; exact h.2⟩
theorem held_own {β : Type} (B b : Nat) (f : β → Value) : OwnFrom B (fun pre W => Held W b (f pre)) :=
  Own.from (fun _ _ _ _ hs hg hr => ⟨cell_kept hs.1 hg hr, (frozen_kept hs.1 hg hr).trans hs.2⟩) _
theorem others_of_below {W W' : World} (h : Below W.heap.size W W') : KeepsOthers W W' :=
  ⟨h.size, fun k o hk _ => by
    have hlt : k < W.heap.size := by
      rcases Nat.lt_or_ge k W.heap.size with hb | hb
      · exact hb
      · rw [Array.getElem?_eq_none hb] at hk; cases hk
    exact (h.block k hlt).trans hk⟩

theorem days_any (a z : Int) (w : World) : Calls Tryd.prog 89 #[.int .i64 a, .int .i64 z] w fun e w' => e = .returned (.func (.func 108) #[] #[.pointer (some ⟨w.heap.size, 0, none⟩), .pointer (some ⟨w.heap.size + 1, 0, none⟩)]) ∧
    w' = (w.alloc (Obj.cells #[.int .i64 a] 3)).alloc (Obj.cells #[.int .i64 z] 3) := by
  go_enter Tryd.func89, Tryd.ntmps89
  go_wp2
  go_ret
  exact ⟨rfl, rfl⟩
end Go.Proofs.YtpjnlcdmbkbfcaaDoor
