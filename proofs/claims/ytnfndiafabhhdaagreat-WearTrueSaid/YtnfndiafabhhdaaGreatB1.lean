/- Words for memory that every later text of this seat uses: a slice of ints that reads as a list; what is kept when a call only adds blocks. No program in sight. -/
import Derived.WalkKit
import Derived.ProofKit
import Derived.WalkSpells
import Derived.WalkLawsBesides
import Derived.Outline
import Derived.Handy
import Derived.Lib.Hide
import Derived.Deep.QuietTactic
import Derived.BigQuiet
import Derived.IntWalk
import Derived.Test.YtnfndiafabhhdaaGreatA2
import Derived.Test.YtnfndiafabhhdaaGreatProg
import Derived.StillTail
import Derived.OrdersHeld
import Derived.RegionTactic
import Derived.Deep.RegionHeld3
import Derived.RangeFuncNested
import Derived.RangeFuncBound
import Derived.RangeFuncCalls
import Derived.RangeFuncLeaves
import Derived.RangeFuncFrom
import Derived.Shelf.Abstract
import Derived.OwnWalkIn
import Derived.TacticsInMore
import Derived.RegionIn
import Derived.LoopNIn
import Derived.LoopIn
import Derived.Laws.EntriesVeiled
namespace Go.Proofs.YtnfndiafabhhdaaGreat
theorem puts {α : Type} : (∀ (l : List α) (i : Nat) (a : α), l.toArray.setIfInBounds i a = (l.set i a).toArray) ∧ (∀ (a b : α) (l : List α), (a :: l).set 0 b = b :: l) ∧ (∀ (a b : α) (l : List α) (n : Nat), (a :: l).set (n + 1) b = a :: l.set n b) := ⟨fun _ _ _ => List.setIfInBounds_toArray .., fun _ _ _ => rfl, fun _ _ _ _ => rfl⟩
open Go.ChangeShapes Go.WideShapes Go.ChangeAt Go.RowKit
def Ints (w : World) (v : Value) (l : List Int) : Prop :=
  (l = [] ∧ ∃ o c, v = .slice o 0 c) ∨
  ∃ b off c, v = .slice (some ⟨b, off, none⟩) l.length c ∧ 0 < l.length ∧ l.length ≤ 9223372036854775807 ∧ b < w.heap.size ∧ ∀ j, j < l.length → w.cell? ⟨b, off + j, none⟩ = some (.int .i64 (l[j]?.getD 0))
theorem Ints.below {w w' : World} {v : Value} {l : List Int} (h : Ints w v l) (hb : Below w.heap.size w w') : Ints w' v l := by
  rcases h with h | ⟨b, off, c, rfl, h0, hm, hlt, hc⟩
  · exact .inl h
  · exact .inr ⟨b, off, c, rfl, h0, hm, Nat.lt_of_lt_of_le hlt hb.size, fun j hj => (hb.cell (p := ⟨b, off + j, none⟩) hlt).trans (hc j hj)⟩
theorem Ints.alloc {w : World} {v : Value} {l : List Int} (h : Ints w v l) (o : Obj) : Ints (w.alloc o) v l :=
  h.below ((Below.refl _ _).alloc (Nat.le_refl _) _)
theorem Ints.pos {w : World} {v : Value} {l : List Int} (h : Ints w v l) (h0 : 0 < l.length) :
    ∃ b off c, v = .slice (some ⟨b, off, none⟩) l.length c ∧ l.length ≤ 9223372036854775807 ∧ b < w.heap.size ∧ ∀ j, j < l.length → w.cell? ⟨b, off + j, none⟩ = some (.int .i64 (l[j]?.getD 0)) := by
  rcases h with ⟨rfl, _⟩ | ⟨b, off, c, hv, _, hm, hlt, hc⟩
  · simp at h0
  · exact ⟨b, off, c, hv, hm, hlt, hc⟩
theorem Ints.parts {w : World} {v : Value} {l : List Int} (h : Ints w v l) : ∃ o n c, v = .slice o n c ∧ Hid (l.length = n) ∧ n ≤ 9223372036854775807 := by
  rcases h with ⟨rfl, o, c, rfl⟩ | ⟨b, off, c, rfl, h0, hm, hlt, hc⟩
  · exact ⟨o, 0, c, rfl, rfl, by omega⟩
  · exact ⟨_, _, _, rfl, rfl, hm⟩
theorem Ints.len {w : World} {o : Option Addr} {n c : Nat} {l : List Int} (h : Ints w (.slice o n c) l) : l.length = n := by
  rcases h with ⟨rfl, o, c, h⟩ | ⟨b, off, c, h, h0, hm, hlt, hc⟩
  · injection h with _ h; simp [h]
  · injection h with _ h; exact h.symm
theorem Ints.cells {w : World} {o : Option Addr} {n c : Nat} {l : List Int} (h : Ints w (.slice o n c) l) (h0 : 0 < n) :
    ∃ b off, o = some ⟨b, off, none⟩ ∧ b < w.heap.size ∧ ∀ j, j < n → w.cell? ⟨b, off + j, none⟩ = some (.int .i64 (l[j]?.getD 0)) := by
  have hl := h.len
  rcases h with ⟨rfl, o, c, h⟩ | ⟨b, off, c, h, h1, hm, hlt, hc⟩
  · simp at hl; omega
  · injection h with ho
    subst hl
    exact ⟨b, off, ho, hlt, hc⟩
theorem bcell {W w1 : World} (hb : Below W.heap.size W w1) : (∀ b o, b < W.heap.size → w1.cell? ⟨b, o, none⟩ = W.cell? ⟨b, o, none⟩) ∧ (∀ b o, b < W.heap.size → w1.frozen? ⟨b, o, none⟩ = W.frozen? ⟨b, o, none⟩) :=
  ⟨fun b o h => hb.cell (p := ⟨b, o, none⟩) h, fun b o h => hb.frozen (p := ⟨b, o, none⟩) h⟩
structure More (W : World) where
  x : World
  h : Below W.heap.size W x
instance {W : World} : Nonempty (More W) := ⟨⟨W, Below.refl _ _⟩⟩
theorem wp_region_more {P : Program} {id : Nat} {Q : Exit → Act → World → Prop} {a : Act} {W : World} {l : List Oper} (hm : P.follows .mixedOrders = true) (hB : Region.lexB .any l.toArray = true)
    (h : wpQuiet P l.toArray (fun w' => ∃ i : More W, w' = i.x) (fun a' => ∀ i : More W, Q .normal a' i.x) l a) : (Code.region id l.toArray true).wp P Q a W := by
  refine wp_region_quiet (C := fun w' => ∃ i : More W, w' = i.x) hm hB ⟨⟨_, (Below.refl _ _).drew⟩, rfl⟩ ?_
  have e : (fun a' => ∀ w', (∃ i : More W, w' = i.x) → Q .normal a' w') = fun a' => ∀ i : More W, Q .normal a' i.x := by
    funext a'
    exact propext ⟨fun k i => k _ ⟨i, rfl⟩, fun k w' ⟨i, hi⟩ => by subst hi; exact k i⟩
  rw [e]
  simpa using h
theorem more_call {P : Program} {f : FuncId} {args : Array Value} {W : World} {i : More W} {v : Value}
    (h : Calls P f args i.x fun e w' => e = .returned v ∧ Below i.x.heap.size i.x w') : Calls P f args i.x fun e w'' => e = .returned v ∧ ∃ j : More W, w'' = j.x :=
  h.mono fun _ w'' ⟨he, hb⟩ => ⟨he, ⟨w'', i.h.trans (hb.mono i.h.size)⟩, rfl⟩
theorem more_same {P : Program} {f : FuncId} {args : Array Value} {W : World} {i : More W} {v : Value}
    (h : Calls P f args i.x fun e w' => e = .returned v ∧ i.x = w') : Calls P f args i.x fun e w'' => e = .returned v ∧ ∃ j : More W, w'' = j.x :=
  h.mono fun _ _ ⟨he, hb⟩ => ⟨he, i, hb.symm⟩
theorem more_cell {W : World} : ∀ (i : More W) (b o : Nat), b < W.heap.size → i.x.cell? ⟨b, o, none⟩ = W.cell? ⟨b, o, none⟩ := fun i b o h => i.h.cell (p := ⟨b, o, none⟩) h
theorem bthen {a b c : World} (h : Below a.heap.size a b) (k : Below b.heap.size b c) : Below a.heap.size a c := h.trans (k.mono h.size)
theorem ballo (w : World) (o : Obj) : Below w.heap.size w (w.alloc o) := (Below.refl _ _).alloc (Nat.le_refl _) _
theorem bafter {w w1 : World} {o : Obj} (h : Below (w.alloc o).heap.size (w.alloc o) w1) : Below w.heap.size w w1 := bthen (ballo w o) h
theorem below_drewN {B : Nat} {a w : World} (h : Below B a w) (n : Nat) : Below B a (w.drewN n) := ⟨h.os, h.tape, h.output, h.size, h.block⟩
theorem quiet_add {P : Program} {f : FuncId} {args : Array Value} {w : World} {a n : Nat} {v : Value}
    (h : Calls P f args (w.drewN (a + n)) fun e w' => e = .returned v ∧ ∃ m, w' = (w.drewN (a + n)).drewN m) :
    Calls P f args (w.drewN (a + n)) fun e w'' => e = .returned v ∧ ∃ m, w'' = w.drewN (a + m) :=
  h.mono fun _ _ ⟨he, m, hm⟩ => ⟨he, n + m, by rw [hm, World.drewN_drewN, Nat.add_assoc]⟩
theorem quiet_add_left {P : Program} {f : FuncId} {args : Array Value} {w : World} {a n : Nat} {v : Value}
    (h : Calls P f args (w.drewN (a + n)) fun e w' => e = .returned v ∧ w.drewN (a + n) = w') :
    Calls P f args (w.drewN (a + n)) fun e w'' => e = .returned v ∧ ∃ m, w'' = w.drewN (a + m) :=
  h.mono fun _ _ ⟨he, hm⟩ => ⟨he, n, hm.symm⟩
theorem quiet_left {P : Program} {f : FuncId} {args : Array Value} {w : World} {n : Nat} {v : Value}
    (h : Calls P f args (w.drewN n) fun e w' => e = .returned v ∧ w.drewN n = w') : Calls P f args (w.drewN n) fun e w'' => e = .returned v ∧ ∃ m, w'' = w.drewN m :=
  h.mono fun _ _ ⟨he, hm⟩ => ⟨he, n, hm.symm⟩
theorem results_tmp4 {fn : Func} {t u v x : Tmp} (h : fn.results = #[.tmp t, .tmp u, .tmp v, .tmp x]) (tmps : Array Value) (P : Program) (w : World) :
    (results fn tmps).run P w = .ok (.tuple #[tmps.getD t undef, tmps.getD u undef, tmps.getD v undef, tmps.getD x undef]) w := by simp [results, h]
theorem ret_bool {a b : Bool} (h : a = b) : Ending.returned (.bool a) = .returned (.bool b) := by rw [h]
theorem ret_int {k : IntKind} {a b : Int} (h : a = b) : Ending.returned (.int k a) = .returned (.int k b) := by rw [h]
theorem belw {B : Nat} {a b : World} (h : Below B a b := by repeat (first | exact Below.refl _ _ | assumption | refine bthen ?_ (by assumption) | refine Below.alloc ?_ (by first | exact Nat.le_refl _ | (simp; done) | (simp; omega) | omega) _ | refine Below.setCell ?_ (by first | exact Nat.le_refl _ | (simp; done) | (simp; omega) | omega) _ | refine below_drewN ?_ _ | refine Below.drew ?_)) : Below B a b := h
theorem belo {B : Nat} {a b : World} (h : Below B a b := by repeat (first | exact Below.refl _ _ | refine Below.drew ?_ | refine Below.alloc ?_ (by first | exact Nat.le_refl _ | (simp; done) | (simp; omega) | omega) _)) : Below B a b := h
theorem heap_new (w : World) (o : Obj) : (w.alloc o).heap[w.heap.size]? = some o := by
  show (w.heap.push o)[w.heap.size]? = some o
  simp
def Bk (w : World) (b : Nat) (T : TypeId) (A : List Value) : Prop := w.heap[b]? = some (.cells A.toArray T (0, 0))
section
variable {w w' : World} {b : Nat} {T : TypeId} {A : List Value}
theorem Bk.lt (h : Bk w b T A) : b < w.heap.size := by
  rcases Nat.lt_or_ge b w.heap.size with k | k
  · exact k
  · unfold Bk at h; rw [Array.getElem?_eq_none k] at h; cases h
theorem Bk.cell (h : Bk w b T A) (i : Nat) : w.cell? ⟨b, i, none⟩ = A[i]? := by
  unfold Bk at h
  simp [World.cell?, h]
theorem Bk.frozen (h : Bk w b T A) (i : Nat) : w.frozen? ⟨b, i, none⟩ = false := by
  unfold Bk at h
  simp [World.frozen?, h]
theorem Bk.new (w : World) (T : TypeId) (A : List Value) : Bk (w.alloc (.cells A.toArray T)) w.heap.size T A := heap_new w _
theorem Bk.new1 (w : World) (o : Obj) (T : TypeId) (A : List Value) : Bk ((w.alloc o).alloc (.cells A.toArray T)) (w.heap.size + 1) T A := by
  have h := Bk.new (w.alloc o) T A
  rwa [World.size_alloc] at h
theorem Bk.drew (h : Bk w b T A) : Bk w.drew b T A := h
theorem Bk.drewN (h : Bk w b T A) (n : Nat) : Bk (w.drewN n) b T A := h
theorem Bk.below (h : Bk w b T A) (hb : Below w.heap.size w w') : Bk w' b T A := (hb.block b h.lt).trans h
theorem Bk.alloc (h : Bk w b T A) (o : Obj) : Bk (w.alloc o) b T A := h.below (ballo w o)
theorem Bk.set (h : Bk w b T A) (i : Nat) (u : Value) : Bk (w.setCell ⟨b, i, none⟩ u) b T (A.set i u) := by
  unfold Bk at h ⊢
  simp [World.setCell, Array.getElem?_modify, h]
theorem Bk.far (h : Bk w b T A) {p : Addr} (hp : b ≠ p.block) (u : Value) : Bk (w.setCell p u) b T A := (Below.heap_setCell w p u b hp).trans h
end
structure Bes (b : Nat) (w w' : World) : Prop where
  os : w'.os = w.os
  tape : w'.tape = w.tape
  output : w'.output = w.output
  size : w.heap.size ≤ w'.heap.size
  block : ∀ k, k < w.heap.size → k ≠ b → w'.heap[k]? = w.heap[k]?
section
variable {b B : Nat} {w w' w0 w'' : World}
theorem Bes.refl (b : Nat) (w : World) : Bes b w w := ⟨rfl, rfl, rfl, Nat.le_refl _, fun _ _ _ => rfl⟩
theorem bes_of (b : Nat) (h : Below w.heap.size w w') : Bes b w w' := ⟨h.os, h.tape, h.output, h.size, fun k hk _ => h.block k hk⟩
theorem Bes.trans (h : Bes b w w') (k : Bes b w' w'') : Bes b w w'' :=
  ⟨k.os.trans h.os, k.tape.trans h.tape, k.output.trans h.output, Nat.le_trans h.size k.size, fun i hi hb => (k.block i (Nat.lt_of_lt_of_le hi h.size) hb).trans (h.block i hi hb)⟩
theorem Bes.then_ (h : Bes b w w') (k : Below w'.heap.size w' w'') : Bes b w w'' := h.trans (bes_of b k)
theorem Bes.setCell (h : Bes b w w') (i : Nat) (u : Value) : Bes b w (w'.setCell ⟨b, i, none⟩ u) :=
  ⟨h.os, h.tape, h.output, by simpa using h.size, fun k hk hb => (Below.heap_setCell w' ⟨b, i, none⟩ u k hb).trans (h.block k hk hb)⟩
theorem bes_then (h : Below B w0 w) (k : Bes b w w') (hb : B ≤ b) (hB : B ≤ w.heap.size) : Below B w0 w' :=
  ⟨k.os.trans h.os, k.tape.trans h.tape, k.output.trans h.output, Nat.le_trans h.size k.size, fun i hi => (k.block i (Nat.lt_of_lt_of_le hi hB) (by omega)).trans (h.block i hi)⟩
theorem Bk.bes {T : TypeId} {A : List Value} {c : Nat} (h : Bk w c T A) (k : Bes b w w') (hc : c ≠ b) : Bk w' c T A := (k.block c h.lt hc).trans h
end
def Row (w : World) (v : Value) (k n : Nat) (f : Nat → Nat → Value) : Prop :=
  ∃ o c, v = .slice o n c ∧ n ≤ 9223372036854775807 ∧ (0 < n → ∃ b off, o = some ⟨b, off, none⟩ ∧ b < w.heap.size ∧ ∀ i j, i < n → j < k → w.cell? ⟨b, off + i * k + j, none⟩ = some (f i j))
theorem Row.below {w w' : World} {v : Value} {k n : Nat} {f : Nat → Nat → Value} (h : Row w v k n f) (hb : Below w.heap.size w w') : Row w' v k n f := by
  obtain ⟨o, c, rfl, hm, h⟩ := h
  refine ⟨o, c, rfl, hm, fun h0 => ?_⟩
  obtain ⟨b, off, ho, hlt, hc⟩ := h h0
  exact ⟨b, off, ho, Nat.lt_of_lt_of_le hlt hb.size, fun i j hi hj => (hb.cell (p := ⟨b, off + i * k + j, none⟩) hlt).trans (hc i j hi hj)⟩
theorem Row.alloc {w : World} {v : Value} {k n : Nat} {f : Nat → Nat → Value} (h : Row w v k n f) (o : Obj) : Row (w.alloc o) v k n f := h.below (ballo w o)
theorem Row.parts {w : World} {v : Value} {k n : Nat} {f : Nat → Nat → Value} (h : Row w v k n f) : ∃ o c, v = .slice o n c ∧ n ≤ 9223372036854775807 := by
  obtain ⟨o, c, rfl, hm, _⟩ := h
  exact ⟨o, c, rfl, hm⟩
theorem Row.cells {w : World} {o : Option Addr} {c m k n : Nat} {f : Nat → Nat → Value} (h : Row w (.slice o m c) k n f) (h0 : 0 < n) :
    ∃ b off, o = some ⟨b, off, none⟩ ∧ b < w.heap.size ∧ ∀ i j, i < n → j < k → w.cell? ⟨b, off + i * k + j, none⟩ = some (f i j) := by
  obtain ⟨o', c', e, hm, h⟩ := h
  injection e with e1 e2 e3
  subst e1
  exact h h0
theorem Row.nil (w : World) (o : Option Addr) (c k : Nat) (f : Nat → Nat → Value) : Row w (.slice o 0 c) k 0 f := ⟨o, c, rfl, by omega, fun h => absurd h (by omega)⟩
theorem Row.len {w : World} {o : Option Addr} {c m k n : Nat} {f : Nat → Nat → Value} (h : Row w (.slice o m c) k n f) : m = n := by
  obtain ⟨o', c', e, _, _⟩ := h
  injection e
theorem Row.congr {w : World} {v : Value} {k n : Nat} {f g : Nat → Nat → Value} (h : Row w v k n f) (e : ∀ i j, i < n → j < k → f i j = g i j) : Row w v k n g := by
  obtain ⟨o, c, rfl, hm, h⟩ := h
  refine ⟨o, c, rfl, hm, fun h0 => ?_⟩
  obtain ⟨b, off, ho, hlt, hc⟩ := h h0
  exact ⟨b, off, ho, hlt, fun i j hi hj => by rw [hc i j hi hj, e i j hi hj]⟩
def inB (n lo hi : Int) : Bool := decide (lo ≤ n) && decide (n ≤ hi)
theorem inB_t {n lo hi : Int} (h : inB n lo hi = true) : lo ≤ n ∧ n ≤ hi := by simpa [inB] using h
theorem inB_mk {n lo hi : Int} (h : lo ≤ n) (h' : n ≤ hi) : inB n lo hi = true := by simp [inB, h, h']
theorem inB_f {n lo hi : Int} (h : inB n lo hi = false) : n < lo ∨ hi < n := by
  simp only [inB, Bool.and_eq_false_iff, decide_eq_false_iff_not] at h; omega
theorem bool_ft (b : Bool) : b = false ∨ b = true := by cases b <;> simp
theorem ret_two {a b c d : Int} (h : a = c) (h' : b = d) : Ending.returned (.tuple #[.int .i64 a, .int .i64 b]) = .returned (.tuple #[.int .i64 c, .int .i64 d]) := by rw [h, h']
theorem from_any (n lo hi : Int) (w : World) : Calls Tryz.prog 78 #[.int .i64 n, .int .i64 lo, .int .i64 hi] w fun e w' => e = .returned (.bool (inB n lo hi)) ∧ w = w' := by
  go_enter Tryz.func78, Tryz.ntmps78
  go_wp2
  all_goals (go_ret; simp [inB]; omega)
theorem wlook_any (l : Lk) (h : Int) (w : World) : Calls Tryz.prog 153 #[.agg #[.int .i64 l.lv, .int .i64 l.er], .int .i64 h] w fun e w' => e = .returned (.bool (okLk h l)) ∧ Below w.heap.size w w' := by
  cases h1 : inB l.lv 0 h
  all_goals
    go_enter Tryz.func153, Tryz.ntmps153
    go_wp2_with (go_at_call 78; (with_reducible refine (from_any _ _ _ _).mono ?_); rintro e w' ⟨rfl, rfl⟩)
    go_ret
    exact ⟨by simp only [inB] at h1; simp [okLk, inB, h1], (Below.refl _ _).alloc (Nat.le_refl _) _⟩
def okSp (lo hi a b : Int) : Bool := decide (a ≤ lo) && decide (lo ≤ hi) && decide (hi ≤ b)
theorem within_any (lo hi a b : Int) (w : World) : Calls Tryz.prog 154 #[.agg #[.int .i64 lo, .int .i64 hi], .int .i64 a, .int .i64 b] w fun e w' => e = .returned (.bool (okSp lo hi a b)) ∧ Below w.heap.size w w' := by
  go_enter Tryz.func154, Tryz.ntmps154
  go_wp2
  all_goals
    go_ret
    exact ⟨ret_bool (by simp [okSp]; omega), (Below.refl _ _).alloc (Nat.le_refl _) _⟩
theorem ratio_any (n d : Int) (w : World) : Calls Tryz.prog 155 #[.int .i64 n, .int .i64 d] w fun e w' => e = .returned (.agg #[.int .i64 n, .int .i64 d, .bool false]) ∧ Below w.heap.size w w' := by
  go_enter Tryz.func155, Tryz.ntmps155
  go_wp2
  refine bodyPost_ret (v := .agg #[.int .i64 n, .int .i64 d, .bool false]) (by simp [results, Tryz.results155, go_sem]) rfl ⟨rfl, ?_⟩
  exact belw
theorem isRing_any (r : Rg) (w : World) : Calls Tryz.prog 161 #[.agg #[.int .i64 r.h, .int .i64 r.v, .int .i64 r.d]] w fun e w' => e = .returned (.bool (okRg r)) ∧ Below w.heap.size w w' := by
  go_enter Tryz.func161, Tryz.ntmps161
  go_wp2
  all_goals
    go_ret
    exact ⟨ret_bool (by rw [Bool.eq_iff_iff]; simp [okRg]; omega), (Below.refl _ _).alloc (Nat.le_refl _) _⟩
theorem heightOf_any (r : Rg) (w : World) : Calls Tryz.prog 163 #[.agg #[.int .i64 r.h, .int .i64 r.v, .int .i64 r.d]] w fun e w' => e = .returned (.int .i64 r.h) ∧ w' = w.alloc (Obj.cells #[.int .i64 r.h, .int .i64 r.v, .int .i64 r.d] 169) := by
  go_enter Tryz.func163, Tryz.ntmps163
  go_wp2
  go_ret
  exact ⟨rfl, rfl⟩
theorem volumeOf_any (r : Rg) (w : World) : Calls Tryz.prog 165 #[.agg #[.int .i64 r.h, .int .i64 r.v, .int .i64 r.d]] w fun e w' => e = .returned (.int .i64 r.v) ∧ w' = w.alloc (Obj.cells #[.int .i64 r.h, .int .i64 r.v, .int .i64 r.d] 169) := by
  go_enter Tryz.func165, Tryz.ntmps165
  go_wp2
  go_ret
  exact ⟨rfl, rfl⟩
theorem minuteOf_any (r : Rg) (w : World) : Calls Tryz.prog 167 #[.agg #[.int .i64 r.h, .int .i64 r.v, .int .i64 r.d]] w fun e w' => e = .returned (.int .i64 r.d) ∧ w' = w.alloc (Obj.cells #[.int .i64 r.h, .int .i64 r.v, .int .i64 r.d] 169) := by
  go_enter Tryz.func167, Tryz.ntmps167
  go_wp2
  go_ret
  exact ⟨rfl, rfl⟩
end Go.Proofs.YtnfndiafabhhdaaGreat
/- A region that draws its order: a head of operations that read, or call what only adds blocks, in whatever order, walked once; behind it a tail that waits for all of them and comes in sequence. No program in sight. -/
namespace Go.Proofs.YtnfndiafabhhdaaGreat
open Go Go.RowKit
section
variable {P : Program} {ops : Array Oper} {md : Region.Mode} {C : World → Prop}
def hWaits (md : Region.Mode) (ops : Array Oper) : Nat → Nat → Nat → Bool
  | 0, _, _ => false
  | f + 1, t, i => match ops[t]? with
    | some o => o.after.any fun e => Region.binds md e && (e.on == i || hWaits md ops f e.on i)
    | none => false
def HCl (md : Region.Mode) (ops : Array Oper) (up : Array Bool) : Prop := ∀ j o, ops[j]? = some o → up.getD j false = true → ∀ e ∈ o.after, Region.binds md e = true → up.getD e.on false = true
theorem HCl.none : HCl md ops (Array.replicate ops.size false) := fun j o _ hu => by rw [getD_replicate_false] at hu; cases hu
theorem HCl.set {up : Array Bool} {j : Nat} (h : HCl md ops up) (hj : j ∈ Region.ready md ops up) : HCl md ops (up.setIfInBounds j true) := fun k o ho hu e he hb => by
  obtain ⟨hju, oj, hoj, hall⟩ := mem_ready.1 hj
  by_cases hjk : j = k
  · subst hjk
    obtain rfl : oj = o := Option.some.inj (hoj.symm.trans ho)
    exact getD_set_true (hall e he hb)
  · rw [getD_set_ne false hjk] at hu
    exact getD_set_true (h k o ho hu e he hb)
theorem hWaits_up {up : Array Bool} (hc : HCl md ops up) {i : Nat} : ∀ (f t : Nat), up.getD t false = true → hWaits md ops f t i = true → up.getD i false = true
  | 0, _, _, h => by cases h
  | f + 1, t, hu, h => by
    unfold hWaits at h
    split at h
    · rename_i o ho
      obtain ⟨e, he, hb⟩ := Array.any_eq_true'.1 h
      simp only [Bool.and_eq_true, Bool.or_eq_true, beq_iff_eq] at hb
      have k := hc t o ho hu e he hb.1
      rcases hb.2 with h1 | h1
      · rw [← h1]; exact k
      · exact hWaits_up hc f e.on k h1
    · cases h
theorem h_both {up : Array Bool} {i : Nat} (h : up.getD i false = true) (hu : up.getD i true = false) : False := by
  rw [getD_both hu] at h; cases h
theorem h_not_ready {up : Array Bool} (hc : HCl md ops up) {t i f : Nat} (hw : hWaits md ops (f + 1) t i = true) (hu : up.getD i true = false) : t ∉ Region.ready md ops up := fun hj => by
  obtain ⟨_, o, ho, hall⟩ := mem_ready.1 hj
  unfold hWaits at hw
  rw [ho] at hw
  obtain ⟨e, he, hb⟩ := Array.any_eq_true'.1 hw
  simp only [Bool.and_eq_true, Bool.or_eq_true, beq_iff_eq] at hb
  have k := hall e he hb.1
  rcases hb.2 with h2 | h2
  · rw [h2] at k; exact h_both k hu
  · exact h_both (hWaits_up hc _ _ k h2) hu
def WpH (P : Program) (md : Region.Mode) (ops : Array Oper) (C : World → Prop) (tl : List Nat) (L : Array Bool → Act → Prop) : Nat → Array Bool → Act → Prop
  | 0, up, a => L up a
  | f + 1, up, a => Region.ready md ops up ≠ [] ∧ ∀ i ∈ Region.ready md ops up, i ∉ tl ∧ qOp P ops C i (WpH P md ops C tl L f (up.setIfInBounds i true)) a
theorem WpH.any {tl : List Nat} {L : Array Bool → Act → Prop} {g : Nat} {Q : Exit → Act → World → Prop} (hL : ∀ up a w, L up a → C w → wpAny P md ops Q g up a w) :
    ∀ (f : Nat) (up : Array Bool) (a : Act) (w : World), C w → WpH P md ops C tl L f up a → wpAny P md ops Q (f + g) up a w
  | 0, up, a, w, hC, h => by rw [Nat.zero_add]; exact hL _ _ _ h hC
  | f + 1, up, a, w, hC, h => by
    rw [show f + 1 + g = (f + g) + 1 by omega]
    exact ⟨fun h0 => absurd h0 h.1, fun i hi => wpOp_of_qOp hC (fun a' w' hC' h' => WpH.any hL f _ a' w' hC' h') (h.2 i hi).2⟩
theorem WpH.first {i : Nat} {oi : Oper} {v : Value} {tl : List Nat} {L : Array Bool → Act → Prop} (hi : ops[i]? = some oi) (hsel : ∀ (j : Nat) (o : Oper) cs b, ops[j]? = some o → o.op ≠ .select cs b)
    (hit : i ∉ tl) (hw : ∀ t ∈ tl, hWaits md ops 24 t i = true) (hdone : ∀ up a, L up a → ∀ j ∈ Region.ready md ops up, j ∈ tl) :
    ∀ (f : Nat) (up : Array Bool) (a : Act), HCl md ops up →
      (∀ j oj, ops[j]? = some oj → j ≠ i → up.getD j true = false → (∀ e ∈ oj.after, Region.binds md e = true → e.on ≠ i) → oi.apart ops oj = true) →
      i ∈ Region.ready md ops up → YieldsIn P ops C oi v a → WpH P md ops C tl L f (up.setIfInBounds i true) (a.put oi.dst v) → WpH P md ops C tl L (f + 1) up a := by
  intro f
  induction f with
  | zero =>
    intro up a hc _ hr hy H
    have hun := (mem_ready.1 hr).1
    refine ⟨fun h => (by rw [h] at hr; cases hr), fun j hj => ?_⟩
    have hjt : j ∉ tl := fun h => h_not_ready hc (f := 23) (hw j h) hun hj
    refine ⟨hjt, ?_⟩
    by_cases hji : j = i
    · subst hji; exact hy.qOp hi H
    · exact absurd (hdone _ _ H j (ready_mono hj hji)) hjt
  | succ f ih =>
    intro up a hc hfree hr hy H
    have hun := (mem_ready.1 hr).1
    refine ⟨fun h => (by rw [h] at hr; cases hr), fun j hj => ?_⟩
    have hjt : j ∉ tl := fun h => h_not_ready hc (f := 23) (hw j h) hun hj
    refine ⟨hjt, ?_⟩
    by_cases hji : j = i
    · subst hji; exact hy.qOp hi H
    · have h1 := (H.2 j (ready_mono hj hji)).2
      obtain ⟨hjun, oj, hoj, hall⟩ := mem_ready.1 hj
      have hnot : ∀ e ∈ oj.after, Region.binds md e = true → e.on ≠ i := fun e he hb heq => by
        have h1 := hall e he hb
        rw [heq, getD_both hun] at h1
        cases h1
      have h2 := qOp_put hoj (hfree j oj hoj hji hjun hnot) (fun cs b => hsel i oi cs b hi) (fun cs b => hsel j oj cs b hoj) hy h1
      have hfree' : ∀ k ok, ops[k]? = some ok → k ≠ i → (up.setIfInBounds j true).getD k true = false →
          (∀ e ∈ ok.after, Region.binds md e = true → e.on ≠ i) → oi.apart ops ok = true := fun k ok hk hki hun hno => by
        refine hfree k ok hk hki ?_ hno
        by_cases hjk : j = k
        · subst hjk; exact hjun
        · rw [getD_set_ne true hjk] at hun; exact hun
      refine qOp_mono (fun a' h3 => ih (up.setIfInBounds j true) a' (hc.set hj) hfree' (ready_mono hr (Ne.symm hji)) h3.1 ?_) h2
      rw [Array.setIfInBounds_comm _ _ hji]
      exact h3.2
def hSeq (md : Region.Mode) (ops : Array Oper) : List Nat → Array Bool → Bool
  | [], up => (Region.ready md ops up).isEmpty
  | t :: tl, up => decide (Region.ready md ops up = [t]) && hSeq md ops tl (up.setIfInBounds t true)
def hLex (md : Region.Mode) (ops : Array Oper) (tl : List Nat) : List Nat → Array Bool → Bool
  | [], up => hSeq md ops tl up
  | i :: hd, up => (Region.ready md ops up).contains i && Region.free md ops up i && !tl.contains i && tl.all (fun t => hWaits md ops 24 t i) && hLex md ops tl hd (up.setIfInBounds i true)
def hPick (l : List Oper) : List Nat → List Oper
  | [] => []
  | i :: r => match l[i]? with
    | some o => o :: hPick l r
    | none => hPick l r
theorem hSeq_ready {tl : List Nat} {up : Array Bool} (h : hSeq md ops tl up = true) : ∀ j ∈ Region.ready md ops up, j ∈ tl := by
  cases tl with
  | nil => intro j hj; simp only [hSeq, List.isEmpty_iff] at h; rw [h] at hj; cases hj
  | cons t tl =>
    intro j hj
    simp only [hSeq, Bool.and_eq_true, decide_eq_true_eq] at h
    rw [h.1] at hj
    simp at hj
    simp [hj]
theorem wpAny_of_hSeq {Q : Exit → Act → World → Prop} {l : List Oper} (hl : ops = l.toArray) : ∀ (tl : List Nat) (up : Array Bool) (a : Act) (w : World),
    hSeq md ops tl up = true → wpList P ops Q (hPick l tl) a w → wpAny P md ops Q tl.length up a w
  | [], up, a, w, hB, h => ⟨by simpa [hSeq] using hB, h⟩
  | t :: tl, up, a, w, hB, h => by
    simp only [hSeq, Bool.and_eq_true, decide_eq_true_eq] at hB
    have ht : t ∈ Region.ready md ops up := by rw [hB.1]; simp
    obtain ⟨_, o, ho, _⟩ := mem_ready.1 ht
    have ho' : l[t]? = some o := by rw [hl] at ho; simpa using ho
    refine ⟨fun h1 => (by rw [hB.1] at h1; cases h1), fun i hi => ?_⟩
    rw [hB.1] at hi
    obtain rfl : i = t := by simpa using hi
    have hw : wpOp P ops Q i (wpList P ops Q (hPick l tl)) a w := by
      unfold wpOp; simp only [ho]
      simp only [hPick, ho'] at h
      exact h
    exact wpOp_mono (fun a' w' h' => wpAny_of_hSeq hl tl _ a' w' hB.2 h') hw
theorem WpH.lex {tl : List Nat} {Lq : Act → Prop} {l : List Oper} (hl : ops = l.toArray) (hsel : Region.noSelect ops = true) :
    ∀ (hd : List Nat) (up : Array Bool) (a : Act), HCl md ops up → hLex md ops tl hd up = true → wpQuiet P ops C Lq (hPick l hd) a →
    WpH P md ops C tl (fun up' a' => hSeq md ops tl up' = true ∧ Lq a') hd.length up a
  | [], up, a, _, hB, h => ⟨hB, h⟩
  | i :: hd, up, a, hc, hB, h => by
    simp only [hLex, Bool.and_eq_true, Bool.not_eq_true'] at hB
    obtain ⟨⟨⟨⟨hr, hf⟩, ht⟩, hw⟩, hB'⟩ := hB
    have hr' : i ∈ Region.ready md ops up := by simpa using hr
    obtain ⟨_, o, ho, _⟩ := mem_ready.1 hr'
    have ho' : l[i]? = some o := by rw [hl] at ho; simpa using ho
    have hst : qOp P ops C i (wpQuiet P ops C Lq (hPick l hd)) a := by
      unfold qOp; simp only [ho]
      simp only [hPick, ho'] at h
      exact h
    obtain ⟨v, hy, hK⟩ := yieldsIn_of_qOp ho hst
    exact WpH.first ho (Region.noSelect_spec hsel) (by simpa using ht) (fun t ht => List.all_eq_true.1 hw t ht) (fun up' a' hL => hSeq_ready hL.1) hd.length up a hc (Region.free_spec ho hf) hr' hy
      (WpH.lex hl hsel hd _ _ (hc.set hr') hB' hK)
def hBool (md : Region.Mode) (ops : Array Oper) (hd tl : List Nat) : Bool :=
  Region.noSelect ops && decide (hd.length + tl.length = ops.size) && hLex md ops tl hd (Array.replicate ops.size false)
theorem wp_region_head {id : Nat} {Q : Exit → Act → World → Prop} {a : Act} {w : World} {l : List Oper} (hd tl : List Nat) (hm : P.follows .mixedOrders = true) (hB : hBool .any l.toArray hd tl = true) (hC : C { w with drawn := w.drawn + 1 })
    (h : wpQuiet P l.toArray C (fun a' => ∀ w', C w' → wpList P l.toArray Q (hPick l tl) a' w') (hPick l hd) a) : (Code.region id l.toArray true).wp P Q a w := by
  simp only [hBool, Bool.and_eq_true, decide_eq_true_eq] at hB
  obtain ⟨⟨hsel, hlen⟩, hlex⟩ := hB
  refine wp_region_any hm ?_
  have H := WpH.any (P := P) (Q := Q) (fun up a' w' hL hC' => wpAny_of_hSeq rfl tl up a' w' hL.1 (hL.2 w' hC')) hd.length _ a _ hC (WpH.lex rfl hsel hd _ a HCl.none hlex h)
  rw [hlen] at H
  exact H
theorem wp_head_more {id : Nat} {Q : Exit → Act → World → Prop} {a : Act} {W : World} {l : List Oper} (hd tl : List Nat) (hm : P.follows .mixedOrders = true) (hB : hBool .any l.toArray hd tl = true)
    (h : wpQuiet P l.toArray (fun w' => ∃ i : More W, w' = i.x) (fun a' => ∀ i : More W, wpList P l.toArray Q (hPick l tl) a' i.x) (hPick l hd) a) : (Code.region id l.toArray true).wp P Q a W := by
  refine wp_region_head (C := fun w' => ∃ i : More W, w' = i.x) hd tl hm hB ⟨⟨_, (Below.refl _ _).drew⟩, rfl⟩ ?_
  have e : (fun a' => ∀ w', (∃ i : More W, w' = i.x) → wpList P l.toArray Q (hPick l tl) a' w') = fun a' => ∀ i : More W, wpList P l.toArray Q (hPick l tl) a' i.x := by
    funext a'
    exact propext ⟨fun k i => k _ ⟨i, rfl⟩, fun k w' ⟨i, hi⟩ => by subst hi; exact k i⟩
  rw [e]
  exact h
end
end Go.Proofs.YtnfndiafabhhdaaGreat
/- A region that draws its order and ends in stores that wait for all the rest: a condition on the world serves some operations alone. No program in sight. -/
namespace Go.Proofs.YtnfndiafabhhdaaGreat
open Go
theorem toArray_at {α : Type} (l : List α) (i : Nat) : l.toArray[i]? = l[i]? := by simp
section
variable {P : Program} {ops : Array Oper} {Q : Exit → Act → World → Prop} {md : Region.Mode} {S : World → Prop} {kp : Nat → Bool}
def WpK (P : Program) (md : Region.Mode) (ops : Array Oper) (Q : Exit → Act → World → Prop) (S : World → Prop) (kp : Nat → Bool) : Nat → Array Bool → Act → World → Prop
  | 0, up, a, w => Region.ready md ops up = [] ∧ Q .normal a w
  | f + 1, up, a, w => (Region.ready md ops up = [] → Q .normal a w) ∧ ∀ i ∈ Region.ready md ops up, wpOp P ops Q i (fun b x => (kp i = true → S x) ∧ WpK P md ops Q S kp f (up.setIfInBounds i true) b x) a w
theorem WpK.any : ∀ (f : Nat) (up : Array Bool) (a : Act) (w : World), WpK P md ops Q S kp f up a w → wpAny P md ops Q f up a w
  | 0, _, _, _, h => h
  | f + 1, _, _, _, h => ⟨h.1, fun i hi => wpOp_mono (fun b x k => WpK.any f _ b x k.2) (h.2 i hi)⟩
theorem WpK.begin {id f : Nat} {up : Array Bool} {a : Act} {w : World} (hm : P.follows .mixedOrders = true) (hf : ops.size = f) (hu : Array.replicate ops.size false = up) (h : WpK P .any ops Q S kp f up a w.drew) : (Code.region id ops true).wp P Q a w := by
  subst hf hu
  exact wp_region_any hm (WpK.any _ _ _ _ h)
def waits (md : Region.Mode) (ops : Array Oper) : Nat → Nat → Nat → Bool
  | 0, _, _ => false
  | f + 1, t, i => match ops[t]? with
    | some o => o.after.any fun e => Region.binds md e && (e.on == i || waits md ops f e.on i)
    | none => false
def tailB (md : Region.Mode) (ops : Array Oper) (kp : Nat → Bool) (i : Nat) : Bool :=
  (List.range ops.size).all fun t => kp t || waits md ops 24 t i
def Cl (md : Region.Mode) (ops : Array Oper) (up : Array Bool) : Prop := ∀ j o, ops[j]? = some o → up.getD j false = true → ∀ e ∈ o.after, Region.binds md e = true → up.getD e.on false = true
def clB (md : Region.Mode) (ops : Array Oper) (up : Array Bool) : Bool :=
  (List.range ops.size).all fun j => match ops[j]? with
    | some o => !up.getD j false || o.after.all fun e => !Region.binds md e || up.getD e.on false
    | none => true
theorem cl_of {up : Array Bool} (h : clB md ops up = true) : Cl md ops up := fun j o ho hu e he hb => by
  have hlt : j < ops.size := (Array.getElem?_eq_some_iff.1 ho).1
  have h1 := List.all_eq_true.1 h j (List.mem_range.2 hlt)
  rw [ho] at h1
  simp only [hu, Bool.not_true, Bool.false_or] at h1
  have h2 := Array.all_eq_true_iff_forall_mem.1 h1 e he
  simpa [hb] using h2
theorem Cl.set {up : Array Bool} {j : Nat} (h : Cl md ops up) (hj : j ∈ Region.ready md ops up) : Cl md ops (up.setIfInBounds j true) := fun k o ho hu e he hb => by
  obtain ⟨hju, oj, hoj, hall⟩ := mem_ready.1 hj
  by_cases hjk : j = k
  · subst hjk
    obtain rfl : oj = o := Option.some.inj (hoj.symm.trans ho)
    exact getD_set_true (hall e he hb)
  · rw [getD_set_ne false hjk] at hu
    exact getD_set_true (h k o ho hu e he hb)
theorem waits_up {up : Array Bool} (hc : Cl md ops up) {i : Nat} : ∀ (f t : Nat), up.getD t false = true → waits md ops f t i = true → up.getD i false = true
  | 0, _, _, h => by cases h
  | f + 1, t, hu, h => by
    unfold waits at h
    split at h
    · rename_i o ho
      obtain ⟨e, he, hb⟩ := Array.any_eq_true'.1 h
      simp only [Bool.and_eq_true, Bool.or_eq_true, beq_iff_eq] at hb
      have k := hc t o ho hu e he hb.1
      rcases hb.2 with h1 | h1
      · rw [← h1]; exact k
      · exact waits_up hc f e.on k h1
    · cases h
theorem not_both {up : Array Bool} {i : Nat} (h : up.getD i false = true) (hu : up.getD i true = false) : False := by
  rcases Nat.lt_or_ge i up.size with h' | h'
  · simp [h'] at h hu; rw [h] at hu; cases hu
  · simp [Array.getElem?_eq_none h'] at h
theorem tail_lt {i j : Nat} {up : Array Bool} (hc : Cl md ops up) (ht : tailB md ops kp i = true) (hu : up.getD i true = false) (hj : j ∈ Region.ready md ops up) : kp j = true := by
  obtain ⟨_, o, ho, hall⟩ := mem_ready.1 hj
  have hlt : j < ops.size := (Array.getElem?_eq_some_iff.1 ho).1
  have h1 := List.all_eq_true.1 ht j (List.mem_range.2 hlt)
  rcases hk : kp j with _ | _
  · exfalso
    simp only [Bool.or_eq_true, hk, Bool.false_eq_true, false_or] at h1
    · unfold waits at h1
      rw [ho] at h1
      obtain ⟨e, he, hb⟩ := Array.any_eq_true'.1 h1
      simp only [Bool.and_eq_true, Bool.or_eq_true, beq_iff_eq] at hb
      have k := hall e he hb.1
      rcases hb.2 with h2 | h2
      · rw [h2] at k; exact not_both k hu
      · exact not_both (waits_up hc _ _ k h2) hu
  · rfl
theorem WpK.first {i : Nat} {oi : Oper} {v : Value} (hi : ops[i]? = some oi) (hsel : ∀ (j : Nat) (o : Oper) cs b, ops[j]? = some o → o.op ≠ .select cs b)
    (hQ : ∀ c a w, Q (.panic c) (a.put oi.dst v) w → Q (.panic c) a w) (ht : tailB md ops kp i = true) :
    ∀ (f : Nat) (up : Array Bool) (a : Act) (w : World), Cl md ops up →
      (∀ j oj, ops[j]? = some oj → j ≠ i → up.getD j true = false → (∀ e ∈ oj.after, Region.binds md e = true → e.on ≠ i) → oi.apart ops oj = true) →
      i ∈ Region.ready md ops up → YieldsIf P ops S oi v a → S w → WpK P md ops Q S kp f (up.setIfInBounds i true) (a.put oi.dst v) w → WpK P md ops Q S kp (f + 1) up a w := by
  intro f
  induction f with
  | zero =>
    intro up a w _ _ hr hy hS H
    refine ⟨fun h => (by rw [h] at hr; cases hr), fun j hj => ?_⟩
    by_cases hji : j = i
    · subst hji
      exact hy.wpOp hi hS ⟨fun _ => hS, H⟩
    · have := ready_mono hj hji
      rw [H.1] at this
      cases this
  | succ f ih =>
    intro up a w hc hfree hr hy hS H
    refine ⟨fun h => (by rw [h] at hr; cases hr), fun j hj => ?_⟩
    by_cases hji : j = i
    · subst hji
      exact hy.wpOp hi hS ⟨fun _ => hS, H⟩
    · have hun := (mem_ready.1 hr).1
      have hjn := tail_lt hc ht hun hj
      obtain ⟨hju, oj, hoj, hall⟩ := mem_ready.1 hj
      have hnot : ∀ e ∈ oj.after, Region.binds md e = true → e.on ≠ i := fun e he hb heq => by
        have k := hall e he hb
        rw [heq] at k
        rcases Nat.lt_or_ge i up.size with h' | h'
        · simp [h'] at k hun; rw [k] at hun; cases hun
        · simp [Array.getElem?_eq_none h'] at k
      have h2 := wpOp_putIf hoj (hfree j oj hoj hji hju hnot) (fun cs b => hsel i oi cs b hi) (fun cs b => hsel j oj cs b hoj) hQ hy (H.2 j (ready_mono hj hji))
      have hfree' : ∀ k ok, ops[k]? = some ok → k ≠ i → (up.setIfInBounds j true).getD k true = false → (∀ e ∈ ok.after, Region.binds md e = true → e.on ≠ i) → oi.apart ops ok = true := fun k ok hk hki hku hno => by
        by_cases hjk : j = k
        · subst hjk
          exact hfree j ok hk hki hju hno
        · rw [getD_set_ne true hjk] at hku
          exact hfree k ok hk hki hku hno
      refine wpOp_mono (fun b x k => ⟨fun _ => k.2.1 hjn, ih (up.setIfInBounds j true) b x (hc.set hj) hfree' (ready_mono hr (Ne.symm hji)) k.1 (k.2.1 hjn) ?_⟩) h2
      rw [Array.setIfInBounds_comm _ _ hji]
      exact k.2.2
theorem WpK.take {i : Nat} {oi : Oper} {v : Value} {f : Nat} {up : Array Bool} {a : Act} {w : World} (hi : ops[i]? = some oi) (hs : Region.noSelect ops = true) (hf : Region.free md ops up i = true)
    (hr : (Region.ready md ops up).contains i = true) (ht : tailB md ops kp i = true) (hc : clB md ops up = true) (hQ : ∀ c a w, Q (.panic c) (a.put oi.dst v) w → Q (.panic c) a w) (hy : YieldsIf P ops S oi v a) (hS : S w)
    (h : WpK P md ops Q S kp f (up.setIfInBounds i true) (a.put oi.dst v) w) : WpK P md ops Q S kp (f + 1) up a w :=
  WpK.first hi (Region.noSelect_spec hs) hQ ht f up a w (cl_of hc) (Region.free_spec hi hf) (by simpa using hr) hy hS h
theorem WpK.one {i : Nat} {o : Oper} {f : Nat} {up : Array Bool} {a : Act} {w : World} (hr : Region.ready md ops up = [i]) (ho : ops[i]? = some o)
    (h : ∀ K : Act → World → Prop, (∀ b x, (kp i = true → S x) → ((kp i = true → S x) → WpK P md ops Q S kp f (up.setIfInBounds i true) b x) → K b x) → if Region.wanted o (yielded ops a.tmps) = true then Oper.wp P o a w K Q else K (a.put o.dst undef) w) :
    WpK P md ops Q S kp (f + 1) up a w := by
  refine ⟨fun h0 => (by rw [hr] at h0; cases h0), fun j hj => ?_⟩
  rw [hr] at hj
  obtain rfl : j = i := by simpa using hj
  exact wpOp_step ho (fun K hK => h K (fun b x hS hW => hK b x ⟨hS, hW hS⟩))
theorem WpK.two {i k : Nat} {o u : Oper} {f : Nat} {up : Array Bool} {a : Act} {w : World} (hr : Region.ready md ops up = [i, k]) (ho : ops[i]? = some o) (hu : ops[k]? = some u)
    (h1 : ∀ K : Act → World → Prop, (∀ b x, (kp i = true → S x) → ((kp i = true → S x) → WpK P md ops Q S kp f (up.setIfInBounds i true) b x) → K b x) → if Region.wanted o (yielded ops a.tmps) = true then Oper.wp P o a w K Q else K (a.put o.dst undef) w)
    (h2 : ∀ K : Act → World → Prop, (∀ b x, (kp k = true → S x) → ((kp k = true → S x) → WpK P md ops Q S kp f (up.setIfInBounds k true) b x) → K b x) → if Region.wanted u (yielded ops a.tmps) = true then Oper.wp P u a w K Q else K (a.put u.dst undef) w) :
    WpK P md ops Q S kp (f + 1) up a w := by
  refine ⟨fun h0 => (by rw [hr] at h0; cases h0), fun j hj => ?_⟩
  rw [hr] at hj
  rcases (by simpa using hj : j = i ∨ j = k) with rfl | rfl
  · exact wpOp_step ho (fun K hK => h1 K (fun b x hS hW => hK b x ⟨hS, hW hS⟩))
  · exact wpOp_step hu (fun K hK => h2 K (fun b x hS hW => hK b x ⟨hS, hW hS⟩))
theorem WpK.weaken {S' : World → Prop} {kp' : Nat → Bool} (hS : ∀ x, S' x) : ∀ (f : Nat) {up : Array Bool} {a : Act} {w : World}, WpK P md ops Q S kp f up a w → WpK P md ops Q S' kp' f up a w
  | 0, _, _, _, h => h
  | f + 1, _, _, _, h => ⟨h.1, fun i hi => wpOp_mono (fun _ x k => ⟨fun _ => hS x, WpK.weaken hS f k.2⟩) (h.2 i hi)⟩
theorem WpK.done {f : Nat} {up : Array Bool} {a : Act} {w : World} (hr : Region.ready md ops up = []) (h : Q .normal a w) : WpK P md ops Q S kp f up a w := by
  cases f with
  | zero => exact ⟨hr, h⟩
  | succ f => exact ⟨fun _ => h, fun j hj => (by rw [hr] at hj; cases hj)⟩
end
end Go.Proofs.YtnfndiafabhhdaaGreat
/- Within a fence (an iterator, a round of a loop over a function): a region that draws its order, a head in whatever order, a tail in sequence. No program in sight. -/
namespace Go.Proofs.YtnfndiafabhhdaaGreat
open Go Go.RowKit
def FenceLets (F : Fence) (n : Nat) (P : Program) : Prop := F.depth = none ∧ (∀ f, F.fn f) ∧ ∀ (f : FuncId) (args : Array Value) (w : World) (R : Ending → World → Prop), Calls P f args w R → CallsIn F n P f args w R
theorem lets_wide (n : Nat) (P : Program) : FenceLets Fence.wide n P := ⟨rfl, fun _ => trivial, fun _ _ _ _ h => callsIn_wide.2 h⟩
theorem lets_round (l n : Nat) (P : Program) : FenceLets (Fence.wide.inRound l) n P := ⟨rfl, fun _ => trivial, fun _ _ _ _ h => CallsIn.inRound l (callsIn_wide.2 h)⟩
def noDefer (ops : List Oper) : Bool := ops.all fun o => match o.op with | .defer _ => false | _ => true
theorem noDefer_at {ops : List Oper} (h : noDefer ops = true) {o : Oper} (ho : o ∈ ops) : ∀ c, o.op ≠ .defer c := by
  intro c e
  have := List.all_eq_true.1 h o ho
  rw [e] at this
  simp at this
section
variable {P : Program} {ops : Array Oper} {md : Region.Mode} {C : World → Prop} {F : Fence} {n : Nat}
theorem wpIn_of_quiet {o : Oper} {a : Act} {K : Act → Prop} {K' : Act → World → Prop} {Q' : Exit → Act → World → Prop} {w : World} (hF : FenceLets F (n - 1) P) (hd : ∀ c, o.op ≠ .defer c) (hw : C w) (h : ∀ a w', C w' → K a → K' a w') (hh : o.quiet P a C K) :
    o.wpIn F n P a w K' Q' := by
  obtain ⟨v, h1, h2⟩ := hh
  have h3 := h1 w hw
  unfold Oper.quietAt at h3
  refine ⟨fun f _ => hF.2.1 f, ?_⟩
  rw [Oper.semAt_eq _ _ _ hd]
  generalize (execOp a.eval o).run P w = r at *
  cases r with
  | ok x w' =>
    cases x <;> simp only [Oper.quietUpon] at h3 <;> simp only [Oper.uponIn]
    case value u =>
      obtain ⟨e1, e2⟩ := h3
      rw [e1, e2]
      exact h _ _ hw h2
    case skip =>
      obtain ⟨e1, e2⟩ := h3
      rw [e1, ← e2]
      exact h _ _ hw h2
    case enter f args =>
      obtain ⟨e1, hc⟩ := h3
      rw [e1]
      refine ⟨(fun hx => by rw [hF.1] at hx; cases hx), ?_⟩
      refine hF.2.2 _ _ _ _ ?_
      exact hc.mono fun e w'' ⟨he, hw''⟩ => by subst he; exact h _ _ hw'' h2
  | halt x w' => simp only [Oper.quietUpon] at h3
theorem wpOpIn_of_qOp {i : Nat} {a : Act} {K : Act → Prop} {K' : Act → World → Prop} {Q' : Exit → Act → World → Prop} {w : World} (hF : FenceLets F (n - 1) P) (hd : ∀ o ∈ ops.toList, ∀ c, o.op ≠ .defer c) (hC : C w) (h : ∀ a w', C w' → K a → K' a w') (hh : qOp P ops C i K a) :
    wpOpIn F n P ops Q' i K' a w := by
  unfold qOp at hh
  unfold wpOpIn
  split
  · rename_i ho; simp only [ho] at hh; exact h _ _ hC hh
  · rename_i o ho
    simp only [ho] at hh
    split
    · rename_i hw
      simp only [hw, if_true] at hh
      exact wpIn_of_quiet hF (hd o (by rw [← Array.mem_def]; exact Array.mem_of_getElem? ho)) hC h hh
    · rename_i hw; simp only [hw] at hh; exact ⟨fun f _ => hF.2.1 f, h _ _ hC hh⟩
theorem WpH.anyIn {tl : List Nat} {L : Array Bool → Act → Prop} {g : Nat} {Q : Exit → Act → World → Prop} (hF : FenceLets F (n - 1) P) (hd : ∀ o ∈ ops.toList, ∀ c, o.op ≠ .defer c) (hL : ∀ up a w, L up a → C w → wpAnyIn F n P md ops Q g up a w) :
    ∀ (f : Nat) (up : Array Bool) (a : Act) (w : World), C w → WpH P md ops C tl L f up a → wpAnyIn F n P md ops Q (f + g) up a w
  | 0, up, a, w, hC, h => by rw [Nat.zero_add]; exact hL _ _ _ h hC
  | f + 1, up, a, w, hC, h => by
    rw [show f + 1 + g = (f + g) + 1 by omega]
    exact ⟨fun h0 => absurd h0 h.1, fun i hi => wpOpIn_of_qOp hF hd hC (fun a' w' hC' h' => WpH.anyIn hF hd hL f _ a' w' hC' h') (h.2 i hi).2⟩
theorem wpAnyIn_of_hSeq {Q : Exit → Act → World → Prop} {l : List Oper} (hl : ops = l.toArray) : ∀ (tl : List Nat) (up : Array Bool) (a : Act) (w : World),
    hSeq md ops tl up = true → wpListIn F n P ops Q (hPick l tl) a w → wpAnyIn F n P md ops Q tl.length up a w
  | [], up, a, w, hB, h => ⟨by simpa [hSeq] using hB, h⟩
  | t :: tl, up, a, w, hB, h => by
    simp only [hSeq, Bool.and_eq_true, decide_eq_true_eq] at hB
    have ht : t ∈ Region.ready md ops up := by rw [hB.1]; simp
    obtain ⟨_, o, ho, _⟩ := mem_ready.1 ht
    have ho' : l[t]? = some o := by rw [hl] at ho; simpa using ho
    refine ⟨fun h1 => (by rw [hB.1] at h1; cases h1), fun i hi => ?_⟩
    rw [hB.1] at hi
    obtain rfl : i = t := by simpa using hi
    have hw : wpOpIn F n P ops Q i (wpListIn F n P ops Q (hPick l tl)) a w := by
      unfold wpOpIn; simp only [ho]
      simp only [hPick, ho'] at h
      exact h
    exact wpOpIn_mono (fun a' w' h' => wpAnyIn_of_hSeq hl tl _ a' w' hB.2 h') hw
theorem wpIn_region_head {id : Nat} {Q : Exit → Act → World → Prop} {a : Act} {w : World} {l : List Oper} (hd tl : List Nat) (hF : FenceLets F (n - 1) P) (hm : P.follows .mixedOrders = true) (hB : hBool .any l.toArray hd tl = true) (hnd : noDefer l = true) (hC : C { w with drawn := w.drawn + 1 })
    (h : wpQuiet P l.toArray C (fun a' => ∀ w', C w' → wpListIn F n P l.toArray Q (hPick l tl) a' w') (hPick l hd) a) : (Code.region id l.toArray true).wpIn F n P Q a w := by
  simp only [hBool, Bool.and_eq_true, decide_eq_true_eq] at hB
  obtain ⟨⟨hsel, hlen⟩, hlex⟩ := hB
  refine wpIn_region_any hm ?_
  have H := WpH.anyIn (P := P) (F := F) (n := n) (Q := Q) hF (fun o ho => noDefer_at hnd (by simpa using ho)) (fun up a' w' hL hC' => wpAnyIn_of_hSeq rfl tl up a' w' hL.1 (hL.2 w' hC')) hd.length _ a _ hC (WpH.lex rfl hsel hd _ a HCl.none hlex h)
  rw [hlen] at H
  exact H
theorem wpIn_head_more {id : Nat} {Q : Exit → Act → World → Prop} {a : Act} {W : World} {l : List Oper} (hd tl : List Nat) (hF : FenceLets F (n - 1) P) (hm : P.follows .mixedOrders = true) (hB : hBool .any l.toArray hd tl = true) (hnd : noDefer l = true)
    (h : wpQuiet P l.toArray (fun w' => ∃ i : More W, w' = i.x) (fun a' => ∀ i : More W, wpListIn F n P l.toArray Q (hPick l tl) a' i.x) (hPick l hd) a) : (Code.region id l.toArray true).wpIn F n P Q a W := by
  refine wpIn_region_head (C := fun w' => ∃ i : More W, w' = i.x) hd tl hF hm hB hnd ⟨⟨_, (Below.refl _ _).drew⟩, rfl⟩ ?_
  have e : (fun a' => ∀ w', (∃ i : More W, w' = i.x) → wpListIn F n P l.toArray Q (hPick l tl) a' w') = fun a' => ∀ i : More W, wpListIn F n P l.toArray Q (hPick l tl) a' i.x := by
    funext a'
    exact propext ⟨fun k i => k _ ⟨i, rfl⟩, fun k w' ⟨i, hi⟩ => by subst hi; exact k i⟩
  rw [e]
  exact h
theorem wpIn_head_drew {id : Nat} {Q : Exit → Act → World → Prop} {a : Act} {W : World} {l : List Oper} (hd tl : List Nat) (hF : FenceLets F (n - 1) P) (hm : P.follows .mixedOrders = true) (hB : hBool .any l.toArray hd tl = true) (hnd : noDefer l = true)
    (h : wpQuiet P l.toArray (fun w' => ∃ q, w' = W.drewN q) (fun a' => ∀ q : Nat, wpListIn F n P l.toArray Q (hPick l tl) a' (W.drewN q)) (hPick l hd) a) : (Code.region id l.toArray true).wpIn F n P Q a W := by
  refine wpIn_region_head (C := fun w' => ∃ q, w' = W.drewN q) hd tl hF hm hB hnd ⟨1, rfl⟩ ?_
  have e : (fun a' => ∀ w', (∃ q, w' = W.drewN q) → wpListIn F n P l.toArray Q (hPick l tl) a' w') = fun a' => ∀ q : Nat, wpListIn F n P l.toArray Q (hPick l tl) a' (W.drewN q) := by
    funext a'
    exact propext ⟨fun k i => k _ ⟨i, rfl⟩, fun k w' ⟨i, hi⟩ => by subst hi; exact k i⟩
  rw [e]
  exact h
end
theorem grown_drewN (W : World) (q : Nat) : W.grownBy (W.drewN q) none := ⟨rfl, rfl, rfl, Nat.le_refl _, fun _ _ _ => rfl⟩
theorem others_of_below {W W' : World} (h : Below W.heap.size W W') : KeepsOthers W W' :=
  ⟨h.size, fun k o hk _ => by
    have hlt : k < W.heap.size := by
      rcases Nat.lt_or_ge k W.heap.size with hb | hb
      · exact hb
      · rw [Array.getElem?_eq_none hb] at hk; cases hk
    exact (h.block k hlt).trans hk⟩
end Go.Proofs.YtnfndiafabhhdaaGreat
