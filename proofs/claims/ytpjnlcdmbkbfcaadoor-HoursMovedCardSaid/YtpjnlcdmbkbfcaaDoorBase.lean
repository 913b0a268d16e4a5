/- Words for memory that every later text of this seat uses: a slice of ints that reads as a list; what is kept when a call only adds blocks. No program in sight. -/
import Derived.WalkKit
import Derived.ProofKit
import Derived.WalkSpells
import Derived.WalkLawsBesides
import Derived.Outline
import Derived.Handy
import Derived.Lib.Hide
import Derived.Deep.QuietTactic
import Derived.BigQuiet
import Derived.IntWalk
namespace Go.Proofs.YtpjnlcdmbkbfcaaDoor
open Go.ChangeShapes Go.WideShapes Go.ChangeAt Go.RowKit

/-- The slice value 'v' holds the ints 'l' in 'w'. -/
def Ints (w : World) (v : Value) (l : List Int) : Prop :=
  (l = [] ∧ ∃ o c, v = .slice o 0 c) ∨
  ∃ b off c, v = .slice (some ⟨b, off, none⟩) l.length c ∧ 0 < l.length ∧ l.length ≤ 9223372036854775807 ∧ b < w.heap.size ∧ ∀ j, j < l.length → w.cell? ⟨b, off + j, none⟩ = some (.int .i64 (l[j]?.getD 0))

theorem Ints.below {w w' : World} {v : Value} {l : List Int} (h : Ints w v l) (hb : Below w.heap.size w w') : Ints w' v l := by
  rcases h with h | ⟨b, off, c, rfl, h0, hm, hlt, hc⟩
  · exact .inl h
  · exact .inr ⟨b, off, c, rfl, h0, hm, Nat.lt_of_lt_of_le hlt hb.size, fun j hj => (hb.cell (p := ⟨b, off + j, none⟩) hlt).trans (hc j hj)⟩

theorem Ints.alloc {w : World} {v : Value} {l : List Int} (h : Ints w v l) (o : Obj) : Ints (w.alloc o) v l :=
  h.below ((Below.refl _ _).alloc (Nat.le_refl _) _)

theorem Ints.pos {w : World} {v : Value} {l : List Int} (h : Ints w v l) (h0 : 0 < l.length) :
    ∃ b off c, v = .slice (some ⟨b, off, none⟩) l.length c ∧ l.length ≤ 9223372036854775807 ∧ b < w.heap.size ∧ ∀ j, j < l.length → w.cell? ⟨b, off + j, none⟩ = some (.int .i64 (l[j]?.getD 0)) := by
  rcases h with ⟨rfl, _⟩ | ⟨b, off, c, hv, _, hm, hlt, hc⟩
  · simp at h0
  · exact ⟨b, off, c, hv, hm, hlt, hc⟩

/-- The same, the length a name of its own. -/
theorem Ints.parts {w : World} {v : Value} {l : List Int} (h : Ints w v l) : ∃ o n c, v = .slice o n c ∧ Hid (l.length = n) ∧ n ≤ 9223372036854775807 := by
  rcases h with ⟨rfl, o, c, rfl⟩ | ⟨b, off, c, rfl, h0, hm, hlt, hc⟩
  · exact ⟨o, 0, c, rfl, rfl, by omega⟩
  · exact ⟨_, _, _, rfl, rfl, hm⟩
theorem Ints.len {w : World} {o : Option Addr} {n c : Nat} {l : List Int} (h : Ints w (.slice o n c) l) : l.length = n := by
  rcases h with ⟨rfl, o, c, h⟩ | ⟨b, off, c, h, h0, hm, hlt, hc⟩
  · injection h with _ h; simp [h]
  · injection h with _ h; exact h.symm
theorem Ints.cells {w : World} {o : Option Addr} {n c : Nat} {l : List Int} (h : Ints w (.slice o n c) l) (h0 : 0 < n) :
    ∃ b off, o = some ⟨b, off, none⟩ ∧ b < w.heap.size ∧ ∀ j, j < n → w.cell? ⟨b, off + j, none⟩ = some (.int .i64 (l[j]?.getD 0)) := by
  have hl := h.len
  rcases h with ⟨rfl, o, c, h⟩ | ⟨b, off, c, h, h1, hm, hlt, hc⟩
  · simp at hl; omega
  · injection h with ho
    subst hl
    exact ⟨b, off, ho, hlt, hc⟩

/-- Old cells and old marks read as before. -/
theorem bcell {W w1 : World} (hb : Below W.heap.size W w1) : (∀ b o, b < W.heap.size → w1.cell? ⟨b, o, none⟩ = W.cell? ⟨b, o, none⟩) ∧ (∀ b o, b < W.heap.size → w1.frozen? ⟨b, o, none⟩ = W.frozen? ⟨b, o, none⟩) :=
  ⟨fun b o h => hb.cell (p := ⟨b, o, none⟩) h, fun b o h => hb.frozen (p := ⟨b, o, none⟩) h⟩

/-- A world that is W with more blocks. -/
structure More (W : World) where
  x : World
  h : Below W.heap.size W x
instance {W : World} : Nonempty (More W) := ⟨⟨W, Below.refl _ _⟩⟩

/-- A region that draws its order, whose operations only read and whose callees only add blocks: one walk in the text's order. -/
theorem wp_region_more {P : Program} {id : Nat} {Q : Exit → Act → World → Prop} {a : Act} {W : World} {l : List Oper} (hm : P.follows .mixedOrders = true) (hB : Region.lexB .any l.toArray = true)
    (h : wpQuiet P l.toArray (fun w' => ∃ i : More W, w' = i.x) (fun a' => ∀ i : More W, Q .normal a' i.x) l a) : (Code.region id l.toArray true).wp P Q a W := by
  refine wp_region_quiet (C := fun w' => ∃ i : More W, w' = i.x) hm hB ⟨⟨_, (Below.refl _ _).drew⟩, rfl⟩ ?_
  have e : (fun a' => ∀ w', (∃ i : More W, w' = i.x) → Q .normal a' w') = fun a' => ∀ i : More W, Q .normal a' i.x := by
    funext a'
    exact propext ⟨fun k i => k _ ⟨i, rfl⟩, fun k w' ⟨i, hi⟩ => by subst hi; exact k i⟩
  rw [e]
  simpa using h

theorem more_call {P : Program} {f : FuncId} {args : Array Value} {W : World} {i : More W} {v : Value}
    (h : Calls P f args i.x fun e w' => e = .returned v ∧ Below i.x.heap.size i.x w') : Calls P f args i.x fun e w'' => e = .returned v ∧ ∃ j : More W, w'' = j.x :=
  h.mono fun _ w'' ⟨he, hb⟩ => ⟨he, ⟨w'', i.h.trans (hb.mono i.h.size)⟩, rfl⟩
theorem more_same {P : Program} {f : FuncId} {args : Array Value} {W : World} {i : More W} {v : Value}
    (h : Calls P f args i.x fun e w' => e = .returned v ∧ i.x = w') : Calls P f args i.x fun e w'' => e = .returned v ∧ ∃ j : More W, w'' = j.x :=
  h.mono fun _ _ ⟨he, hb⟩ => ⟨he, i, hb.symm⟩
theorem more_cell {W : World} : ∀ (i : More W) (b o : Nat), b < W.heap.size → i.x.cell? ⟨b, o, none⟩ = W.cell? ⟨b, o, none⟩ := fun i b o h => i.h.cell (p := ⟨b, o, none⟩) h

/-- One call behind another. -/
theorem bthen {a b c : World} (h : Below a.heap.size a b) (k : Below b.heap.size b c) : Below a.heap.size a c := h.trans (k.mono h.size)
theorem ballo (w : World) (o : Obj) : Below w.heap.size w (w.alloc o) := (Below.refl _ _).alloc (Nat.le_refl _) _
theorem bafter {w w1 : World} {o : Obj} (h : Below (w.alloc o).heap.size (w.alloc o) w1) : Below w.heap.size w w1 := bthen (ballo w o) h
theorem below_drewN {B : Nat} {a w : World} (h : Below B a w) (n : Nat) : Below B a (w.drewN n) := ⟨h.os, h.tape, h.output, h.size, h.block⟩

theorem quiet_add {P : Program} {f : FuncId} {args : Array Value} {w : World} {a n : Nat} {v : Value}
    (h : Calls P f args (w.drewN (a + n)) fun e w' => e = .returned v ∧ ∃ m, w' = (w.drewN (a + n)).drewN m) :
    Calls P f args (w.drewN (a + n)) fun e w'' => e = .returned v ∧ ∃ m, w'' = w.drewN (a + m) :=
  h.mono fun _ _ ⟨he, m, hm⟩ => ⟨he, n + m, by rw [hm, World.drewN_drewN, Nat.add_assoc]⟩
theorem quiet_add_left {P : Program} {f : FuncId} {args : Array Value} {w : World} {a n : Nat} {v : Value}
    (h : Calls P f args (w.drewN (a + n)) fun e w' => e = .returned v ∧ w.drewN (a + n) = w') :
    Calls P f args (w.drewN (a + n)) fun e w'' => e = .returned v ∧ ∃ m, w'' = w.drewN (a + m) :=
  h.mono fun _ _ ⟨he, hm⟩ => ⟨he, n, hm.symm⟩
theorem quiet_left {P : Program} {f : FuncId} {args : Array Value} {w : World} {n : Nat} {v : Value}
    (h : Calls P f args (w.drewN n) fun e w' => e = .returned v ∧ w.drewN n = w') : Calls P f args (w.drewN n) fun e w'' => e = .returned v ∧ ∃ m, w'' = w.drewN m :=
  h.mono fun _ _ ⟨he, hm⟩ => ⟨he, n, hm.symm⟩
theorem results_tmp4 {fn : Func} {t u v x : Tmp} (h : fn.results = #[.tmp t, .tmp u, .tmp v, .tmp x]) (tmps : Array Value) (P : Program) (w : World) :
    (results fn tmps).run P w = .ok (.tuple #[tmps.getD t undef, tmps.getD u undef, tmps.getD v undef, tmps.getD x undef]) w := by simp [results, h]

theorem ret_bool {a b : Bool} (h : a = b) : Ending.returned (.bool a) = .returned (.bool b) := by rw [h]
theorem ret_int {k : IntKind} {a b : Int} (h : a = b) : Ending.returned (.int k a) = .returned (.int k b) := by rw [h]

end Go.Proofs.YtpjnlcdmbkbfcaaDoor
