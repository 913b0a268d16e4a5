/- A region that draws its order and ends in stores that wait for all the rest: a condition on the world serves its first n operations alone. No program in sight. -/
import Derived.OrdersHeld
import Derived.RegionTactic
import Derived.Deep.RegionHeld3
namespace Go.Proofs.YtpjnlcdmbkbfcaaDoor
open Go

theorem toArray_at {α : Type} (l : List α) (i : Nat) : l.toArray[i]? = l[i]? := by simp

section
variable {P : Program} {ops : Array Oper} {Q : Exit → Act → World → Prop} {md : Region.Mode} {S : World → Prop} {n : Nat}

/-- Whatever order is picked from here on; behind each of the first n operations S holds. -/
def WpK (P : Program) (md : Region.Mode) (ops : Array Oper) (Q : Exit → Act → World → Prop) (S : World → Prop) (n : Nat) : Nat → Array Bool → Act → World → Prop
  | 0, up, a, w => Region.ready md ops up = [] ∧ Q .normal a w
  | f + 1, up, a, w => (Region.ready md ops up = [] → Q .normal a w) ∧ ∀ i ∈ Region.ready md ops up, wpOp P ops Q i (fun b x => (i < n → S x) ∧ WpK P md ops Q S n f (up.setIfInBounds i true) b x) a w
theorem WpK.any : ∀ (f : Nat) (up : Array Bool) (a : Act) (w : World), WpK P md ops Q S n f up a w → wpAny P md ops Q f up a w
  | 0, _, _, _, h => h
  | f + 1, _, _, _, h => ⟨h.1, fun i hi => wpOp_mono (fun b x k => WpK.any f _ b x k.2) (h.2 i hi)⟩
theorem WpK.begin {id f : Nat} {up : Array Bool} {a : Act} {w : World} (hm : P.follows .mixedOrders = true) (hf : ops.size = f) (hu : Array.replicate ops.size false = up) (h : WpK P .any ops Q S n f up a w.drew) : (Code.region id ops true).wp P Q a w := by
  subst hf hu
  exact wp_region_any hm (WpK.any _ _ _ _ h)
/-- Operation t waits for operation i, by some steps. -/
def waits (md : Region.Mode) (ops : Array Oper) : Nat → Nat → Nat → Bool
  | 0, _, _ => false
  | f + 1, t, i => match ops[t]? with
    | some o => o.after.any fun e => Region.binds md e && (e.on == i || waits md ops f e.on i)
    | none => false
/-- All operations from n on wait for operation i. -/
def tailB (md : Region.Mode) (ops : Array Oper) (n i : Nat) : Bool :=
  (List.range ops.size).all fun t => decide (t < n) || waits md ops 12 t i
/-- What has come up waited for nothing that has not. -/
def Cl (md : Region.Mode) (ops : Array Oper) (up : Array Bool) : Prop := ∀ j o, ops[j]? = some o → up.getD j false = true → ∀ e ∈ o.after, Region.binds md e = true → up.getD e.on false = true
def clB (md : Region.Mode) (ops : Array Oper) (up : Array Bool) : Bool :=
  (List.range ops.size).all fun j => match ops[j]? with
    | some o => !up.getD j false || o.after.all fun e => !Region.binds md e || up.getD e.on false
    | none => true
theorem cl_of {up : Array Bool} (h : clB md ops up = true) : Cl md ops up := fun j o ho hu e he hb => by
  have hlt : j < ops.size := (Array.getElem?_eq_some_iff.1 ho).1
  have h1 := List.all_eq_true.1 h j (List.mem_range.2 hlt)
  rw [ho] at h1
  simp only [hu, Bool.not_true, Bool.false_or] at h1
  have h2 := Array.all_eq_true_iff_forall_mem.1 h1 e he
  simpa [hb] using h2
theorem Cl.set {up : Array Bool} {j : Nat} (h : Cl md ops up) (hj : j ∈ Region.ready md ops up) : Cl md ops (up.setIfInBounds j true) := fun k o ho hu e he hb => by
  obtain ⟨hju, oj, hoj, hall⟩ := mem_ready.1 hj
  by_cases hjk : j = k
  · subst hjk
    obtain rfl : oj = o := Option.some.inj (hoj.symm.trans ho)
    exact getD_set_true (hall e he hb)
  · rw [getD_set_ne false hjk] at hu
    exact getD_set_true (h k o ho hu e he hb)
theorem waits_up {up : Array Bool} (hc : Cl md ops up) {i : Nat} : ∀ (f t : Nat), up.getD t false = true → waits md ops f t i = true → up.getD i false = true
  | 0, _, _, h => by cases h
  | f + 1, t, hu, h => by
    unfold waits at h
    split at h
    · rename_i o ho
      obtain ⟨e, he, hb⟩ := Array.any_eq_true'.1 h
      simp only [Bool.and_eq_true, Bool.or_eq_true, beq_iff_eq] at hb
      have k := hc t o ho hu e he hb.1
      rcases hb.2 with h1 | h1
      · rw [← h1]; exact k
      · exact waits_up hc f e.on k h1
    · cases h
theorem not_both {up : Array Bool} {i : Nat} (h : up.getD i false = true) (hu : up.getD i true = false) : False := by
  rcases Nat.lt_or_ge i up.size with h' | h'
  · simp [h'] at h hu; rw [h] at hu; cases hu
  · simp [Array.getElem?_eq_none h'] at h
theorem tail_lt {i j : Nat} {up : Array Bool} (hc : Cl md ops up) (ht : tailB md ops n i = true) (hu : up.getD i true = false) (hj : j ∈ Region.ready md ops up) : j < n := by
  obtain ⟨_, o, ho, hall⟩ := mem_ready.1 hj
  have hlt : j < ops.size := (Array.getElem?_eq_some_iff.1 ho).1
  have h1 := List.all_eq_true.1 ht j (List.mem_range.2 hlt)
  rcases Nat.lt_or_ge j n with h | h
  · exact h
  · exfalso
    simp only [Bool.or_eq_true, decide_eq_true_eq] at h1
    rcases h1 with h1 | h1
    · omega
    · unfold waits at h1
      rw [ho] at h1
      obtain ⟨e, he, hb⟩ := Array.any_eq_true'.1 h1
      simp only [Bool.and_eq_true, Bool.or_eq_true, beq_iff_eq] at hb
      have k := hall e he hb.1
      rcases hb.2 with h2 | h2
      · rw [h2] at k; exact not_both k hu
      · exact not_both (waits_up hc _ _ k h2) hu
theorem WpK.first {i : Nat} {oi : Oper} {v : Value} (hi : ops[i]? = some oi) (hsel : ∀ (j : Nat) (o : Oper) cs b, ops[j]? = some o → o.op ≠ .select cs b)
    (hQ : ∀ c a w, Q (.panic c) (a.put oi.dst v) w → Q (.panic c) a w) (ht : tailB md ops n i = true) :
    ∀ (f : Nat) (up : Array Bool) (a : Act) (w : World), Cl md ops up →
      (∀ j oj, ops[j]? = some oj → j ≠ i → up.getD j true = false → (∀ e ∈ oj.after, Region.binds md e = true → e.on ≠ i) → oi.apart ops oj = true) →
      i ∈ Region.ready md ops up → YieldsIf P ops S oi v a → S w → WpK P md ops Q S n f (up.setIfInBounds i true) (a.put oi.dst v) w → WpK P md ops Q S n (f + 1) up a w := by
  intro f
  induction f with
  | zero =>
    intro up a w _ _ hr hy hS H
    refine ⟨fun h => (by rw [h] at hr; cases hr), fun j hj => ?_⟩
    by_cases hji : j = i
    · subst hji
      exact hy.wpOp hi hS ⟨fun _ => hS, H⟩
    · have := ready_mono hj hji
      rw [H.1] at this
      cases this
  | succ f ih =>
    intro up a w hc hfree hr hy hS H
    refine ⟨fun h => (by rw [h] at hr; cases hr), fun j hj => ?_⟩
    by_cases hji : j = i
    · subst hji
      exact hy.wpOp hi hS ⟨fun _ => hS, H⟩
    · have hun := (mem_ready.1 hr).1
      have hjn := tail_lt hc ht hun hj
      obtain ⟨hju, oj, hoj, hall⟩ := mem_ready.1 hj
      have hnot : ∀ e ∈ oj.after, Region.binds md e = true → e.on ≠ i := fun e he hb heq => by
        have k := hall e he hb
        rw [heq] at k
        rcases Nat.lt_or_ge i up.size with h' | h'
        · simp [h'] at k hun; rw [k] at hun; cases hun
        · simp [Array.getElem?_eq_none h'] at k
      have h2 := wpOp_putIf hoj (hfree j oj hoj hji hju hnot) (fun cs b => hsel i oi cs b hi) (fun cs b => hsel j oj cs b hoj) hQ hy (H.2 j (ready_mono hj hji))
      have hfree' : ∀ k ok, ops[k]? = some ok → k ≠ i → (up.setIfInBounds j true).getD k true = false → (∀ e ∈ ok.after, Region.binds md e = true → e.on ≠ i) → oi.apart ops ok = true := fun k ok hk hki hku hno => by
        by_cases hjk : j = k
        · subst hjk
          exact hfree j ok hk hki hju hno
        · rw [getD_set_ne true hjk] at hku
          exact hfree k ok hk hki hku hno
      refine wpOp_mono (fun b x k => ⟨fun _ => k.2.1 hjn, ih (up.setIfInBounds j true) b x (hc.set hj) hfree' (ready_mono hr (Ne.symm hji)) k.1 (k.2.1 hjn) ?_⟩) h2
      rw [Array.setIfInBounds_comm _ _ hji]
      exact k.2.2
theorem WpK.take {i : Nat} {oi : Oper} {v : Value} {f : Nat} {up : Array Bool} {a : Act} {w : World} (hi : ops[i]? = some oi) (hs : Region.noSelect ops = true) (hf : Region.free md ops up i = true)
    (hr : (Region.ready md ops up).contains i = true) (ht : tailB md ops n i = true) (hc : clB md ops up = true) (hQ : ∀ c a w, Q (.panic c) (a.put oi.dst v) w → Q (.panic c) a w) (hy : YieldsIf P ops S oi v a) (hS : S w)
    (h : WpK P md ops Q S n f (up.setIfInBounds i true) (a.put oi.dst v) w) : WpK P md ops Q S n (f + 1) up a w :=
  WpK.first hi (Region.noSelect_spec hs) hQ ht f up a w (cl_of hc) (Region.free_spec hi hf) (by simpa using hr) hy hS h
/-- One alone may come up. -/
theorem WpK.one {i : Nat} {o : Oper} {f : Nat} {up : Array Bool} {a : Act} {w : World} (hr : Region.ready md ops up = [i]) (ho : ops[i]? = some o)
    (h : ∀ K : Act → World → Prop, (∀ b x, (i < n → S x) → ((i < n → S x) → WpK P md ops Q S n f (up.setIfInBounds i true) b x) → K b x) → if Region.wanted o (yielded ops a.tmps) = true then Oper.wp P o a w K Q else K (a.put o.dst undef) w) :
    WpK P md ops Q S n (f + 1) up a w := by
  refine ⟨fun h0 => (by rw [hr] at h0; cases h0), fun j hj => ?_⟩
  rw [hr] at hj
  obtain rfl : j = i := by simpa using hj
  exact wpOp_step ho (fun K hK => h K (fun b x hS hW => hK b x ⟨hS, hW hS⟩))
/-- Two may come up. -/
theorem WpK.two {i k : Nat} {o u : Oper} {f : Nat} {up : Array Bool} {a : Act} {w : World} (hr : Region.ready md ops up = [i, k]) (ho : ops[i]? = some o) (hu : ops[k]? = some u)
    (h1 : ∀ K : Act → World → Prop, (∀ b x, (i < n → S x) → ((i < n → S x) → WpK P md ops Q S n f (up.setIfInBounds i true) b x) → K b x) → if Region.wanted o (yielded ops a.tmps) = true then Oper.wp P o a w K Q else K (a.put o.dst undef) w)
    (h2 : ∀ K : Act → World → Prop, (∀ b x, (k < n → S x) → ((k < n → S x) → WpK P md ops Q S n f (up.setIfInBounds k true) b x) → K b x) → if Region.wanted u (yielded ops a.tmps) = true then Oper.wp P u a w K Q else K (a.put u.dst undef) w) :
    WpK P md ops Q S n (f + 1) up a w := by
  refine ⟨fun h0 => (by rw [hr] at h0; cases h0), fun j hj => ?_⟩
  rw [hr] at hj
  rcases (by simpa using hj : j = i ∨ j = k) with rfl | rfl
  · exact wpOp_step ho (fun K hK => h1 K (fun b x hS hW => hK b x ⟨hS, hW hS⟩))
  · exact wpOp_step hu (fun K hK => h2 K (fun b x hS hW => hK b x ⟨hS, hW hS⟩))
theorem WpK.done {f : Nat} {up : Array Bool} {a : Act} {w : World} (hr : Region.ready md ops up = []) (h : Q .normal a w) : WpK P md ops Q S n f up a w := by
  cases f with
  | zero => exact ⟨hr, h⟩
  | succ f => exact ⟨fun _ => h, fun j hj => (by rw [hr] at hj; cases hj)⟩
end
end Go.Proofs.YtpjnlcdmbkbfcaaDoor
