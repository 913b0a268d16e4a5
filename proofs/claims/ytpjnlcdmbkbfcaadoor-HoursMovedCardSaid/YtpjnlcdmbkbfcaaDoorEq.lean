/- Contracts of slices.Equal, Min, Max, Index over slices that read as lists. -/
import Derived.Test.YtpjnlcdmbkbfcaaDoorMem
namespace Go.Proofs.YtpjnlcdmbkbfcaaDoor
open Go.ChangeShapes Go.WideShapes Go.ChangeAt Go.RowKit Go.BigFrame

theorem equal_any (v1 v2 : Value) (l1 l2 : List Int) (w : World) (h1 : Ints w v1 l1) (h2 : Ints w v2 l2) (m1 : l1.length ≤ 9223372036854775807) (m2 : l2.length ≤ 9223372036854775807) :
    Calls Tryd.prog 59 #[v1, v2] w fun e w' => e = .returned (.bool (l1 == l2)) ∧ Below w.heap.size w w' := by
  obtain ⟨o1, n1, c1, rfl, e1, _⟩ := h1.parts
  obtain ⟨o2, n2, c2, rfl, e2, _⟩ := h2.parts
  have e1 := e1.out
  have e2 := e2.out
  by_cases hn : n1 = n2
  · by_cases h0 : n1 = 0
    · subst hn
      subst h0
      have a1 : l1 = [] := List.eq_nil_of_length_eq_zero e1
      have a2 : l2 = [] := List.eq_nil_of_length_eq_zero e2
      subst a1 a2
      exact (Go.Proofs.Tryd.slices_Equal_int_empty o1 o2 c1 0 c2 w (by omega)).mono fun e w' ⟨he, hw⟩ => ⟨he, by subst hw; exact Below.refl _ _⟩
    · obtain ⟨b1, f1, rfl, _, k1⟩ := h1.cells (by omega)
      obtain ⟨b2, f2, rfl, _, k2⟩ := h2.cells (by omega)
      have := Go.Proofs.Tryd.slices_Equal_int b1 f1 n1 c1 b2 f2 n2 c2 l1 l2 w (by omega) (by omega) (by omega) (by omega) (fun j hj => by rw [k1 j (by omega)]; simp [List.getD]) (fun j hj => by rw [k2 j (by omega)]; simp [List.getD])
      rw [show l1.take n1 = l1 by rw [← e1]; simp, show l2.take n2 = l2 by rw [← e2]; simp] at this
      exact this.mono fun e w' ⟨he, q, hw⟩ => ⟨he, by subst hw; exact below_drewN (Below.refl _ _) q⟩
  · have := Go.Proofs.Tryd.slices_Equal_int_lens o1 o2 n1 c1 n2 c2 w hn
    have hne : (l1 == l2) = false := by
      rw [beq_eq_false_iff_ne]
      intro h; subst h; omega
    rw [hne]
    exact this.mono fun e w' ⟨he, hw⟩ => ⟨he, by subst hw; exact Below.refl _ _⟩
theorem min_any (v : Value) (l : List Int) (w : World) (h : Ints w v l) (h0 : 0 < l.length) : Calls Tryd.prog 60 #[v] w fun e w' => e = .returned (.int .i64 (Lib.minOf l)) ∧ w = w' := by
  obtain ⟨b, off, c, rfl, hm, _, k⟩ := h.pos h0
  have := Go.Proofs.Tryd.slices_Min_int b off l.length c l w h0 (Nat.le_refl _) hm (fun j hj => by rw [k j hj]; simp [List.getD])
  rw [List.take_length] at this
  exact this.mono fun e w' ⟨he, hw⟩ => ⟨he, hw.symm⟩
theorem max_any (v : Value) (l : List Int) (w : World) (h : Ints w v l) (h0 : 0 < l.length) : Calls Tryd.prog 61 #[v] w fun e w' => e = .returned (.int .i64 (Lib.maxOf l)) ∧ w = w' := by
  obtain ⟨b, off, c, rfl, hm, _, k⟩ := h.pos h0
  have := Go.Proofs.Tryd.slices_Max_int b off l.length c l w h0 (Nat.le_refl _) hm (fun j hj => by rw [k j hj]; simp [List.getD])
  rw [List.take_length] at this
  exact this.mono fun e w' ⟨he, hw⟩ => ⟨he, hw.symm⟩
theorem index_any (v : Value) (l : List Int) (x : Int) (w : World) (h : Ints w v l) (h0 : 0 < l.length) : Calls Tryd.prog 62 #[v, .int .i64 x] w fun e w' => e = .returned (.int .i64 (Lib.idxOf l x)) ∧ w = w' := by
  obtain ⟨b, off, c, rfl, hm, _, k⟩ := h.pos h0
  have := Go.Proofs.Tryd.slices_Index_int b off l.length c l x w (Nat.le_refl _) hm (fun j hj => by rw [k j hj]; simp [List.getD])
  rw [List.take_length] at this
  exact this.mono fun e w' ⟨he, hw⟩ => ⟨he, hw.symm⟩
end Go.Proofs.YtpjnlcdmbkbfcaaDoor
