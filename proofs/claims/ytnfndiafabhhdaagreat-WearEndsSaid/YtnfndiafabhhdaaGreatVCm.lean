/- The law package's comparison of ratios (compare): the walk. -/
import Derived.Test.YtnfndiafabhhdaaGreatVLc
namespace Go.Proofs.YtnfndiafabhhdaaGreat
open Go.ChangeShapes Go.WideShapes Go.ChangeAt Go.RowKit

theorem cm_step {a1 a2 b1 b2 : Int} (e : a1 / a2 = b1 / b2) : b2 * (a1 % a2) - a2 * (b1 % b2) = a1 * b2 - b1 * a2 := by
  have h1 := Int.mul_ediv_add_emod a1 a2
  have h2 := Int.mul_ediv_add_emod b1 b2
  rw [← e] at h2
  generalize a1 / a2 = q at *
  generalize a1 % a2 = m at *
  generalize b1 % b2 = n at *
  subst h1 h2
  grind
def cmM (w wr : World) : Nat := (intOf ((wr.cell? ⟨w.heap.size, 1, none⟩).getD undef)).toNat + (intOf ((wr.cell? ⟨w.heap.size + 1, 1, none⟩).getD undef)).toNat
structure CmI (w wr : World) (s a1 a2 b1 b2 : Int) : Prop where
  a : Bk wr w.heap.size 41 [.int .i64 a1, .int .i64 a2]
  b : Bk wr (w.heap.size + 1) 41 [.int .i64 b1, .int .i64 b2]
  a0 : 0 ≤ a1 ∧ a1 ≤ 9223372036854775807
  a3 : 0 < a2 ∧ a2 ≤ 9223372036854775807
  b0 : 0 ≤ b1 ∧ b1 ≤ 9223372036854775807
  b3 : 0 < b2 ∧ b2 ≤ 9223372036854775807
  w : Below w.heap.size w wr
  s : sgn (a1 * b2 - b1 * a2) = s
set_option maxRecDepth 100000 in
set_option maxHeartbeats 4000000 in
theorem compare_any (p q r t : Int) (w : World) (p0 : 0 ≤ p) (p1 : p ≤ 9223372036854775807) (q0 : 0 < q) (q1 : q ≤ 9223372036854775807) (r0 : 0 ≤ r) (r1 : r ≤ 9223372036854775807) (t0 : 0 < t) (t1 : t ≤ 9223372036854775807) :
    Calls Tryz.prog 34 #[.agg #[.int .i64 p, .int .i64 q], .agg #[.int .i64 r, .int .i64 t]] w fun e w' => e = .returned (.int .i64 (sgn (p * t - r * q))) ∧ Below w.heap.size w w' := by
  obtain ⟨s, hs⟩ : ∃ s, sgn (p * t - r * q) = s := ⟨_, rfl⟩
  rw [hs]
  have HI : Hid (CmI w ((w.alloc (Obj.cells #[.int .i64 p, .int .i64 q] 41)).alloc (Obj.cells #[.int .i64 r, .int .i64 t] 41)) s p q r t) :=
    Lib.hid ⟨(Bk.new w _ [_, _]).alloc _, Bk.new1 w _ _ [_, _], ⟨p0, p1⟩, ⟨q0, q1⟩, ⟨r0, r1⟩, ⟨t0, t1⟩, (ballo w _).alloc (by simp) _, hs⟩
  clear hs p0 p1 q0 q1 r0 r1 t0 t1
  go_enter Tryz.func34, Tryz.ntmps34
  go_wp2_with fail
  go_loopw [] (fun wr => ∃ a1 a2 b1 b2, Hid (CmI w wr s a1 a2 b1 b2)) (fun wr => cmM w wr)
  case atStart => exact ⟨p, q, r, t, HI⟩
  case round =>
    obtain ⟨a1, a2, b1, b2, hI⟩ := hrel
    have c0 := hI.out.a.cell 0
    have c1 := hI.out.a.cell 1
    have d0 := hI.out.b.cell 0
    have d1 := hI.out.b.cell 1
    have f0 := hI.out.a.frozen 0
    have f1 := hI.out.a.frozen 1
    have g0 := hI.out.b.frozen 0
    have g1 := hI.out.b.frozen 1
    have l1 := hI.out.a.lt
    have l2 := hI.out.b.lt
    simp only [List.getElem?_cons_zero, List.getElem?_cons_succ] at c0 c1 d0 d1
    obtain ⟨a0, a00⟩ := hI.out.a0
    obtain ⟨a3, a33⟩ := hI.out.a3
    obtain ⟨b0, b00⟩ := hI.out.b0
    obtain ⟨b3, b33⟩ := hI.out.b3
    have HS := hI.out.s
    have HM : Hid (cmM w wr = a2.toNat + b2.toNat) := Lib.hid (by unfold cmM; rw [c1, d1]; rfl)
    have e1 := Int.tdiv_eq_ediv_of_nonneg a0 (b := a2)
    have e2 := Int.tdiv_eq_ediv_of_nonneg b0 (b := b2)
    have e3 := Int.tmod_eq_emod_of_nonneg a0 (b := a2)
    have e4 := Int.tmod_eq_emod_of_nonneg b0 (b := b2)
    have E1 := Lib.hid e1
    have E2 := Lib.hid e2
    have E3 := Lib.hid e3
    have E4 := Lib.hid e4
    have HS := Lib.hid HS
    clear e1 e2 e3 e4
    have m1 := Int.emod_nonneg a1 (show a2 ≠ 0 by omega)
    have m2 := Int.emod_lt_of_pos a1 a3
    have n1 := Int.emod_nonneg b1 (show b2 ≠ 0 by omega)
    have n2 := Int.emod_lt_of_pos b1 b3
    have k1 := @below_of a1 a2 b1 b2 a3 b3
    have k2 := @below_of b1 b2 a1 a2 b3 a3
    have k3 := @cm_step a1 a2 b1 b2
    have K1 := Lib.hid k1
    have K2 := Lib.hid k2
    have K3 := Lib.hid k3
    clear k1 k2 k3 E1 E2 E3 E4
    have HBW := Lib.hid (below_drewN hI.out.w)
    go_wp2_with fail
    go_quiet (fail)
    obtain ⟨P, hP⟩ : ∃ P, a1 / a2 = P := ⟨_, rfl⟩
    obtain ⟨Q, hQ⟩ : ∃ Q, b1 / b2 = Q := ⟨_, rfl⟩
    rw [hP, hQ] at K1 K2 K3 ⊢
    clear hP hQ
    rcases Int.lt_trichotomy P Q with h | h | h
    · have hs : s = -1 := by rw [← HS.out]; have := K1.out h; unfold sgn; rw [if_pos (by omega)]
      subst hs
      have hne : (P == Q) = false := by simp; omega
      go_wp2_with fail
      go_ret
      exact ⟨rfl, HBW.out _⟩
    · subst h
      go_wp2_with fail
      go_quiet (fail)
      obtain ⟨M, hM⟩ : ∃ M, a1 % a2 = M := ⟨_, rfl⟩
      obtain ⟨N, hN⟩ : ∃ N, b1 % b2 = N := ⟨_, rfl⟩
      rw [hM] at m1 m2 K3 ⊢
      rw [hN] at n1 n2 K3 ⊢
      clear hM hN
      have k3 := K3.out trivial
      have hs := HS.out
      rw [← k3] at hs
      clear K1 K2 K3 k3 HS
      have HS := Lib.hid hs
      clear hs
      by_cases hM : M = 0
      · by_cases hN : N = 0
        · subst hM hN
          have hs : s = 0 := by rw [← HS.out]; simp [sgn]
          subst hs
          go_wp2_with fail
          go_ret
          exact ⟨rfl, HBW.out _⟩
        · subst hM
          have hs : s = -1 := by
            rw [← HS.out]
            have := Int.mul_pos a3 (show 0 < N by omega)
            unfold sgn; rw [if_pos (by omega)]
          subst hs
          have n3 : 0 < N := by omega
          clear hN
          go_wp2_with fail
          go_ret
          exact ⟨rfl, HBW.out _⟩
      · by_cases hN : N = 0
        · subst hN
          have hs : s = 1 := by
            rw [← HS.out]
            have := Int.mul_pos b3 (show 0 < M by omega)
            unfold sgn; rw [if_neg (by omega), if_pos (by omega)]
          subst hs
          have m3 : 0 < M := by omega
          clear hM
          go_wp2_with fail
          go_ret
          exact ⟨rfl, HBW.out _⟩
        · have m3 : 0 < M := by omega
          have n3 : 0 < N := by omega
          clear hM hN
          go_wp2_with fail
          generalize hd : wr.drewN _ = wd
          have hA0 : Bk wd w.heap.size 41 [.int .i64 a1, .int .i64 a2] := by rw [← hd]; exact hI.out.a.drewN _
          have hB0 : Bk wd (w.heap.size + 1) 41 [.int .i64 b1, .int .i64 b2] := by rw [← hd]; exact hI.out.b.drewN _
          have hW0 : Below w.heap.size w wd := by rw [← hd]; exact HBW.out _
          have hA := (((hA0.set 0 (.int .i64 b2)).set 1 (.int .i64 N)).far (p := ⟨w.heap.size + 1, 0, none⟩) (by simp) (.int .i64 a2)).far (p := ⟨w.heap.size + 1, 1, none⟩) (by simp) (.int .i64 M)
          have hB := (((hB0.far (p := ⟨w.heap.size, 0, none⟩) (by simp) (.int .i64 b2)).far (p := ⟨w.heap.size, 1, none⟩) (by simp) (.int .i64 N)).set 0 (.int .i64 a2)).set 1 (.int .i64 M)
          have hW := (((hW0.setCell (p := ⟨w.heap.size, 0, none⟩) (Nat.le_refl _) (.int .i64 b2)).setCell (p := ⟨w.heap.size, 1, none⟩) (Nat.le_refl _) (.int .i64 N)).setCell (p := ⟨w.heap.size + 1, 0, none⟩) (Nat.le_succ _) (.int .i64 a2)).setCell (p := ⟨w.heap.size + 1, 1, none⟩) (Nat.le_succ _) (.int .i64 M)
          refine ⟨⟨b2, N, a2, M, Lib.hid ⟨hA, hB, by omega, by omega, by omega, by omega, hW, HS.out⟩⟩, ?_⟩
          rw [HM.out]
          unfold cmM
          rw [hA.cell, hB.cell]
          show N.toNat + M.toNat < a2.toNat + b2.toNat
          omega
    · have hs : s = 1 := by rw [← HS.out]; have := K2.out h; unfold sgn; rw [if_neg (by omega), if_pos (by omega)]
      subst hs
      have hne : (P == Q) = false := by simp; omega
      go_wp2_with fail
      go_ret
      exact ⟨rfl, HBW.out _⟩
end Go.Proofs.YtnfndiafabhhdaaGreat
