/- Walks of the reference's ratios: less, Order, order (Wear). -/
import Derived.Test.YtnfndiafabhhdaaGreatG1
import Derived.Test.YtnfndiafabhhdaaGreatC4
import Derived.Test.YtnfndiafabhhdaaGreatC7
namespace Go.Proofs.YtnfndiafabhhdaaGreat
open Go.ChangeShapes Go.WideShapes Go.ChangeAt Go.RowKit
theorem rless_any (an ad bn bd k : Int) (w : World) (h1 : -4000000000000000000 ≤ an * bd ∧ an * bd ≤ 4000000000000000000) (h2 : -4000000000000000000 ≤ bn * ad ∧ bn * ad ≤ 4000000000000000000) (h3 : 0 ≤ ad * bd ∧ ad * bd ≤ 4000000000000000000) (h4 : 0 ≤ ad * bd * k ∧ ad * bd * k ≤ 4000000000000000000) :
    Calls Tryz.prog 95 #[.agg #[.int .i64 an, .int .i64 ad], .agg #[.int .i64 bn, .int .i64 bd], .int .i64 k] w fun e w' => e = .returned (.agg #[.int .i64 (an * bd - bn * ad), .int .i64 (ad * bd * k)]) ∧ Below w.heap.size w w' := by
  obtain ⟨h11, h12⟩ := h1
  obtain ⟨h21, h22⟩ := h2
  obtain ⟨h31, h32⟩ := h3
  obtain ⟨h41, h42⟩ := h4
  go_enter Tryz.func95, Tryz.ntmps95
  go_wp2_with fail
  refine bodyPost_ret (v := .agg #[.int .i64 (an * bd - bn * ad), .int .i64 (ad * bd * k)]) (by simp [results, Tryz.results95, go_sem]) rfl ⟨rfl, ?_⟩
  exact belw
theorem or_step {a1 a2 b1 b2 : Int} (e : a1 / a2 = b1 / b2) : b2 * (a1 % a2) - a2 * (b1 % b2) = a1 * b2 - b1 * a2 := by
  have h1 := Int.mul_ediv_add_emod a1 a2
  have h2 := Int.mul_ediv_add_emod b1 b2
  rw [← e] at h2
  generalize a1 / a2 = q at *
  generalize a1 % a2 = m at *
  generalize b1 % b2 = n at *
  subst h1 h2
  grind
def orM (w wr : World) : Nat := (intOf ((wr.cell? ⟨w.heap.size, 1, none⟩).getD undef)).toNat + (intOf ((wr.cell? ⟨w.heap.size + 1, 1, none⟩).getD undef)).toNat
structure OrI (w wr : World) (s a1 a2 b1 b2 : Int) : Prop where
  a : Bk wr w.heap.size 41 [.int .i64 a1, .int .i64 a2]
  b : Bk wr (w.heap.size + 1) 41 [.int .i64 b1, .int .i64 b2]
  a0 : 0 ≤ a1 ∧ a1 ≤ 9223372036854775807
  a3 : 0 < a2 ∧ a2 ≤ 9223372036854775807
  b0 : 0 ≤ b1 ∧ b1 ≤ 9223372036854775807
  b3 : 0 < b2 ∧ b2 ≤ 9223372036854775807
  w : Below w.heap.size w wr
  s : sgn (a1 * b2 - b1 * a2) = s
set_option maxRecDepth 100000 in
set_option maxHeartbeats 4000000 in
theorem Order_any (p q r t : Int) (w : World) (p0 : 0 ≤ p) (p1 : p ≤ 9223372036854775807) (q0 : 0 < q) (q1 : q ≤ 9223372036854775807) (r0 : 0 ≤ r) (r1 : r ≤ 9223372036854775807) (t0 : 0 < t) (t1 : t ≤ 9223372036854775807) :
    Calls Tryz.prog 150 #[.agg #[.int .i64 p, .int .i64 q], .agg #[.int .i64 r, .int .i64 t]] w fun e w' => e = .returned (.int .i64 (sgn (p * t - r * q))) ∧ Below w.heap.size w w' := by
  obtain ⟨s, hs⟩ : ∃ s, sgn (p * t - r * q) = s := ⟨_, rfl⟩
  rw [hs]
  have HI : Hid (OrI w ((w.alloc (Obj.cells #[.int .i64 p, .int .i64 q] 41)).alloc (Obj.cells #[.int .i64 r, .int .i64 t] 41)) s p q r t) :=
    Lib.hid ⟨(Bk.new w _ [_, _]).alloc _, Bk.new1 w _ _ [_, _], ⟨p0, p1⟩, ⟨q0, q1⟩, ⟨r0, r1⟩, ⟨t0, t1⟩, (ballo w _).alloc (by simp) _, hs⟩
  clear hs p0 p1 q0 q1 r0 r1 t0 t1
  go_enter Tryz.func150, Tryz.ntmps150
  go_wp2_with fail
  go_loopw [] (fun wr => ∃ a1 a2 b1 b2, Hid (OrI w wr s a1 a2 b1 b2)) (fun wr => orM w wr)
  case atStart => exact ⟨p, q, r, t, HI⟩
  case round =>
    obtain ⟨a1, a2, b1, b2, hI⟩ := hrel
    have c0 := hI.out.a.cell 0
    have c1 := hI.out.a.cell 1
    have d0 := hI.out.b.cell 0
    have d1 := hI.out.b.cell 1
    have f0 := hI.out.a.frozen 0
    have f1 := hI.out.a.frozen 1
    have g0 := hI.out.b.frozen 0
    have g1 := hI.out.b.frozen 1
    have l1 := hI.out.a.lt
    have l2 := hI.out.b.lt
    simp only [List.getElem?_cons_zero, List.getElem?_cons_succ] at c0 c1 d0 d1
    obtain ⟨a0, a00⟩ := hI.out.a0
    obtain ⟨a3, a33⟩ := hI.out.a3
    obtain ⟨b0, b00⟩ := hI.out.b0
    obtain ⟨b3, b33⟩ := hI.out.b3
    have HS := hI.out.s
    have HM : Hid (orM w wr = a2.toNat + b2.toNat) := Lib.hid (by unfold orM; rw [c1, d1]; rfl)
    have HS := Lib.hid HS
    have e1 := Int.tdiv_eq_ediv_of_nonneg a0 (b := a2)
    have e2 := Int.tdiv_eq_ediv_of_nonneg b0 (b := b2)
    have e3 := Int.tmod_eq_emod_of_nonneg a0 (b := a2)
    have e4 := Int.tmod_eq_emod_of_nonneg b0 (b := b2)
    have m1 := Int.emod_nonneg a1 (show a2 ≠ 0 by omega)
    have m2 := Int.emod_lt_of_pos a1 a3
    have n1 := Int.emod_nonneg b1 (show b2 ≠ 0 by omega)
    have n2 := Int.emod_lt_of_pos b1 b3
    have k1 := @below_of a1 a2 b1 b2 a3 b3
    have k2 := @below_of b1 b2 a1 a2 b3 a3
    have k3 := @or_step a1 a2 b1 b2
    have u1 := Int.ediv_nonneg a0 (Int.le_of_lt a3)
    have u2 := Int.ediv_nonneg b0 (Int.le_of_lt b3)
    have u3 := Int.ediv_le_self a2 a0
    have u4 := Int.ediv_le_self b2 b0
    obtain ⟨P, hP⟩ : ∃ P, a1 / a2 = P := ⟨_, rfl⟩
    obtain ⟨Q, hQ⟩ : ∃ Q, b1 / b2 = Q := ⟨_, rfl⟩
    obtain ⟨M, hM⟩ : ∃ M, a1 % a2 = M := ⟨_, rfl⟩
    obtain ⟨N, hN⟩ : ∃ N, b1 % b2 = N := ⟨_, rfl⟩
    rw [hP, hQ] at k1 k2
    rw [hP, hQ, hM, hN] at k3
    rw [hP] at u1 u3
    rw [hQ] at u2 u4
    rw [hM] at m1 m2
    rw [hN] at n1 n2
    have K1 := Lib.hid k1
    have K2 := Lib.hid k2
    have K3 := Lib.hid k3
    clear k1 k2 k3 e1 e2 e3 e4
    have HBW := Lib.hid hI.out.w
    rcases Int.lt_trichotomy P Q with h | h | h
    · have hs : s = -1 := by rw [← HS.out]; have := K1.out h; unfold sgn; rw [if_pos (by omega)]
      subst hs
      go_wp2_with fail
      go_ret
      exact ⟨rfl, HBW.out⟩
    · subst h
      have k3 := K3.out rfl
      have hs := HS.out
      rw [← k3] at hs
      clear K1 K2 K3 k3 HS
      have HS := Lib.hid hs
      clear hs
      by_cases hM0 : M = 0
      · by_cases hN0 : N = 0
        · subst hM0 hN0
          have hs : s = 0 := by rw [← HS.out]; simp [sgn]
          subst hs
          go_wp2_with fail
          go_ret
          exact ⟨rfl, HBW.out⟩
        · subst hM0
          have hs : s = -1 := by
            rw [← HS.out]
            have := Int.mul_pos a3 (show 0 < N by omega)
            unfold sgn; rw [if_pos (by omega)]
          subst hs
          have n3 : 0 < N := by omega
          clear hN0
          go_wp2_with fail
          go_ret
          exact ⟨rfl, HBW.out⟩
      · by_cases hN0 : N = 0
        · subst hN0
          have hs : s = 1 := by
            rw [← HS.out]
            have := Int.mul_pos b3 (show 0 < M by omega)
            unfold sgn; rw [if_neg (by omega), if_pos (by omega)]
          subst hs
          have m3 : 0 < M := by omega
          clear hM0
          go_wp2_with fail
          go_ret
          exact ⟨rfl, HBW.out⟩
        · have m3 : 0 < M := by omega
          have n3 : 0 < N := by omega
          clear hM0 hN0
          go_wp2_with fail
          have hA := (((((hI.out.a.set 0 (.int .i64 b2)).set 1 (.int .i64 N)).far (p := ⟨w.heap.size + 1, 0, none⟩) (by simp) (.int .i64 a2)).far (p := ⟨w.heap.size + 1, 1, none⟩) (by simp) (.int .i64 M)).alloc (Obj.cells #[.int .i64 b2, .int .i64 N] 41)).alloc (Obj.cells #[.int .i64 a2, .int .i64 M] 41)
          have hB := (((((hI.out.b.far (p := ⟨w.heap.size, 0, none⟩) (by simp) (.int .i64 b2)).far (p := ⟨w.heap.size, 1, none⟩) (by simp) (.int .i64 N)).set 0 (.int .i64 a2)).set 1 (.int .i64 M)).alloc (Obj.cells #[.int .i64 b2, .int .i64 N] 41)).alloc (Obj.cells #[.int .i64 a2, .int .i64 M] 41)
          have hw := HBW.out.size
          have hW := (((((HBW.out.setCell (p := ⟨w.heap.size, 0, none⟩) (Nat.le_refl _) (.int .i64 b2)).setCell (p := ⟨w.heap.size, 1, none⟩) (Nat.le_refl _) (.int .i64 N)).setCell (p := ⟨w.heap.size + 1, 0, none⟩) (Nat.le_succ _) (.int .i64 a2)).setCell (p := ⟨w.heap.size + 1, 1, none⟩) (Nat.le_succ _) (.int .i64 M)).alloc (by simpa using hw) (Obj.cells #[.int .i64 b2, .int .i64 N] 41)).alloc (by simp; omega) (Obj.cells #[.int .i64 a2, .int .i64 M] 41)
          refine ⟨⟨b2, N, a2, M, Lib.hid ⟨hA, hB, by omega, by omega, by omega, by omega, hW, HS.out⟩⟩, ?_⟩
          rw [HM.out]
          unfold orM
          rw [hA.cell, hB.cell]
          show N.toNat + M.toNat < a2.toNat + b2.toNat
          omega
    · have hs : s = 1 := by rw [← HS.out]; have := K2.out h; unfold sgn; rw [if_neg (by omega), if_pos (by omega)]
      subst hs
      go_wp2_with fail
      go_ret
      exact ⟨rfl, HBW.out⟩
theorem sgn_neg (x : Int) (h : x < 0) : sgn x = -1 := by unfold sgn; rw [if_pos h]
theorem sgn_pos (x : Int) (h : 0 < x) : sgn x = 1 := by unfold sgn; rw [if_neg (by omega), if_pos h]
set_option maxRecDepth 100000 in
theorem order_any (p q r t : Int) (w : World) (p0 : -9223372036854775807 ≤ p) (p1 : p ≤ 9223372036854775807) (q0 : 0 < q) (q1 : q ≤ 9223372036854775807) (r0 : -9223372036854775807 ≤ r) (r1 : r ≤ 9223372036854775807) (t0 : 0 < t) (t1 : t ≤ 9223372036854775807) :
    Calls Tryz.prog 94 #[.agg #[.int .i64 p, .int .i64 q], .agg #[.int .i64 r, .int .i64 t]] w fun e w' => e = .returned (.int .i64 (sgn (p * t - r * q))) ∧ Below w.heap.size w w' := by
  rcases Int.lt_or_le p 0 with hp | hp
  · rcases Int.lt_or_le r 0 with hr | hr
    · have hO := Order_any (-r) t (-p) q
      rw [show -r * q - -p * t = p * t - r * q by rw [Int.neg_mul, Int.neg_mul]; omega] at hO
      obtain ⟨s, hs⟩ : ∃ s, sgn (p * t - r * q) = s := ⟨_, rfl⟩
      rw [hs] at hO ⊢
      have HO := Lib.hid hO
      clear hO hs
      go_enter Tryz.func94, Tryz.ntmps94
      go_wp2_with fail
      refine (HO.out _ (by omega) (by omega) t0 t1 (by omega) (by omega) q0 q1).mono ?_
      rintro e w1 ⟨rfl, hb⟩
      go_wp2_with fail
      go_ret
      exact ⟨rfl, bafter (bafter hb)⟩
    · have hs : sgn (p * t - r * q) = -1 := sgn_neg _ (by have := Int.mul_neg_of_neg_of_pos hp t0; have := Int.mul_nonneg hr (Int.le_of_lt q0); omega)
      rw [hs]
      clear hs
      go_enter Tryz.func94, Tryz.ntmps94
      go_wp2_with fail
      go_ret
      exact ⟨rfl, belw⟩
  · rcases Int.lt_or_le r 0 with hr | hr
    · have hs : sgn (p * t - r * q) = 1 := sgn_pos _ (by have := Int.mul_neg_of_neg_of_pos hr q0; have := Int.mul_nonneg hp (Int.le_of_lt t0); omega)
      rw [hs]
      clear hs
      go_enter Tryz.func94, Tryz.ntmps94
      go_wp2_with fail
      go_ret
      exact ⟨rfl, belw⟩
    · have hO := Order_any p q r t
      obtain ⟨s, hs⟩ : ∃ s, sgn (p * t - r * q) = s := ⟨_, rfl⟩
      rw [hs] at hO ⊢
      have HO := Lib.hid hO
      clear hO hs
      go_enter Tryz.func94, Tryz.ntmps94
      go_wp2_with fail
      refine (HO.out _ (by omega) (by omega) q0 q1 (by omega) (by omega) t0 t1).mono ?_
      rintro e w1 ⟨rfl, hb⟩
      go_wp2_with fail
      go_ret
      exact ⟨rfl, bafter (bafter hb)⟩
abbrev inC (r : Rn) : List Value := [.int .i64 r.lo.n, .int .i64 r.lo.d, .int .i64 r.hi.n, .int .i64 r.hi.d, .bool r.lo.s, .bool r.hi.s, .bool r.e]
abbrev inV (r : Rn) : Value := .agg #[.int .i64 r.lo.n, .int .i64 r.lo.d, .int .i64 r.hi.n, .int .i64 r.hi.d, .bool r.lo.s, .bool r.hi.s, .bool r.e]
abbrev rlC (x : Ln × Bool) : List Value := [.int .i64 x.1.k, .int .i64 x.1.n, .int .i64 x.1.d, .bool x.2, .bool x.1.s]
abbrev rlV (x : Ln × Bool) : Value := .agg #[.int .i64 x.1.k, .int .i64 x.1.n, .int .i64 x.1.d, .bool x.2, .bool x.1.s]
structure BdR (b : Bd) : Prop where
  a0 : -4000000000000000000 ≤ b.n
  a1 : b.n ≤ 4000000000000000000
  b0 : 0 < b.d
  b1 : b.d ≤ 4000000000000000000
theorem RnC.lo {r : Rn} (h : RnC r) : BdR r.lo := ⟨by have := h.a0; omega, by have := h.a1; omega, h.b0, by have := h.b1; omega⟩
theorem RnC.hi {r : Rn} (h : RnC r) : BdR r.hi := ⟨by have := h.c0; omega, by have := h.c1; omega, h.d0, by have := h.d1; omega⟩
set_option maxRecDepth 100000 in
set_option maxHeartbeats 4000000 in
theorem atLeast_any (x : Rn) (b : Bd) (w : World) (hx : BdR x.lo) (hb : BdR b) :
    Calls Tryz.prog 130 #[inV x, .agg #[.int .i64 b.n, .int .i64 b.d], .bool b.s] w fun e w' => e = .returned (inV { x with lo := mxR x.lo b }) ∧ Below w.heap.size w w' := by
  obtain ⟨⟨ln, ld, ls⟩, ⟨hn, hd, hs⟩, re⟩ := x
  obtain ⟨bn, bd, bs⟩ := b
  obtain ⟨x1, x2, x3, x4⟩ := hx
  obtain ⟨b1, b2, b3, b4⟩ := hb
  simp only at *
  have hO := fun w => order_any bn bd ln ld w (by omega) (by omega) (by omega) (by omega) (by omega) (by omega) (by omega) (by omega)
  have HX := Lib.hid (((Bk.new w 129 [.int .i64 ln, .int .i64 ld, .int .i64 hn, .int .i64 hd, .bool ls, .bool hs, .bool re]).alloc (Obj.cells #[.int .i64 bn, .int .i64 bd] 41)).alloc (Obj.cells #[.int .i64 0, .int .i64 0, .int .i64 0, .int .i64 0, .bool false, .bool false, .bool false] 129))
  have HY := Lib.hid ((Bk.new1 w (Obj.cells #[.int .i64 ln, .int .i64 ld, .int .i64 hn, .int .i64 hd, .bool ls, .bool hs, .bool re] 129) 41 [.int .i64 bn, .int .i64 bd]).alloc (Obj.cells #[.int .i64 0, .int .i64 0, .int .i64 0, .int .i64 0, .bool false, .bool false, .bool false] 129))
  have HR := Lib.hid (show Bk (((w.alloc (Obj.cells #[.int .i64 ln, .int .i64 ld, .int .i64 hn, .int .i64 hd, .bool ls, .bool hs, .bool re] 129)).alloc (Obj.cells #[.int .i64 bn, .int .i64 bd] 41)).alloc (Obj.cells #[.int .i64 0, .int .i64 0, .int .i64 0, .int .i64 0, .bool false, .bool false, .bool false] 129)) (w.heap.size + 2) 129 [.int .i64 0, .int .i64 0, .int .i64 0, .int .i64 0, .bool false, .bool false, .bool false] by
    have h := Bk.new1 (w.alloc (Obj.cells #[.int .i64 ln, .int .i64 ld, .int .i64 hn, .int .i64 hd, .bool ls, .bool hs, .bool re] 129)) (Obj.cells #[.int .i64 bn, .int .i64 bd] 41) 129 [.int .i64 0, .int .i64 0, .int .i64 0, .int .i64 0, .bool false, .bool false, .bool false]
    rwa [World.size_alloc] at h)
  rcases sgn_cases (bn * ld - ln * bd) with ⟨h, hx⟩ | ⟨h, hx⟩ | ⟨h, hx⟩
  · rw [h] at hO
    have HO := Lib.hid hO
    have HP := Lib.hid (show mxR ⟨ln, ld, ls⟩ ⟨bn, bd, bs⟩ = ⟨bn, bd, bs⟩ by unfold mxR; simp only; rw [if_pos (by omega)])
    clear hO h hx x1 x2 x3 x4 b1 b2 b3 b4
    go_enter Tryz.func130, Tryz.ntmps130
    go_wp2_with fail
    refine (HO.out _).mono ?_
    rintro e w1 ⟨rfl, hb⟩
    have z := HX.out.below hb
    have y := HY.out.below hb
    have r := HR.out.below hb
    have z0 := z.cell 0
    have z1 := z.cell 1
    have z2 := z.cell 2
    have z3 := z.cell 3
    have z4 := z.cell 4
    have z5 := z.cell 5
    have z6 := z.cell 6
    have y0 := y.cell 0
    have y1 := y.cell 1
    have f0 := z.frozen 0
    have f1 := z.frozen 1
    have f2 := z.frozen 2
    have f3 := z.frozen 3
    have f4 := z.frozen 4
    have f5 := z.frozen 5
    have r0 := r.cell 0
    have r1 := r.cell 1
    have r2 := r.cell 2
    have r3 := r.cell 3
    have r4 := r.cell 4
    have r5 := r.cell 5
    have r6 := r.cell 6
    have q0 := r.frozen 0
    have q1 := r.frozen 1
    have q2 := r.frozen 2
    have q3 := r.frozen 3
    have q4 := r.frozen 4
    have q5 := r.frozen 5
    have q6 := r.frozen 6
    have zl := z.lt
    have rl := r.lt
    have yl := y.lt
    simp only [List.getElem?_cons_zero, List.getElem?_cons_succ] at z0 z1 z2 z3 z4 z5 z6 y0 y1 r0 r1 r2 r3 r4 r5 r6
    have Z := Lib.hid z
    have R := Lib.hid r
    have HB := Lib.hid (bafter (bafter (bafter hb)))
    clear z r y hb
    have hZ : Bk (((w1.setCell ⟨w.heap.size, 0, none⟩ (.int .i64 bn)).setCell ⟨w.heap.size, 1, none⟩ (.int .i64 bd)).setCell ⟨w.heap.size, 4, none⟩ (.bool bs)) w.heap.size 129 [.int .i64 bn, .int .i64 bd, .int .i64 hn, .int .i64 hd, .bool bs, .bool hs, .bool re] := (((Z.out.set 0 _).set 1 _).set 4 _)
    have hR : Bk (((w1.setCell ⟨w.heap.size, 0, none⟩ (.int .i64 bn)).setCell ⟨w.heap.size, 1, none⟩ (.int .i64 bd)).setCell ⟨w.heap.size, 4, none⟩ (.bool bs)) (w.heap.size + 2) 129 [.int .i64 0, .int .i64 0, .int .i64 0, .int .i64 0, .bool false, .bool false, .bool false] := (((R.out.far (by simp) _).far (by simp) _).far (by simp) _)
    have hW : Below w.heap.size w (((w1.setCell ⟨w.heap.size, 0, none⟩ (.int .i64 bn)).setCell ⟨w.heap.size, 1, none⟩ (.int .i64 bd)).setCell ⟨w.heap.size, 4, none⟩ (.bool bs)) := by have h := HB.out; exact belw
    have HZ := Lib.hid hZ
    have HRR := Lib.hid hR
    have HW := Lib.hid hW
    clear hZ hR hW
    go_wp2_with (first | (refine ld_at rfl (T := 129) rfl rfl HZ.out Tryz.underlying129 rfl (by kernel_rfl) ?_) | (refine st_at rfl (T := 129) rfl rfl (cs := [.int .i64 bn, .int .i64 bd, .int .i64 hn, .int .i64 hd, .bool bs, .bool hs, .bool re]) rfl HRR.out (by kernel_rfl) rfl rfl ?_; intro wk hkk hsk))
    refine bodyPost_ret (v := inV ⟨⟨bn, bd, bs⟩, ⟨hn, hd, hs⟩, re⟩) (results_cell_row rfl _ _ (w.heap.size + 2) _ _ (0, 0) _ rfl hkk Tryz.underlying129 rfl (by kernel_rfl)) rfl ⟨by rw [HP.out], ?_⟩
    exact bes_then HW.out hsk (by omega) HW.out.size
  · rw [h] at hO
    have HO := Lib.hid hO
    cases ls
    · cases bs
      · have HP := Lib.hid (show mxR ⟨ln, ld, false⟩ ⟨bn, bd, false⟩ = ⟨ln, ld, false⟩ by unfold mxR; simp only; rw [if_neg (by omega), if_pos (by omega)]; rfl)
        clear hO h hx x1 x2 x3 x4 b1 b2 b3 b4
        go_enter Tryz.func130, Tryz.ntmps130
        go_wp2_with fail
        refine (HO.out _).mono ?_
        rintro e w1 ⟨rfl, hb⟩
        have z := HX.out.below hb
        have y := HY.out.below hb
        have r := HR.out.below hb
        have z0 := z.cell 0
        have z1 := z.cell 1
        have z2 := z.cell 2
        have z3 := z.cell 3
        have z4 := z.cell 4
        have z5 := z.cell 5
        have z6 := z.cell 6
        have y0 := y.cell 0
        have y1 := y.cell 1
        have f0 := z.frozen 0
        have f1 := z.frozen 1
        have f2 := z.frozen 2
        have f3 := z.frozen 3
        have f4 := z.frozen 4
        have f5 := z.frozen 5
        have r0 := r.cell 0
        have r1 := r.cell 1
        have r2 := r.cell 2
        have r3 := r.cell 3
        have r4 := r.cell 4
        have r5 := r.cell 5
        have r6 := r.cell 6
        have q0 := r.frozen 0
        have q1 := r.frozen 1
        have q2 := r.frozen 2
        have q3 := r.frozen 3
        have q4 := r.frozen 4
        have q5 := r.frozen 5
        have q6 := r.frozen 6
        have zl := z.lt
        have rl := r.lt
        have yl := y.lt
        simp only [List.getElem?_cons_zero, List.getElem?_cons_succ] at z0 z1 z2 z3 z4 z5 z6 y0 y1 r0 r1 r2 r3 r4 r5 r6
        have Z := Lib.hid z
        have R := Lib.hid r
        have HB := Lib.hid (bafter (bafter (bafter hb)))
        clear z r y hb
        have hZ : Bk (w1.setCell ⟨w.heap.size, 4, none⟩ (.bool false)) w.heap.size 129 [.int .i64 ln, .int .i64 ld, .int .i64 hn, .int .i64 hd, .bool false, .bool hs, .bool re] := (Z.out.set 4 _)
        have hR : Bk (w1.setCell ⟨w.heap.size, 4, none⟩ (.bool false)) (w.heap.size + 2) 129 [.int .i64 0, .int .i64 0, .int .i64 0, .int .i64 0, .bool false, .bool false, .bool false] := (R.out.far (by simp) _)
        have hW : Below w.heap.size w (w1.setCell ⟨w.heap.size, 4, none⟩ (.bool false)) := by have h := HB.out; exact belw
        have HZ := Lib.hid hZ
        have HRR := Lib.hid hR
        have HW := Lib.hid hW
        clear hZ hR hW
        go_wp2_with (first | (refine ld_at rfl (T := 129) rfl rfl HZ.out Tryz.underlying129 rfl (by kernel_rfl) ?_) | (refine st_at rfl (T := 129) rfl rfl (cs := [.int .i64 ln, .int .i64 ld, .int .i64 hn, .int .i64 hd, .bool false, .bool hs, .bool re]) rfl HRR.out (by kernel_rfl) rfl rfl ?_; intro wk hkk hsk))
        refine bodyPost_ret (v := inV ⟨⟨ln, ld, false⟩, ⟨hn, hd, hs⟩, re⟩) (results_cell_row rfl _ _ (w.heap.size + 2) _ _ (0, 0) _ rfl hkk Tryz.underlying129 rfl (by kernel_rfl)) rfl ⟨by rw [HP.out], ?_⟩
        exact bes_then HW.out hsk (by omega) HW.out.size
      · have HP := Lib.hid (show mxR ⟨ln, ld, false⟩ ⟨bn, bd, true⟩ = ⟨ln, ld, true⟩ by unfold mxR; simp only; rw [if_neg (by omega), if_pos (by omega)]; rfl)
        clear hO h hx x1 x2 x3 x4 b1 b2 b3 b4
        go_enter Tryz.func130, Tryz.ntmps130
        go_wp2_with fail
        refine (HO.out _).mono ?_
        rintro e w1 ⟨rfl, hb⟩
        have z := HX.out.below hb
        have y := HY.out.below hb
        have r := HR.out.below hb
        have z0 := z.cell 0
        have z1 := z.cell 1
        have z2 := z.cell 2
        have z3 := z.cell 3
        have z4 := z.cell 4
        have z5 := z.cell 5
        have z6 := z.cell 6
        have y0 := y.cell 0
        have y1 := y.cell 1
        have f0 := z.frozen 0
        have f1 := z.frozen 1
        have f2 := z.frozen 2
        have f3 := z.frozen 3
        have f4 := z.frozen 4
        have f5 := z.frozen 5
        have r0 := r.cell 0
        have r1 := r.cell 1
        have r2 := r.cell 2
        have r3 := r.cell 3
        have r4 := r.cell 4
        have r5 := r.cell 5
        have r6 := r.cell 6
        have q0 := r.frozen 0
        have q1 := r.frozen 1
        have q2 := r.frozen 2
        have q3 := r.frozen 3
        have q4 := r.frozen 4
        have q5 := r.frozen 5
        have q6 := r.frozen 6
        have zl := z.lt
        have rl := r.lt
        have yl := y.lt
        simp only [List.getElem?_cons_zero, List.getElem?_cons_succ] at z0 z1 z2 z3 z4 z5 z6 y0 y1 r0 r1 r2 r3 r4 r5 r6
        have Z := Lib.hid z
        have R := Lib.hid r
        have HB := Lib.hid (bafter (bafter (bafter hb)))
        clear z r y hb
        have hZ : Bk (w1.setCell ⟨w.heap.size, 4, none⟩ (.bool true)) w.heap.size 129 [.int .i64 ln, .int .i64 ld, .int .i64 hn, .int .i64 hd, .bool true, .bool hs, .bool re] := (Z.out.set 4 _)
        have hR : Bk (w1.setCell ⟨w.heap.size, 4, none⟩ (.bool true)) (w.heap.size + 2) 129 [.int .i64 0, .int .i64 0, .int .i64 0, .int .i64 0, .bool false, .bool false, .bool false] := (R.out.far (by simp) _)
        have hW : Below w.heap.size w (w1.setCell ⟨w.heap.size, 4, none⟩ (.bool true)) := by have h := HB.out; exact belw
        have HZ := Lib.hid hZ
        have HRR := Lib.hid hR
        have HW := Lib.hid hW
        clear hZ hR hW
        go_wp2_with (first | (refine ld_at rfl (T := 129) rfl rfl HZ.out Tryz.underlying129 rfl (by kernel_rfl) ?_) | (refine st_at rfl (T := 129) rfl rfl (cs := [.int .i64 ln, .int .i64 ld, .int .i64 hn, .int .i64 hd, .bool true, .bool hs, .bool re]) rfl HRR.out (by kernel_rfl) rfl rfl ?_; intro wk hkk hsk))
        refine bodyPost_ret (v := inV ⟨⟨ln, ld, true⟩, ⟨hn, hd, hs⟩, re⟩) (results_cell_row rfl _ _ (w.heap.size + 2) _ _ (0, 0) _ rfl hkk Tryz.underlying129 rfl (by kernel_rfl)) rfl ⟨by rw [HP.out], ?_⟩
        exact bes_then HW.out hsk (by omega) HW.out.size
    · have HP := Lib.hid (show mxR ⟨ln, ld, true⟩ ⟨bn, bd, bs⟩ = ⟨ln, ld, true⟩ by unfold mxR; simp only; rw [if_neg (by omega), if_pos (by omega)]; rfl)
      clear hO h hx x1 x2 x3 x4 b1 b2 b3 b4
      go_enter Tryz.func130, Tryz.ntmps130
      go_wp2_with fail
      refine (HO.out _).mono ?_
      rintro e w1 ⟨rfl, hb⟩
      have z := HX.out.below hb
      have y := HY.out.below hb
      have r := HR.out.below hb
      have z0 := z.cell 0
      have z1 := z.cell 1
      have z2 := z.cell 2
      have z3 := z.cell 3
      have z4 := z.cell 4
      have z5 := z.cell 5
      have z6 := z.cell 6
      have y0 := y.cell 0
      have y1 := y.cell 1
      have f0 := z.frozen 0
      have f1 := z.frozen 1
      have f2 := z.frozen 2
      have f3 := z.frozen 3
      have f4 := z.frozen 4
      have f5 := z.frozen 5
      have r0 := r.cell 0
      have r1 := r.cell 1
      have r2 := r.cell 2
      have r3 := r.cell 3
      have r4 := r.cell 4
      have r5 := r.cell 5
      have r6 := r.cell 6
      have q0 := r.frozen 0
      have q1 := r.frozen 1
      have q2 := r.frozen 2
      have q3 := r.frozen 3
      have q4 := r.frozen 4
      have q5 := r.frozen 5
      have q6 := r.frozen 6
      have zl := z.lt
      have rl := r.lt
      have yl := y.lt
      simp only [List.getElem?_cons_zero, List.getElem?_cons_succ] at z0 z1 z2 z3 z4 z5 z6 y0 y1 r0 r1 r2 r3 r4 r5 r6
      have Z := Lib.hid z
      have R := Lib.hid r
      have HB := Lib.hid (bafter (bafter (bafter hb)))
      clear z r y hb
      have hZ : Bk (w1.setCell ⟨w.heap.size, 4, none⟩ (.bool true)) w.heap.size 129 [.int .i64 ln, .int .i64 ld, .int .i64 hn, .int .i64 hd, .bool true, .bool hs, .bool re] := (Z.out.set 4 _)
      have hR : Bk (w1.setCell ⟨w.heap.size, 4, none⟩ (.bool true)) (w.heap.size + 2) 129 [.int .i64 0, .int .i64 0, .int .i64 0, .int .i64 0, .bool false, .bool false, .bool false] := (R.out.far (by simp) _)
      have hW : Below w.heap.size w (w1.setCell ⟨w.heap.size, 4, none⟩ (.bool true)) := by have h := HB.out; exact belw
      have HZ := Lib.hid hZ
      have HRR := Lib.hid hR
      have HW := Lib.hid hW
      clear hZ hR hW
      go_wp2_with (first | (refine ld_at rfl (T := 129) rfl rfl HZ.out Tryz.underlying129 rfl (by kernel_rfl) ?_) | (refine st_at rfl (T := 129) rfl rfl (cs := [.int .i64 ln, .int .i64 ld, .int .i64 hn, .int .i64 hd, .bool true, .bool hs, .bool re]) rfl HRR.out (by kernel_rfl) rfl rfl ?_; intro wk hkk hsk))
      refine bodyPost_ret (v := inV ⟨⟨ln, ld, true⟩, ⟨hn, hd, hs⟩, re⟩) (results_cell_row rfl _ _ (w.heap.size + 2) _ _ (0, 0) _ rfl hkk Tryz.underlying129 rfl (by kernel_rfl)) rfl ⟨by rw [HP.out], ?_⟩
      exact bes_then HW.out hsk (by omega) HW.out.size
  · rw [h] at hO
    have HO := Lib.hid hO
    have HP := Lib.hid (show mxR ⟨ln, ld, ls⟩ ⟨bn, bd, bs⟩ = ⟨ln, ld, ls⟩ by unfold mxR; simp only; rw [if_neg (by omega), if_neg (by omega)])
    clear hO h hx x1 x2 x3 x4 b1 b2 b3 b4
    go_enter Tryz.func130, Tryz.ntmps130
    go_wp2_with fail
    refine (HO.out _).mono ?_
    rintro e w1 ⟨rfl, hb⟩
    have z := HX.out.below hb
    have y := HY.out.below hb
    have r := HR.out.below hb
    have z0 := z.cell 0
    have z1 := z.cell 1
    have z2 := z.cell 2
    have z3 := z.cell 3
    have z4 := z.cell 4
    have z5 := z.cell 5
    have z6 := z.cell 6
    have y0 := y.cell 0
    have y1 := y.cell 1
    have f0 := z.frozen 0
    have f1 := z.frozen 1
    have f2 := z.frozen 2
    have f3 := z.frozen 3
    have f4 := z.frozen 4
    have f5 := z.frozen 5
    have r0 := r.cell 0
    have r1 := r.cell 1
    have r2 := r.cell 2
    have r3 := r.cell 3
    have r4 := r.cell 4
    have r5 := r.cell 5
    have r6 := r.cell 6
    have q0 := r.frozen 0
    have q1 := r.frozen 1
    have q2 := r.frozen 2
    have q3 := r.frozen 3
    have q4 := r.frozen 4
    have q5 := r.frozen 5
    have q6 := r.frozen 6
    have zl := z.lt
    have rl := r.lt
    have yl := y.lt
    simp only [List.getElem?_cons_zero, List.getElem?_cons_succ] at z0 z1 z2 z3 z4 z5 z6 y0 y1 r0 r1 r2 r3 r4 r5 r6
    have Z := Lib.hid z
    have R := Lib.hid r
    have HB := Lib.hid (bafter (bafter (bafter hb)))
    clear z r y hb
    have hZ : Bk w1 w.heap.size 129 [.int .i64 ln, .int .i64 ld, .int .i64 hn, .int .i64 hd, .bool ls, .bool hs, .bool re] := Z.out
    have hR : Bk w1 (w.heap.size + 2) 129 [.int .i64 0, .int .i64 0, .int .i64 0, .int .i64 0, .bool false, .bool false, .bool false] := R.out
    have hW : Below w.heap.size w w1 := by have h := HB.out; exact belw
    have HZ := Lib.hid hZ
    have HRR := Lib.hid hR
    have HW := Lib.hid hW
    clear hZ hR hW
    go_wp2_with (first | (refine ld_at rfl (T := 129) rfl rfl HZ.out Tryz.underlying129 rfl (by kernel_rfl) ?_) | (refine st_at rfl (T := 129) rfl rfl (cs := [.int .i64 ln, .int .i64 ld, .int .i64 hn, .int .i64 hd, .bool ls, .bool hs, .bool re]) rfl HRR.out (by kernel_rfl) rfl rfl ?_; intro wk hkk hsk))
    refine bodyPost_ret (v := inV ⟨⟨ln, ld, ls⟩, ⟨hn, hd, hs⟩, re⟩) (results_cell_row rfl _ _ (w.heap.size + 2) _ _ (0, 0) _ rfl hkk Tryz.underlying129 rfl (by kernel_rfl)) rfl ⟨by rw [HP.out], ?_⟩
    exact bes_then HW.out hsk (by omega) HW.out.size
set_option maxRecDepth 100000 in
set_option maxHeartbeats 4000000 in
theorem atMost_any (x : Rn) (b : Bd) (w : World) (hx : BdR x.hi) (hb : BdR b) :
    Calls Tryz.prog 131 #[inV x, .agg #[.int .i64 b.n, .int .i64 b.d], .bool b.s] w fun e w' => e = .returned (inV { x with hi := mnR x.hi b }) ∧ Below w.heap.size w w' := by
  obtain ⟨⟨ln, ld, ls⟩, ⟨hn, hd, hs⟩, re⟩ := x
  obtain ⟨bn, bd, bs⟩ := b
  obtain ⟨x1, x2, x3, x4⟩ := hx
  obtain ⟨b1, b2, b3, b4⟩ := hb
  simp only at *
  have hO := fun w => order_any bn bd hn hd w (by omega) (by omega) (by omega) (by omega) (by omega) (by omega) (by omega) (by omega)
  have HX := Lib.hid (((Bk.new w 129 [.int .i64 ln, .int .i64 ld, .int .i64 hn, .int .i64 hd, .bool ls, .bool hs, .bool re]).alloc (Obj.cells #[.int .i64 bn, .int .i64 bd] 41)).alloc (Obj.cells #[.int .i64 0, .int .i64 0, .int .i64 0, .int .i64 0, .bool false, .bool false, .bool false] 129))
  have HY := Lib.hid ((Bk.new1 w (Obj.cells #[.int .i64 ln, .int .i64 ld, .int .i64 hn, .int .i64 hd, .bool ls, .bool hs, .bool re] 129) 41 [.int .i64 bn, .int .i64 bd]).alloc (Obj.cells #[.int .i64 0, .int .i64 0, .int .i64 0, .int .i64 0, .bool false, .bool false, .bool false] 129))
  have HR := Lib.hid (show Bk (((w.alloc (Obj.cells #[.int .i64 ln, .int .i64 ld, .int .i64 hn, .int .i64 hd, .bool ls, .bool hs, .bool re] 129)).alloc (Obj.cells #[.int .i64 bn, .int .i64 bd] 41)).alloc (Obj.cells #[.int .i64 0, .int .i64 0, .int .i64 0, .int .i64 0, .bool false, .bool false, .bool false] 129)) (w.heap.size + 2) 129 [.int .i64 0, .int .i64 0, .int .i64 0, .int .i64 0, .bool false, .bool false, .bool false] by
    have h := Bk.new1 (w.alloc (Obj.cells #[.int .i64 ln, .int .i64 ld, .int .i64 hn, .int .i64 hd, .bool ls, .bool hs, .bool re] 129)) (Obj.cells #[.int .i64 bn, .int .i64 bd] 41) 129 [.int .i64 0, .int .i64 0, .int .i64 0, .int .i64 0, .bool false, .bool false, .bool false]
    rwa [World.size_alloc] at h)
  rcases sgn_cases (bn * hd - hn * bd) with ⟨h, hx⟩ | ⟨h, hx⟩ | ⟨h, hx⟩
  · rw [h] at hO
    have HO := Lib.hid hO
    have HP := Lib.hid (show mnR ⟨hn, hd, hs⟩ ⟨bn, bd, bs⟩ = ⟨hn, hd, hs⟩ by unfold mnR; simp only; rw [if_neg (by omega), if_neg (by omega)])
    clear hO h hx x1 x2 x3 x4 b1 b2 b3 b4
    go_enter Tryz.func131, Tryz.ntmps131
    go_wp2_with fail
    refine (HO.out _).mono ?_
    rintro e w1 ⟨rfl, hb⟩
    have z := HX.out.below hb
    have y := HY.out.below hb
    have r := HR.out.below hb
    have z0 := z.cell 0
    have z1 := z.cell 1
    have z2 := z.cell 2
    have z3 := z.cell 3
    have z4 := z.cell 4
    have z5 := z.cell 5
    have z6 := z.cell 6
    have y0 := y.cell 0
    have y1 := y.cell 1
    have f0 := z.frozen 0
    have f1 := z.frozen 1
    have f2 := z.frozen 2
    have f3 := z.frozen 3
    have f4 := z.frozen 4
    have f5 := z.frozen 5
    have r0 := r.cell 0
    have r1 := r.cell 1
    have r2 := r.cell 2
    have r3 := r.cell 3
    have r4 := r.cell 4
    have r5 := r.cell 5
    have r6 := r.cell 6
    have q0 := r.frozen 0
    have q1 := r.frozen 1
    have q2 := r.frozen 2
    have q3 := r.frozen 3
    have q4 := r.frozen 4
    have q5 := r.frozen 5
    have q6 := r.frozen 6
    have zl := z.lt
    have rl := r.lt
    have yl := y.lt
    simp only [List.getElem?_cons_zero, List.getElem?_cons_succ] at z0 z1 z2 z3 z4 z5 z6 y0 y1 r0 r1 r2 r3 r4 r5 r6
    have Z := Lib.hid z
    have R := Lib.hid r
    have HB := Lib.hid (bafter (bafter (bafter hb)))
    clear z r y hb
    have hZ : Bk w1 w.heap.size 129 [.int .i64 ln, .int .i64 ld, .int .i64 hn, .int .i64 hd, .bool ls, .bool hs, .bool re] := Z.out
    have hR : Bk w1 (w.heap.size + 2) 129 [.int .i64 0, .int .i64 0, .int .i64 0, .int .i64 0, .bool false, .bool false, .bool false] := R.out
    have hW : Below w.heap.size w w1 := by have h := HB.out; exact belw
    have HZ := Lib.hid hZ
    have HRR := Lib.hid hR
    have HW := Lib.hid hW
    clear hZ hR hW
    go_wp2_with (first | (refine ld_at rfl (T := 129) rfl rfl HZ.out Tryz.underlying129 rfl (by kernel_rfl) ?_) | (refine st_at rfl (T := 129) rfl rfl (cs := [.int .i64 ln, .int .i64 ld, .int .i64 hn, .int .i64 hd, .bool ls, .bool hs, .bool re]) rfl HRR.out (by kernel_rfl) rfl rfl ?_; intro wk hkk hsk))
    refine bodyPost_ret (v := inV ⟨⟨ln, ld, ls⟩, ⟨hn, hd, hs⟩, re⟩) (results_cell_row rfl _ _ (w.heap.size + 2) _ _ (0, 0) _ rfl hkk Tryz.underlying129 rfl (by kernel_rfl)) rfl ⟨by rw [HP.out], ?_⟩
    exact bes_then HW.out hsk (by omega) HW.out.size
  · rw [h] at hO
    have HO := Lib.hid hO
    cases hs
    · cases bs
      · have HP := Lib.hid (show mnR ⟨hn, hd, false⟩ ⟨bn, bd, false⟩ = ⟨hn, hd, false⟩ by unfold mnR; simp only; rw [if_neg (by omega), if_pos (by omega)]; rfl)
        clear hO h hx x1 x2 x3 x4 b1 b2 b3 b4
        go_enter Tryz.func131, Tryz.ntmps131
        go_wp2_with fail
        refine (HO.out _).mono ?_
        rintro e w1 ⟨rfl, hb⟩
        have z := HX.out.below hb
        have y := HY.out.below hb
        have r := HR.out.below hb
        have z0 := z.cell 0
        have z1 := z.cell 1
        have z2 := z.cell 2
        have z3 := z.cell 3
        have z4 := z.cell 4
        have z5 := z.cell 5
        have z6 := z.cell 6
        have y0 := y.cell 0
        have y1 := y.cell 1
        have f0 := z.frozen 0
        have f1 := z.frozen 1
        have f2 := z.frozen 2
        have f3 := z.frozen 3
        have f4 := z.frozen 4
        have f5 := z.frozen 5
        have r0 := r.cell 0
        have r1 := r.cell 1
        have r2 := r.cell 2
        have r3 := r.cell 3
        have r4 := r.cell 4
        have r5 := r.cell 5
        have r6 := r.cell 6
        have q0 := r.frozen 0
        have q1 := r.frozen 1
        have q2 := r.frozen 2
        have q3 := r.frozen 3
        have q4 := r.frozen 4
        have q5 := r.frozen 5
        have q6 := r.frozen 6
        have zl := z.lt
        have rl := r.lt
        have yl := y.lt
        simp only [List.getElem?_cons_zero, List.getElem?_cons_succ] at z0 z1 z2 z3 z4 z5 z6 y0 y1 r0 r1 r2 r3 r4 r5 r6
        have Z := Lib.hid z
        have R := Lib.hid r
        have HB := Lib.hid (bafter (bafter (bafter hb)))
        clear z r y hb
        have hZ : Bk (w1.setCell ⟨w.heap.size, 5, none⟩ (.bool false)) w.heap.size 129 [.int .i64 ln, .int .i64 ld, .int .i64 hn, .int .i64 hd, .bool ls, .bool false, .bool re] := (Z.out.set 5 _)
        have hR : Bk (w1.setCell ⟨w.heap.size, 5, none⟩ (.bool false)) (w.heap.size + 2) 129 [.int .i64 0, .int .i64 0, .int .i64 0, .int .i64 0, .bool false, .bool false, .bool false] := (R.out.far (by simp) _)
        have hW : Below w.heap.size w (w1.setCell ⟨w.heap.size, 5, none⟩ (.bool false)) := by have h := HB.out; exact belw
        have HZ := Lib.hid hZ
        have HRR := Lib.hid hR
        have HW := Lib.hid hW
        clear hZ hR hW
        go_wp2_with (first | (refine ld_at rfl (T := 129) rfl rfl HZ.out Tryz.underlying129 rfl (by kernel_rfl) ?_) | (refine st_at rfl (T := 129) rfl rfl (cs := [.int .i64 ln, .int .i64 ld, .int .i64 hn, .int .i64 hd, .bool ls, .bool false, .bool re]) rfl HRR.out (by kernel_rfl) rfl rfl ?_; intro wk hkk hsk))
        refine bodyPost_ret (v := inV ⟨⟨ln, ld, ls⟩, ⟨hn, hd, false⟩, re⟩) (results_cell_row rfl _ _ (w.heap.size + 2) _ _ (0, 0) _ rfl hkk Tryz.underlying129 rfl (by kernel_rfl)) rfl ⟨by rw [HP.out], ?_⟩
        exact bes_then HW.out hsk (by omega) HW.out.size
      · have HP := Lib.hid (show mnR ⟨hn, hd, false⟩ ⟨bn, bd, true⟩ = ⟨hn, hd, true⟩ by unfold mnR; simp only; rw [if_neg (by omega), if_pos (by omega)]; rfl)
        clear hO h hx x1 x2 x3 x4 b1 b2 b3 b4
        go_enter Tryz.func131, Tryz.ntmps131
        go_wp2_with fail
        refine (HO.out _).mono ?_
        rintro e w1 ⟨rfl, hb⟩
        have z := HX.out.below hb
        have y := HY.out.below hb
        have r := HR.out.below hb
        have z0 := z.cell 0
        have z1 := z.cell 1
        have z2 := z.cell 2
        have z3 := z.cell 3
        have z4 := z.cell 4
        have z5 := z.cell 5
        have z6 := z.cell 6
        have y0 := y.cell 0
        have y1 := y.cell 1
        have f0 := z.frozen 0
        have f1 := z.frozen 1
        have f2 := z.frozen 2
        have f3 := z.frozen 3
        have f4 := z.frozen 4
        have f5 := z.frozen 5
        have r0 := r.cell 0
        have r1 := r.cell 1
        have r2 := r.cell 2
        have r3 := r.cell 3
        have r4 := r.cell 4
        have r5 := r.cell 5
        have r6 := r.cell 6
        have q0 := r.frozen 0
        have q1 := r.frozen 1
        have q2 := r.frozen 2
        have q3 := r.frozen 3
        have q4 := r.frozen 4
        have q5 := r.frozen 5
        have q6 := r.frozen 6
        have zl := z.lt
        have rl := r.lt
        have yl := y.lt
        simp only [List.getElem?_cons_zero, List.getElem?_cons_succ] at z0 z1 z2 z3 z4 z5 z6 y0 y1 r0 r1 r2 r3 r4 r5 r6
        have Z := Lib.hid z
        have R := Lib.hid r
        have HB := Lib.hid (bafter (bafter (bafter hb)))
        clear z r y hb
        have hZ : Bk (w1.setCell ⟨w.heap.size, 5, none⟩ (.bool true)) w.heap.size 129 [.int .i64 ln, .int .i64 ld, .int .i64 hn, .int .i64 hd, .bool ls, .bool true, .bool re] := (Z.out.set 5 _)
        have hR : Bk (w1.setCell ⟨w.heap.size, 5, none⟩ (.bool true)) (w.heap.size + 2) 129 [.int .i64 0, .int .i64 0, .int .i64 0, .int .i64 0, .bool false, .bool false, .bool false] := (R.out.far (by simp) _)
        have hW : Below w.heap.size w (w1.setCell ⟨w.heap.size, 5, none⟩ (.bool true)) := by have h := HB.out; exact belw
        have HZ := Lib.hid hZ
        have HRR := Lib.hid hR
        have HW := Lib.hid hW
        clear hZ hR hW
        go_wp2_with (first | (refine ld_at rfl (T := 129) rfl rfl HZ.out Tryz.underlying129 rfl (by kernel_rfl) ?_) | (refine st_at rfl (T := 129) rfl rfl (cs := [.int .i64 ln, .int .i64 ld, .int .i64 hn, .int .i64 hd, .bool ls, .bool true, .bool re]) rfl HRR.out (by kernel_rfl) rfl rfl ?_; intro wk hkk hsk))
        refine bodyPost_ret (v := inV ⟨⟨ln, ld, ls⟩, ⟨hn, hd, true⟩, re⟩) (results_cell_row rfl _ _ (w.heap.size + 2) _ _ (0, 0) _ rfl hkk Tryz.underlying129 rfl (by kernel_rfl)) rfl ⟨by rw [HP.out], ?_⟩
        exact bes_then HW.out hsk (by omega) HW.out.size
    · have HP := Lib.hid (show mnR ⟨hn, hd, true⟩ ⟨bn, bd, bs⟩ = ⟨hn, hd, true⟩ by unfold mnR; simp only; rw [if_neg (by omega), if_pos (by omega)]; rfl)
      clear hO h hx x1 x2 x3 x4 b1 b2 b3 b4
      go_enter Tryz.func131, Tryz.ntmps131
      go_wp2_with fail
      refine (HO.out _).mono ?_
      rintro e w1 ⟨rfl, hb⟩
      have z := HX.out.below hb
      have y := HY.out.below hb
      have r := HR.out.below hb
      have z0 := z.cell 0
      have z1 := z.cell 1
      have z2 := z.cell 2
      have z3 := z.cell 3
      have z4 := z.cell 4
      have z5 := z.cell 5
      have z6 := z.cell 6
      have y0 := y.cell 0
      have y1 := y.cell 1
      have f0 := z.frozen 0
      have f1 := z.frozen 1
      have f2 := z.frozen 2
      have f3 := z.frozen 3
      have f4 := z.frozen 4
      have f5 := z.frozen 5
      have r0 := r.cell 0
      have r1 := r.cell 1
      have r2 := r.cell 2
      have r3 := r.cell 3
      have r4 := r.cell 4
      have r5 := r.cell 5
      have r6 := r.cell 6
      have q0 := r.frozen 0
      have q1 := r.frozen 1
      have q2 := r.frozen 2
      have q3 := r.frozen 3
      have q4 := r.frozen 4
      have q5 := r.frozen 5
      have q6 := r.frozen 6
      have zl := z.lt
      have rl := r.lt
      have yl := y.lt
      simp only [List.getElem?_cons_zero, List.getElem?_cons_succ] at z0 z1 z2 z3 z4 z5 z6 y0 y1 r0 r1 r2 r3 r4 r5 r6
      have Z := Lib.hid z
      have R := Lib.hid r
      have HB := Lib.hid (bafter (bafter (bafter hb)))
      clear z r y hb
      have hZ : Bk (w1.setCell ⟨w.heap.size, 5, none⟩ (.bool true)) w.heap.size 129 [.int .i64 ln, .int .i64 ld, .int .i64 hn, .int .i64 hd, .bool ls, .bool true, .bool re] := (Z.out.set 5 _)
      have hR : Bk (w1.setCell ⟨w.heap.size, 5, none⟩ (.bool true)) (w.heap.size + 2) 129 [.int .i64 0, .int .i64 0, .int .i64 0, .int .i64 0, .bool false, .bool false, .bool false] := (R.out.far (by simp) _)
      have hW : Below w.heap.size w (w1.setCell ⟨w.heap.size, 5, none⟩ (.bool true)) := by have h := HB.out; exact belw
      have HZ := Lib.hid hZ
      have HRR := Lib.hid hR
      have HW := Lib.hid hW
      clear hZ hR hW
      go_wp2_with (first | (refine ld_at rfl (T := 129) rfl rfl HZ.out Tryz.underlying129 rfl (by kernel_rfl) ?_) | (refine st_at rfl (T := 129) rfl rfl (cs := [.int .i64 ln, .int .i64 ld, .int .i64 hn, .int .i64 hd, .bool ls, .bool true, .bool re]) rfl HRR.out (by kernel_rfl) rfl rfl ?_; intro wk hkk hsk))
      refine bodyPost_ret (v := inV ⟨⟨ln, ld, ls⟩, ⟨hn, hd, true⟩, re⟩) (results_cell_row rfl _ _ (w.heap.size + 2) _ _ (0, 0) _ rfl hkk Tryz.underlying129 rfl (by kernel_rfl)) rfl ⟨by rw [HP.out], ?_⟩
      exact bes_then HW.out hsk (by omega) HW.out.size
  · rw [h] at hO
    have HO := Lib.hid hO
    have HP := Lib.hid (show mnR ⟨hn, hd, hs⟩ ⟨bn, bd, bs⟩ = ⟨bn, bd, bs⟩ by unfold mnR; simp only; rw [if_pos (by omega)])
    clear hO h hx x1 x2 x3 x4 b1 b2 b3 b4
    go_enter Tryz.func131, Tryz.ntmps131
    go_wp2_with fail
    refine (HO.out _).mono ?_
    rintro e w1 ⟨rfl, hb⟩
    have z := HX.out.below hb
    have y := HY.out.below hb
    have r := HR.out.below hb
    have z0 := z.cell 0
    have z1 := z.cell 1
    have z2 := z.cell 2
    have z3 := z.cell 3
    have z4 := z.cell 4
    have z5 := z.cell 5
    have z6 := z.cell 6
    have y0 := y.cell 0
    have y1 := y.cell 1
    have f0 := z.frozen 0
    have f1 := z.frozen 1
    have f2 := z.frozen 2
    have f3 := z.frozen 3
    have f4 := z.frozen 4
    have f5 := z.frozen 5
    have r0 := r.cell 0
    have r1 := r.cell 1
    have r2 := r.cell 2
    have r3 := r.cell 3
    have r4 := r.cell 4
    have r5 := r.cell 5
    have r6 := r.cell 6
    have q0 := r.frozen 0
    have q1 := r.frozen 1
    have q2 := r.frozen 2
    have q3 := r.frozen 3
    have q4 := r.frozen 4
    have q5 := r.frozen 5
    have q6 := r.frozen 6
    have zl := z.lt
    have rl := r.lt
    have yl := y.lt
    simp only [List.getElem?_cons_zero, List.getElem?_cons_succ] at z0 z1 z2 z3 z4 z5 z6 y0 y1 r0 r1 r2 r3 r4 r5 r6
    have Z := Lib.hid z
    have R := Lib.hid r
    have HB := Lib.hid (bafter (bafter (bafter hb)))
    clear z r y hb
    have hZ : Bk (((w1.setCell ⟨w.heap.size, 2, none⟩ (.int .i64 bn)).setCell ⟨w.heap.size, 3, none⟩ (.int .i64 bd)).setCell ⟨w.heap.size, 5, none⟩ (.bool bs)) w.heap.size 129 [.int .i64 ln, .int .i64 ld, .int .i64 bn, .int .i64 bd, .bool ls, .bool bs, .bool re] := (((Z.out.set 2 _).set 3 _).set 5 _)
    have hR : Bk (((w1.setCell ⟨w.heap.size, 2, none⟩ (.int .i64 bn)).setCell ⟨w.heap.size, 3, none⟩ (.int .i64 bd)).setCell ⟨w.heap.size, 5, none⟩ (.bool bs)) (w.heap.size + 2) 129 [.int .i64 0, .int .i64 0, .int .i64 0, .int .i64 0, .bool false, .bool false, .bool false] := (((R.out.far (by simp) _).far (by simp) _).far (by simp) _)
    have hW : Below w.heap.size w (((w1.setCell ⟨w.heap.size, 2, none⟩ (.int .i64 bn)).setCell ⟨w.heap.size, 3, none⟩ (.int .i64 bd)).setCell ⟨w.heap.size, 5, none⟩ (.bool bs)) := by have h := HB.out; exact belw
    have HZ := Lib.hid hZ
    have HRR := Lib.hid hR
    have HW := Lib.hid hW
    clear hZ hR hW
    go_wp2_with (first | (refine ld_at rfl (T := 129) rfl rfl HZ.out Tryz.underlying129 rfl (by kernel_rfl) ?_) | (refine st_at rfl (T := 129) rfl rfl (cs := [.int .i64 ln, .int .i64 ld, .int .i64 bn, .int .i64 bd, .bool ls, .bool bs, .bool re]) rfl HRR.out (by kernel_rfl) rfl rfl ?_; intro wk hkk hsk))
    refine bodyPost_ret (v := inV ⟨⟨ln, ld, ls⟩, ⟨bn, bd, bs⟩, re⟩) (results_cell_row rfl _ _ (w.heap.size + 2) _ _ (0, 0) _ rfl hkk Tryz.underlying129 rfl (by kernel_rfl)) rfl ⟨by rw [HP.out], ?_⟩
    exact bes_then HW.out hsk (by omega) HW.out.size
end Go.Proofs.YtnfndiafabhhdaaGreat
