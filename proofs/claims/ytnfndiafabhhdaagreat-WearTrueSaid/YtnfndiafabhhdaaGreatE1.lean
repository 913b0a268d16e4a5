/- Walk of bits.Div64, over (Wear). -/
import Derived.Test.YtnfndiafabhhdaaGreatD9
namespace Go.Proofs.YtnfndiafabhhdaaGreat
open Go.ChangeShapes Go.WideShapes Go.ChangeAt Go.RowKit
theorem ret_u2 {a b c d : Int} (h : a = c) (h' : b = d) : Ending.returned (.tuple #[.int .u64 a, .int .u64 b]) = .returned (.tuple #[.int .u64 c, .int .u64 d]) := by rw [h, h']
theorem u64_in {x : Int} (h : 0 ≤ x) (h' : x < 18446744073709551616) : IntKind.u64.wrap x = x := by rw [IntKind.wrap_u64]; omega
theorem dv_init {U c a b : Int} (h : DvH U c a b) : 0 ≤ U / a ∧ U / a ≤ 4294967297 ∧ U - U / a * a = U % a ∧ 0 ≤ U % a ∧ U % a < 4294967296 ∧ dvQ U c a b ≤ U / a ∧ U / a * a + U % a = U ∧ 0 ≤ U / a * a ∧ U / a * a ≤ U := by
  obtain ⟨k1, k2, k3⟩ := dv_start h
  have a0 := h.a0
  have a1 := h.a1
  have u0 := h.u0
  have e := Int.mul_ediv_add_emod U a
  have e1 := Int.emod_nonneg U (show a ≠ 0 by omega)
  have e2 := Int.emod_lt_of_pos U (show 0 < a by omega)
  rw [Int.mul_comm] at e
  have := Int.mul_nonneg k3 (show 0 ≤ a by omega)
  omega
set_option maxRecDepth 100000 in
set_option maxHeartbeats 2000000 in
theorem div64_any (hi lo y : Int) (w : World) (h0 : 0 ≤ hi) (hy : hi < y) (hy1 : y < 18446744073709551616) (l0 : 0 ≤ lo) (l1 : lo < 18446744073709551616) :
    Calls Tryz.prog 146 #[.int .u64 hi, .int .u64 lo, .int .u64 y] w fun e w' => e = .returned (.tuple #[.int .u64 ((hi * 18446744073709551616 + lo) / y), .int .u64 ((hi * 18446744073709551616 + lo) % y)]) ∧ Below w.heap.size w w' := by
  rcases Int.lt_or_le 0 hi with hp | hp
  · obtain ⟨s, Y, a, b, U, L, c, d, hs0, N, hUL⟩ := dvN_of h0 hy hy1 l0 l1
    have s63 := N.hs
    have ND := N.hD
    have hws : IntKind.u64.wrap (s : Int) = s := by rw [IntKind.wrap_u64]; omega
    have hm1 : min s 64 = s := by omega
    have hm2 : min ((64 - (s : Int)).toNat) 64 = 64 - s := by omega
    have p0 : (0 : Int) < 2 ^ s := Int.pow_pos (by decide)
    have p1 : (0 : Int) < 2 ^ (64 - s) := Int.pow_pos (by decide)
    have e1 : (2 : Int) ^ (64 - s) * 2 ^ s = 18446744073709551616 := by rw [← Int.pow_add]; rw [show 64 - s + s = 64 by omega]; rfl
    have Y0 : 0 ≤ Y := by have := N.hY; have := Int.mul_pos (show 0 < y by omega) p0; omega
    have hwY : IntKind.u64.wrap (y * 2 ^ s) = Y := by rw [N.hY]; exact u64_in Y0 N.hY1
    have hh0 : 0 ≤ hi * 2 ^ s := Int.mul_nonneg h0 (Int.le_of_lt p0)
    have hh1 : hi * 2 ^ s < 18446744073709551616 := by
      have := Int.mul_lt_mul_of_pos_right hy p0
      have := N.hY
      have := N.hY1
      omega
    have hwh : IntKind.u64.wrap (hi * 2 ^ s) = hi * 2 ^ s := u64_in hh0 hh1
    have hwo : bits .or .u64 (hi * 2 ^ s) (lo / 2 ^ (64 - s)) = U := by
      rw [or_add hi (lo / 2 ^ (64 - s)) s s63 h0 hh1 (Int.ediv_nonneg l0 (Int.le_of_lt p1)) (Int.ediv_lt_of_lt_mul p1 (by rw [Int.mul_comm, e1]; exact l1))]
      exact N.hU
    have hwL : IntKind.u64.wrap (lo * 2 ^ s) = L := by rw [IntKind.wrap_u64]; exact N.hL
    have L0 : 0 ≤ L ∧ L < 18446744073709551616 := by have := N.hL; omega
    have hLc := N.hc
    have hYa := N.ha
    have mask : ∀ x : Int, 0 ≤ x → x < 18446744073709551616 → bits .and .u64 x 4294967295 = x % 4294967296 := fun x k1 k2 => by
      have := Mul64.maskN x.toNat (by omega)
      rw [show ((x.toNat : Nat) : Int) = x by omega] at this
      rw [this]
      omega
    have hLd : bits .and .u64 L 4294967295 = d := by rw [mask L L0.1 L0.2]; exact N.hd
    have hYb : bits .and .u64 Y 4294967295 = b := by rw [mask Y Y0 N.hY1]; exact N.hb
    obtain ⟨i1, i2, i3, i4, i5, i6, i7, i8, i9⟩ := dv_init ND
    have a0 := ND.a0
    have u0 := ND.u0
    have u1 : U < 18446744073709551616 := by have := ND.u1; have := ND.a1; have := ND.b1; omega
    have hne : ¬ a = 0 := by omega
    have hq0 : U.tdiv a = U / a := Int.tdiv_eq_ediv_of_nonneg u0
    have hw1 : IntKind.u64.wrap (U / a) = U / a := u64_in i1 (by omega)
    have hw2 : IntKind.u64.wrap (U / a * a) = U / a * a := u64_in i8 (by omega)
    have hw3 : IntKind.u64.wrap (U - U / a * a) = U % a := by rw [i3]; exact u64_in i4 (by omega)
    -- what is left behind the first digit
    obtain ⟨NE, dq, dr⟩ := dv_two ND (d := d) (by have := N.hd; omega) (by have := N.hd; omega)
    have hab : a * 4294967296 + b = Y := by have := N.ha; have := N.hb; omega
    have hcd : U * 18446744073709551616 + c * 4294967296 + d = (hi * 18446744073709551616 + lo) * 2 ^ s := by have := N.hc; have := N.hd; omega
    rw [hab, hcd, ← N.hY] at dq dr
    rw [Int.mul_ediv_mul_of_pos_left _ _ p0] at dq
    rw [Int.mul_comm _ (2 ^ s), Int.mul_comm y (2 ^ s), Int.mul_emod_mul_of_pos _ _ p0] at dr
    have HDQ := Lib.hid dq
    have HDS := Lib.hid (show dvR (dvR U c a b) d a b / 2 ^ s = (hi * 18446744073709551616 + lo) % y by rw [dr]; exact Int.mul_ediv_cancel_left _ (by omega))
    have HDR := Lib.hid dr
    have HAB := Lib.hid hab
    have HY1 := Lib.hid N.hY1
    have hLd2 := N.hd
    clear N hUL e1 hh0 hh1 i3 i8 i9 mask dq dr hab hcd
    go_enter Tryz.func146, Tryz.ntmps146
    go_wp2_with fail
    refine (Go.Proofs.Tryz.bits_LeadingZeros64 y _ (by omega) (by omega)).mono ?_
    rintro e w1 ⟨rfl, rfl⟩
    rw [hs0]
    go_wp2_with fail
    go_loopw [15, 16] (fun q r wx => ∃ (Q R : Int), q = .int .u64 Q ∧ r = .int .u64 R ∧ dvQ U c a b ≤ Q ∧ Q * a + R = U ∧ 0 ≤ R ∧ R < 4294967296 ∧ Q ≤ 4294967297 ∧ wx = w1) (fun q _ _ => (intOf q).toNat)
    case atStart => exact ⟨_, _, rfl, rfl, i6, i7, i4, i5, i2, rfl⟩
    case round =>
      obtain ⟨Q, R, rfl, rfl, j1, j2, j3, j4, j5, rfl⟩ := hrel
      obtain ⟨d0, d1⟩ := dvQ_bd ND
      have b0 := ND.b0
      have b1 := ND.b1
      have a0 := ND.a0
      have a1 := ND.a1
      have c0 := ND.c0
      have c1 := ND.c1
      clear i1 i2 i4 i5 i6 i7
      by_cases h1 : 4294967296 ≤ Q
      · have more := dv_more ND j2 (.inl h1)
        have j2' : (Q - 1) * a + (R + a) = U := by rw [Int.sub_mul]; omega
        by_cases h2 : 4294967296 ≤ R + a
        · have hq := dv_break ND j2' (by omega) h2 more
          have hwq : IntKind.u64.wrap (Q - 1) = dvQ U c a b := by rw [u64_in (by omega) (by omega)]; exact hq
          clear j2 j2' more hq
          obtain ⟨P1, hP1⟩ : ∃ P, IntKind.u64.wrap (dvQ U c a b * Y) = P := ⟨_, rfl⟩
          obtain ⟨A1, hA1⟩ : ∃ P, IntKind.u64.wrap (U * 4294967296) = P := ⟨_, rfl⟩
          obtain ⟨A2, hA2⟩ : ∃ P, IntKind.u64.wrap (A1 + c) = P := ⟨_, rfl⟩
          have hV1 : IntKind.u64.wrap (A2 - P1) = dvR U c a b := by
            rw [IntKind.wrap_u64] at hP1 hA1 hA2 ⊢
            have e : dvR U c a b = U * 4294967296 + c - dvQ U c a b * Y := by rw [← HAB.out]; rfl
            have bd := dvR_bd ND
            have := HY1.out
            have := HAB.out
            omega
          obtain ⟨i1, i2, i3, i4, i5, i6, i7, i8, i9⟩ := dv_init NE
          have hq1 : (dvR U c a b).tdiv a = dvR U c a b / a := Int.tdiv_eq_ediv_of_nonneg NE.u0
          have hw4 : IntKind.u64.wrap (dvR U c a b / a) = dvR U c a b / a := u64_in i1 (by omega)
          have hw5 : IntKind.u64.wrap (dvR U c a b / a * a) = dvR U c a b / a * a := u64_in i8 (by have := NE.u1; omega)
          have hw6 : IntKind.u64.wrap (dvR U c a b - dvR U c a b / a * a) = dvR U c a b % a := by rw [i3]; exact u64_in i4 (by omega)
          clear i3 i8 i9
          go_wp2_with fail
          go_loopw [18, 16] (fun q r wx => ∃ (Q R : Int), q = .int .u64 Q ∧ r = .int .u64 R ∧ dvQ (dvR U c a b) d a b ≤ Q ∧ Q * a + R = (dvR U c a b) ∧ 0 ≤ R ∧ R < 4294967296 ∧ Q ≤ 4294967297 ∧ wx = wr) (fun q _ _ => (intOf q).toNat)
          case atStart => exact ⟨_, _, rfl, rfl, i6, i7, i4, i5, i2, rfl⟩
          case round =>
            obtain ⟨Q, R, rfl, rfl, j1, j2, j3, j4, j5, rfl⟩ := hrel
            obtain ⟨d0, d1⟩ := dvQ_bd NE
            have b0 := ND.b0
            have b1 := ND.b1
            have a0 := ND.a0
            have a1 := ND.a1
            have c0 := NE.c0
            have c1 := NE.c1
            clear i1 i2 i4 i5 i6 i7
            by_cases h1 : 4294967296 ≤ Q
            · have more := dv_more NE j2 (.inl h1)
              have j2' : (Q - 1) * a + (R + a) = (dvR U c a b) := by rw [Int.sub_mul]; omega
              by_cases h2 : 4294967296 ≤ R + a
              · have hq := dv_break NE j2' (by omega) h2 more
                have hwq : IntKind.u64.wrap (Q - 1) = dvQ (dvR U c a b) d a b := by rw [u64_in (by omega) (by omega)]; exact hq
                clear j2 j2' more hq
                obtain ⟨P2, hP2⟩ : ∃ P, IntKind.u64.wrap (dvQ (dvR U c a b) d a b * Y) = P := ⟨_, rfl⟩
                obtain ⟨A1, hA1⟩ : ∃ P, IntKind.u64.wrap (dvR U c a b * 4294967296) = P := ⟨_, rfl⟩
                obtain ⟨A2, hA2⟩ : ∃ P, IntKind.u64.wrap (A1 + d) = P := ⟨_, rfl⟩
                have hV2 : IntKind.u64.wrap (A2 - P2) = dvR (dvR U c a b) d a b := by
                  rw [IntKind.wrap_u64] at hP2 hA1 hA2 ⊢
                  have e : dvR (dvR U c a b) d a b = dvR U c a b * 4294967296 + d - dvQ (dvR U c a b) d a b * Y := by rw [← HAB.out]; rfl
                  have bd := dvR_bd NE
                  have := HY1.out
                  have := HAB.out
                  omega
                obtain ⟨D0, D1⟩ := dvQ_bd ND
                have hT1 : IntKind.u64.wrap (dvQ U c a b * 4294967296) = dvQ U c a b * 4294967296 := u64_in (by omega) (by omega)
                have hT2 : IntKind.u64.wrap (dvQ U c a b * 4294967296 + dvQ (dvR U c a b) d a b) = dvQ U c a b * 4294967296 + dvQ (dvR U c a b) d a b := u64_in (by omega) (by omega)
                go_wp2_with fail
                go_ret2
                first
                | exact ⟨rfl, Below.refl _ _⟩
                | exact ⟨ret_u2 HDQ.out (HDS.out), Below.refl _ _⟩
              · go_wp2_with fail
                exact ⟨⟨Q - 1, R + a, by go_num, by go_num, more, j2', by omega, by omega, by omega, by first | rfl | trivial⟩, by simp [intOf]; omega⟩
            · obtain ⟨X, hX⟩ : ∃ X, Q * b = X := ⟨_, rfl⟩
              have X0 : 0 ≤ X := by rw [← hX]; exact Int.mul_nonneg (by omega) b0
              have X1 : X < 18446744073709551616 := by
                have := Int.mul_le_mul_of_nonneg_right (show Q ≤ 4294967295 by omega) b0
                omega
              have hwX : IntKind.u64.wrap (Q * b) = X := by rw [hX]; exact u64_in X0 X1
              by_cases h2 : 4294967296 * R + d < X
              · have more := dv_more NE j2 (.inr (by rw [hX]; exact h2))
                have j2' : (Q - 1) * a + (R + a) = (dvR U c a b) := by rw [Int.sub_mul]; omega
                by_cases h3 : 4294967296 ≤ R + a
                · have hq := dv_break NE j2' (by omega) h3 more
                  have hwq : IntKind.u64.wrap (Q - 1) = dvQ (dvR U c a b) d a b := by rw [u64_in (by omega) (by omega)]; exact hq
                  clear j2 j2' more hq hX
                  obtain ⟨P2, hP2⟩ : ∃ P, IntKind.u64.wrap (dvQ (dvR U c a b) d a b * Y) = P := ⟨_, rfl⟩
                  obtain ⟨A1, hA1⟩ : ∃ P, IntKind.u64.wrap (dvR U c a b * 4294967296) = P := ⟨_, rfl⟩
                  obtain ⟨A2, hA2⟩ : ∃ P, IntKind.u64.wrap (A1 + d) = P := ⟨_, rfl⟩
                  have hV2 : IntKind.u64.wrap (A2 - P2) = dvR (dvR U c a b) d a b := by
                    rw [IntKind.wrap_u64] at hP2 hA1 hA2 ⊢
                    have e : dvR (dvR U c a b) d a b = dvR U c a b * 4294967296 + d - dvQ (dvR U c a b) d a b * Y := by rw [← HAB.out]; rfl
                    have bd := dvR_bd NE
                    have := HY1.out
                    have := HAB.out
                    omega
                  obtain ⟨D0, D1⟩ := dvQ_bd ND
                  have hT1 : IntKind.u64.wrap (dvQ U c a b * 4294967296) = dvQ U c a b * 4294967296 := u64_in (by omega) (by omega)
                  have hT2 : IntKind.u64.wrap (dvQ U c a b * 4294967296 + dvQ (dvR U c a b) d a b) = dvQ U c a b * 4294967296 + dvQ (dvR U c a b) d a b := u64_in (by omega) (by omega)
                  go_wp2_with fail
                  go_ret2
                  first
                  | exact ⟨rfl, Below.refl _ _⟩
                  | exact ⟨ret_u2 HDQ.out (HDS.out), Below.refl _ _⟩
                · clear hX
                  go_wp2_with fail
                  exact ⟨⟨Q - 1, R + a, by go_num, by go_num, more, j2', by omega, by omega, by omega, by first | rfl | trivial⟩, by simp [intOf]; omega⟩
              · have hq := dv_stop NE j2 (by rw [hX]; omega) j1
                subst hq
                clear hX j1 j2
                obtain ⟨P2, hP2⟩ : ∃ P, IntKind.u64.wrap (dvQ (dvR U c a b) d a b * Y) = P := ⟨_, rfl⟩
                obtain ⟨A1, hA1⟩ : ∃ P, IntKind.u64.wrap (dvR U c a b * 4294967296) = P := ⟨_, rfl⟩
                obtain ⟨A2, hA2⟩ : ∃ P, IntKind.u64.wrap (A1 + d) = P := ⟨_, rfl⟩
                have hV2 : IntKind.u64.wrap (A2 - P2) = dvR (dvR U c a b) d a b := by
                  rw [IntKind.wrap_u64] at hP2 hA1 hA2 ⊢
                  have e : dvR (dvR U c a b) d a b = dvR U c a b * 4294967296 + d - dvQ (dvR U c a b) d a b * Y := by rw [← HAB.out]; rfl
                  have bd := dvR_bd NE
                  have := HY1.out
                  have := HAB.out
                  omega
                obtain ⟨D0, D1⟩ := dvQ_bd ND
                have hT1 : IntKind.u64.wrap (dvQ U c a b * 4294967296) = dvQ U c a b * 4294967296 := u64_in (by omega) (by omega)
                have hT2 : IntKind.u64.wrap (dvQ U c a b * 4294967296 + dvQ (dvR U c a b) d a b) = dvQ U c a b * 4294967296 + dvQ (dvR U c a b) d a b := u64_in (by omega) (by omega)
                go_wp2_with fail
                go_ret2
                first
                | exact ⟨rfl, Below.refl _ _⟩
                | exact ⟨ret_u2 HDQ.out (HDS.out), Below.refl _ _⟩
        · go_wp2_with fail
          exact ⟨⟨Q - 1, R + a, by go_num, by go_num, more, j2', by omega, by omega, by omega, by first | rfl | trivial⟩, by simp [intOf]; omega⟩
      · obtain ⟨X, hX⟩ : ∃ X, Q * b = X := ⟨_, rfl⟩
        have X0 : 0 ≤ X := by rw [← hX]; exact Int.mul_nonneg (by omega) b0
        have X1 : X < 18446744073709551616 := by
          have := Int.mul_le_mul_of_nonneg_right (show Q ≤ 4294967295 by omega) b0
          omega
        have hwX : IntKind.u64.wrap (Q * b) = X := by rw [hX]; exact u64_in X0 X1
        by_cases h2 : 4294967296 * R + c < X
        · have more := dv_more ND j2 (.inr (by rw [hX]; exact h2))
          have j2' : (Q - 1) * a + (R + a) = U := by rw [Int.sub_mul]; omega
          by_cases h3 : 4294967296 ≤ R + a
          · have hq := dv_break ND j2' (by omega) h3 more
            have hwq : IntKind.u64.wrap (Q - 1) = dvQ U c a b := by rw [u64_in (by omega) (by omega)]; exact hq
            clear j2 j2' more hq hX
            obtain ⟨P1, hP1⟩ : ∃ P, IntKind.u64.wrap (dvQ U c a b * Y) = P := ⟨_, rfl⟩
            obtain ⟨A1, hA1⟩ : ∃ P, IntKind.u64.wrap (U * 4294967296) = P := ⟨_, rfl⟩
            obtain ⟨A2, hA2⟩ : ∃ P, IntKind.u64.wrap (A1 + c) = P := ⟨_, rfl⟩
            have hV1 : IntKind.u64.wrap (A2 - P1) = dvR U c a b := by
              rw [IntKind.wrap_u64] at hP1 hA1 hA2 ⊢
              have e : dvR U c a b = U * 4294967296 + c - dvQ U c a b * Y := by rw [← HAB.out]; rfl
              have bd := dvR_bd ND
              have := HY1.out
              have := HAB.out
              omega
            obtain ⟨i1, i2, i3, i4, i5, i6, i7, i8, i9⟩ := dv_init NE
            have hq1 : (dvR U c a b).tdiv a = dvR U c a b / a := Int.tdiv_eq_ediv_of_nonneg NE.u0
            have hw4 : IntKind.u64.wrap (dvR U c a b / a) = dvR U c a b / a := u64_in i1 (by omega)
            have hw5 : IntKind.u64.wrap (dvR U c a b / a * a) = dvR U c a b / a * a := u64_in i8 (by have := NE.u1; omega)
            have hw6 : IntKind.u64.wrap (dvR U c a b - dvR U c a b / a * a) = dvR U c a b % a := by rw [i3]; exact u64_in i4 (by omega)
            clear i3 i8 i9
            go_wp2_with fail
            go_loopw [18, 16] (fun q r wx => ∃ (Q R : Int), q = .int .u64 Q ∧ r = .int .u64 R ∧ dvQ (dvR U c a b) d a b ≤ Q ∧ Q * a + R = (dvR U c a b) ∧ 0 ≤ R ∧ R < 4294967296 ∧ Q ≤ 4294967297 ∧ wx = wr) (fun q _ _ => (intOf q).toNat)
            case atStart => exact ⟨_, _, rfl, rfl, i6, i7, i4, i5, i2, rfl⟩
            case round =>
              obtain ⟨Q, R, rfl, rfl, j1, j2, j3, j4, j5, rfl⟩ := hrel
              obtain ⟨d0, d1⟩ := dvQ_bd NE
              have b0 := ND.b0
              have b1 := ND.b1
              have a0 := ND.a0
              have a1 := ND.a1
              have c0 := NE.c0
              have c1 := NE.c1
              clear i1 i2 i4 i5 i6 i7
              by_cases h1 : 4294967296 ≤ Q
              · have more := dv_more NE j2 (.inl h1)
                have j2' : (Q - 1) * a + (R + a) = (dvR U c a b) := by rw [Int.sub_mul]; omega
                by_cases h2 : 4294967296 ≤ R + a
                · have hq := dv_break NE j2' (by omega) h2 more
                  have hwq : IntKind.u64.wrap (Q - 1) = dvQ (dvR U c a b) d a b := by rw [u64_in (by omega) (by omega)]; exact hq
                  clear j2 j2' more hq
                  obtain ⟨P2, hP2⟩ : ∃ P, IntKind.u64.wrap (dvQ (dvR U c a b) d a b * Y) = P := ⟨_, rfl⟩
                  obtain ⟨A1, hA1⟩ : ∃ P, IntKind.u64.wrap (dvR U c a b * 4294967296) = P := ⟨_, rfl⟩
                  obtain ⟨A2, hA2⟩ : ∃ P, IntKind.u64.wrap (A1 + d) = P := ⟨_, rfl⟩
                  have hV2 : IntKind.u64.wrap (A2 - P2) = dvR (dvR U c a b) d a b := by
                    rw [IntKind.wrap_u64] at hP2 hA1 hA2 ⊢
                    have e : dvR (dvR U c a b) d a b = dvR U c a b * 4294967296 + d - dvQ (dvR U c a b) d a b * Y := by rw [← HAB.out]; rfl
                    have bd := dvR_bd NE
                    have := HY1.out
                    have := HAB.out
                    omega
                  obtain ⟨D0, D1⟩ := dvQ_bd ND
                  have hT1 : IntKind.u64.wrap (dvQ U c a b * 4294967296) = dvQ U c a b * 4294967296 := u64_in (by omega) (by omega)
                  have hT2 : IntKind.u64.wrap (dvQ U c a b * 4294967296 + dvQ (dvR U c a b) d a b) = dvQ U c a b * 4294967296 + dvQ (dvR U c a b) d a b := u64_in (by omega) (by omega)
                  go_wp2_with fail
                  go_ret2
                  first
                  | exact ⟨rfl, Below.refl _ _⟩
                  | exact ⟨ret_u2 HDQ.out (HDS.out), Below.refl _ _⟩
                · go_wp2_with fail
                  exact ⟨⟨Q - 1, R + a, by go_num, by go_num, more, j2', by omega, by omega, by omega, by first | rfl | trivial⟩, by simp [intOf]; omega⟩
              · obtain ⟨X, hX⟩ : ∃ X, Q * b = X := ⟨_, rfl⟩
                have X0 : 0 ≤ X := by rw [← hX]; exact Int.mul_nonneg (by omega) b0
                have X1 : X < 18446744073709551616 := by
                  have := Int.mul_le_mul_of_nonneg_right (show Q ≤ 4294967295 by omega) b0
                  omega
                have hwX : IntKind.u64.wrap (Q * b) = X := by rw [hX]; exact u64_in X0 X1
                by_cases h2 : 4294967296 * R + d < X
                · have more := dv_more NE j2 (.inr (by rw [hX]; exact h2))
                  have j2' : (Q - 1) * a + (R + a) = (dvR U c a b) := by rw [Int.sub_mul]; omega
                  by_cases h3 : 4294967296 ≤ R + a
                  · have hq := dv_break NE j2' (by omega) h3 more
                    have hwq : IntKind.u64.wrap (Q - 1) = dvQ (dvR U c a b) d a b := by rw [u64_in (by omega) (by omega)]; exact hq
                    clear j2 j2' more hq hX
                    obtain ⟨P2, hP2⟩ : ∃ P, IntKind.u64.wrap (dvQ (dvR U c a b) d a b * Y) = P := ⟨_, rfl⟩
                    obtain ⟨A1, hA1⟩ : ∃ P, IntKind.u64.wrap (dvR U c a b * 4294967296) = P := ⟨_, rfl⟩
                    obtain ⟨A2, hA2⟩ : ∃ P, IntKind.u64.wrap (A1 + d) = P := ⟨_, rfl⟩
                    have hV2 : IntKind.u64.wrap (A2 - P2) = dvR (dvR U c a b) d a b := by
                      rw [IntKind.wrap_u64] at hP2 hA1 hA2 ⊢
                      have e : dvR (dvR U c a b) d a b = dvR U c a b * 4294967296 + d - dvQ (dvR U c a b) d a b * Y := by rw [← HAB.out]; rfl
                      have bd := dvR_bd NE
                      have := HY1.out
                      have := HAB.out
                      omega
                    obtain ⟨D0, D1⟩ := dvQ_bd ND
                    have hT1 : IntKind.u64.wrap (dvQ U c a b * 4294967296) = dvQ U c a b * 4294967296 := u64_in (by omega) (by omega)
                    have hT2 : IntKind.u64.wrap (dvQ U c a b * 4294967296 + dvQ (dvR U c a b) d a b) = dvQ U c a b * 4294967296 + dvQ (dvR U c a b) d a b := u64_in (by omega) (by omega)
                    go_wp2_with fail
                    go_ret2
                    first
                    | exact ⟨rfl, Below.refl _ _⟩
                    | exact ⟨ret_u2 HDQ.out (HDS.out), Below.refl _ _⟩
                  · clear hX
                    go_wp2_with fail
                    exact ⟨⟨Q - 1, R + a, by go_num, by go_num, more, j2', by omega, by omega, by omega, by first | rfl | trivial⟩, by simp [intOf]; omega⟩
                · have hq := dv_stop NE j2 (by rw [hX]; omega) j1
                  subst hq
                  clear hX j1 j2
                  obtain ⟨P2, hP2⟩ : ∃ P, IntKind.u64.wrap (dvQ (dvR U c a b) d a b * Y) = P := ⟨_, rfl⟩
                  obtain ⟨A1, hA1⟩ : ∃ P, IntKind.u64.wrap (dvR U c a b * 4294967296) = P := ⟨_, rfl⟩
                  obtain ⟨A2, hA2⟩ : ∃ P, IntKind.u64.wrap (A1 + d) = P := ⟨_, rfl⟩
                  have hV2 : IntKind.u64.wrap (A2 - P2) = dvR (dvR U c a b) d a b := by
                    rw [IntKind.wrap_u64] at hP2 hA1 hA2 ⊢
                    have e : dvR (dvR U c a b) d a b = dvR U c a b * 4294967296 + d - dvQ (dvR U c a b) d a b * Y := by rw [← HAB.out]; rfl
                    have bd := dvR_bd NE
                    have := HY1.out
                    have := HAB.out
                    omega
                  obtain ⟨D0, D1⟩ := dvQ_bd ND
                  have hT1 : IntKind.u64.wrap (dvQ U c a b * 4294967296) = dvQ U c a b * 4294967296 := u64_in (by omega) (by omega)
                  have hT2 : IntKind.u64.wrap (dvQ U c a b * 4294967296 + dvQ (dvR U c a b) d a b) = dvQ U c a b * 4294967296 + dvQ (dvR U c a b) d a b := u64_in (by omega) (by omega)
                  go_wp2_with fail
                  go_ret2
                  first
                  | exact ⟨rfl, Below.refl _ _⟩
                  | exact ⟨ret_u2 HDQ.out (HDS.out), Below.refl _ _⟩
          · clear hX
            go_wp2_with fail
            exact ⟨⟨Q - 1, R + a, by go_num, by go_num, more, j2', by omega, by omega, by omega, by first | rfl | trivial⟩, by simp [intOf]; omega⟩
        · have hq := dv_stop ND j2 (by rw [hX]; omega) j1
          subst hq
          clear hX j1 j2
          obtain ⟨P1, hP1⟩ : ∃ P, IntKind.u64.wrap (dvQ U c a b * Y) = P := ⟨_, rfl⟩
          obtain ⟨A1, hA1⟩ : ∃ P, IntKind.u64.wrap (U * 4294967296) = P := ⟨_, rfl⟩
          obtain ⟨A2, hA2⟩ : ∃ P, IntKind.u64.wrap (A1 + c) = P := ⟨_, rfl⟩
          have hV1 : IntKind.u64.wrap (A2 - P1) = dvR U c a b := by
            rw [IntKind.wrap_u64] at hP1 hA1 hA2 ⊢
            have e : dvR U c a b = U * 4294967296 + c - dvQ U c a b * Y := by rw [← HAB.out]; rfl
            have bd := dvR_bd ND
            have := HY1.out
            have := HAB.out
            omega
          obtain ⟨i1, i2, i3, i4, i5, i6, i7, i8, i9⟩ := dv_init NE
          have hq1 : (dvR U c a b).tdiv a = dvR U c a b / a := Int.tdiv_eq_ediv_of_nonneg NE.u0
          have hw4 : IntKind.u64.wrap (dvR U c a b / a) = dvR U c a b / a := u64_in i1 (by omega)
          have hw5 : IntKind.u64.wrap (dvR U c a b / a * a) = dvR U c a b / a * a := u64_in i8 (by have := NE.u1; omega)
          have hw6 : IntKind.u64.wrap (dvR U c a b - dvR U c a b / a * a) = dvR U c a b % a := by rw [i3]; exact u64_in i4 (by omega)
          clear i3 i8 i9
          go_wp2_with fail
          go_loopw [18, 16] (fun q r wx => ∃ (Q R : Int), q = .int .u64 Q ∧ r = .int .u64 R ∧ dvQ (dvR U c a b) d a b ≤ Q ∧ Q * a + R = (dvR U c a b) ∧ 0 ≤ R ∧ R < 4294967296 ∧ Q ≤ 4294967297 ∧ wx = wr) (fun q _ _ => (intOf q).toNat)
          case atStart => exact ⟨_, _, rfl, rfl, i6, i7, i4, i5, i2, rfl⟩
          case round =>
            obtain ⟨Q, R, rfl, rfl, j1, j2, j3, j4, j5, rfl⟩ := hrel
            obtain ⟨d0, d1⟩ := dvQ_bd NE
            have b0 := ND.b0
            have b1 := ND.b1
            have a0 := ND.a0
            have a1 := ND.a1
            have c0 := NE.c0
            have c1 := NE.c1
            clear i1 i2 i4 i5 i6 i7
            by_cases h1 : 4294967296 ≤ Q
            · have more := dv_more NE j2 (.inl h1)
              have j2' : (Q - 1) * a + (R + a) = (dvR U c a b) := by rw [Int.sub_mul]; omega
              by_cases h2 : 4294967296 ≤ R + a
              · have hq := dv_break NE j2' (by omega) h2 more
                have hwq : IntKind.u64.wrap (Q - 1) = dvQ (dvR U c a b) d a b := by rw [u64_in (by omega) (by omega)]; exact hq
                clear j2 j2' more hq
                obtain ⟨P2, hP2⟩ : ∃ P, IntKind.u64.wrap (dvQ (dvR U c a b) d a b * Y) = P := ⟨_, rfl⟩
                obtain ⟨A1, hA1⟩ : ∃ P, IntKind.u64.wrap (dvR U c a b * 4294967296) = P := ⟨_, rfl⟩
                obtain ⟨A2, hA2⟩ : ∃ P, IntKind.u64.wrap (A1 + d) = P := ⟨_, rfl⟩
                have hV2 : IntKind.u64.wrap (A2 - P2) = dvR (dvR U c a b) d a b := by
                  rw [IntKind.wrap_u64] at hP2 hA1 hA2 ⊢
                  have e : dvR (dvR U c a b) d a b = dvR U c a b * 4294967296 + d - dvQ (dvR U c a b) d a b * Y := by rw [← HAB.out]; rfl
                  have bd := dvR_bd NE
                  have := HY1.out
                  have := HAB.out
                  omega
                obtain ⟨D0, D1⟩ := dvQ_bd ND
                have hT1 : IntKind.u64.wrap (dvQ U c a b * 4294967296) = dvQ U c a b * 4294967296 := u64_in (by omega) (by omega)
                have hT2 : IntKind.u64.wrap (dvQ U c a b * 4294967296 + dvQ (dvR U c a b) d a b) = dvQ U c a b * 4294967296 + dvQ (dvR U c a b) d a b := u64_in (by omega) (by omega)
                go_wp2_with fail
                go_ret2
                first
                | exact ⟨rfl, Below.refl _ _⟩
                | exact ⟨ret_u2 HDQ.out (HDS.out), Below.refl _ _⟩
              · go_wp2_with fail
                exact ⟨⟨Q - 1, R + a, by go_num, by go_num, more, j2', by omega, by omega, by omega, by first | rfl | trivial⟩, by simp [intOf]; omega⟩
            · obtain ⟨X, hX⟩ : ∃ X, Q * b = X := ⟨_, rfl⟩
              have X0 : 0 ≤ X := by rw [← hX]; exact Int.mul_nonneg (by omega) b0
              have X1 : X < 18446744073709551616 := by
                have := Int.mul_le_mul_of_nonneg_right (show Q ≤ 4294967295 by omega) b0
                omega
              have hwX : IntKind.u64.wrap (Q * b) = X := by rw [hX]; exact u64_in X0 X1
              by_cases h2 : 4294967296 * R + d < X
              · have more := dv_more NE j2 (.inr (by rw [hX]; exact h2))
                have j2' : (Q - 1) * a + (R + a) = (dvR U c a b) := by rw [Int.sub_mul]; omega
                by_cases h3 : 4294967296 ≤ R + a
                · have hq := dv_break NE j2' (by omega) h3 more
                  have hwq : IntKind.u64.wrap (Q - 1) = dvQ (dvR U c a b) d a b := by rw [u64_in (by omega) (by omega)]; exact hq
                  clear j2 j2' more hq hX
                  obtain ⟨P2, hP2⟩ : ∃ P, IntKind.u64.wrap (dvQ (dvR U c a b) d a b * Y) = P := ⟨_, rfl⟩
                  obtain ⟨A1, hA1⟩ : ∃ P, IntKind.u64.wrap (dvR U c a b * 4294967296) = P := ⟨_, rfl⟩
                  obtain ⟨A2, hA2⟩ : ∃ P, IntKind.u64.wrap (A1 + d) = P := ⟨_, rfl⟩
                  have hV2 : IntKind.u64.wrap (A2 - P2) = dvR (dvR U c a b) d a b := by
                    rw [IntKind.wrap_u64] at hP2 hA1 hA2 ⊢
                    have e : dvR (dvR U c a b) d a b = dvR U c a b * 4294967296 + d - dvQ (dvR U c a b) d a b * Y := by rw [← HAB.out]; rfl
                    have bd := dvR_bd NE
                    have := HY1.out
                    have := HAB.out
                    omega
                  obtain ⟨D0, D1⟩ := dvQ_bd ND
                  have hT1 : IntKind.u64.wrap (dvQ U c a b * 4294967296) = dvQ U c a b * 4294967296 := u64_in (by omega) (by omega)
                  have hT2 : IntKind.u64.wrap (dvQ U c a b * 4294967296 + dvQ (dvR U c a b) d a b) = dvQ U c a b * 4294967296 + dvQ (dvR U c a b) d a b := u64_in (by omega) (by omega)
                  go_wp2_with fail
                  go_ret2
                  first
                  | exact ⟨rfl, Below.refl _ _⟩
                  | exact ⟨ret_u2 HDQ.out (HDS.out), Below.refl _ _⟩
                · clear hX
                  go_wp2_with fail
                  exact ⟨⟨Q - 1, R + a, by go_num, by go_num, more, j2', by omega, by omega, by omega, by first | rfl | trivial⟩, by simp [intOf]; omega⟩
              · have hq := dv_stop NE j2 (by rw [hX]; omega) j1
                subst hq
                clear hX j1 j2
                obtain ⟨P2, hP2⟩ : ∃ P, IntKind.u64.wrap (dvQ (dvR U c a b) d a b * Y) = P := ⟨_, rfl⟩
                obtain ⟨A1, hA1⟩ : ∃ P, IntKind.u64.wrap (dvR U c a b * 4294967296) = P := ⟨_, rfl⟩
                obtain ⟨A2, hA2⟩ : ∃ P, IntKind.u64.wrap (A1 + d) = P := ⟨_, rfl⟩
                have hV2 : IntKind.u64.wrap (A2 - P2) = dvR (dvR U c a b) d a b := by
                  rw [IntKind.wrap_u64] at hP2 hA1 hA2 ⊢
                  have e : dvR (dvR U c a b) d a b = dvR U c a b * 4294967296 + d - dvQ (dvR U c a b) d a b * Y := by rw [← HAB.out]; rfl
                  have bd := dvR_bd NE
                  have := HY1.out
                  have := HAB.out
                  omega
                obtain ⟨D0, D1⟩ := dvQ_bd ND
                have hT1 : IntKind.u64.wrap (dvQ U c a b * 4294967296) = dvQ U c a b * 4294967296 := u64_in (by omega) (by omega)
                have hT2 : IntKind.u64.wrap (dvQ U c a b * 4294967296 + dvQ (dvR U c a b) d a b) = dvQ U c a b * 4294967296 + dvQ (dvR U c a b) d a b := u64_in (by omega) (by omega)
                go_wp2_with fail
                go_ret2
                first
                | exact ⟨rfl, Below.refl _ _⟩
                | exact ⟨ret_u2 HDQ.out (HDS.out), Below.refl _ _⟩
  · obtain rfl : hi = 0 := by omega
    go_enter Tryz.func146, Tryz.ntmps146
    go_wp2_with fail
    go_quiet (fail)
    go_wp2_with fail
    go_ret2
    refine ⟨?_, below_drewN (Below.refl _ _) _⟩
    rw [show (0 : Int) * 18446744073709551616 + lo = lo by omega]
    rfl
end Go.Proofs.YtnfndiafabhhdaaGreat
