/- Walk of bits.Div64 (Wear). -/
import Derived.Test.YtnfndiafabhhdaaGreatB7
import Derived.Test.YtnfndiafabhhdaaGreatA2
import Derived.Lib.ItoaNum
import Derived.Shelf.Bits.Mul64
namespace Go.Proofs.YtnfndiafabhhdaaGreat
open Go.ChangeShapes Go.WideShapes Go.ChangeAt Go.RowKit
structure DvN  (hi lo y : Int) (s : Nat) (Y a b U L c d : Int) : Prop where
  hs : s ≤ 63
  hY : y * 2 ^ s = Y
  hY1 : Y < 18446744073709551616
  ha : Y / 4294967296 = a
  hb : Y % 4294967296 = b
  hU : hi * 2 ^ s + lo / 2 ^ (64 - s) = U
  hL : lo * 2 ^ s % 18446744073709551616 = L
  hc : L / 4294967296 = c
  hd : L % 4294967296 = d
  hD : DvH U c a b
theorem dvN_of {hi lo y : Int} (h0 : 0 ≤ hi) (hy : hi < y) (hy1 : y < 18446744073709551616) (l0 : 0 ≤ lo) (l1 : lo < 18446744073709551616) :
    ∃ (s : Nat) (Y a b U L c d : Int), (64 - (Lib.bitLen y.toNat : Int)) = (s : Int) ∧ DvN hi lo y s Y a b U L c d ∧ U * 18446744073709551616 + L = (hi * 18446744073709551616 + lo) * 2 ^ s := by
  obtain ⟨b1, b2, b3⟩ := Lib.bitLenAux_bounds 64 y.toNat (by omega) (by omega)
  have b4 := Lib.bitLenAux_le 64 y.toNat 64 (by omega)
  have hb : Lib.bitLen y.toNat = Lib.bitLenAux 64 y.toNat := rfl
  rw [hb]
  generalize Lib.bitLenAux 64 y.toNat = B at *
  obtain ⟨s, rfl⟩ : ∃ s, B = 64 - s := ⟨64 - B, by omega⟩
  have s63 : s ≤ 63 := by omega
  have e1 : (2 : Int) ^ (64 - s) * 2 ^ s = 18446744073709551616 := by rw [← Int.pow_add]; rw [show 64 - s + s = 64 by omega]; rfl
  have e2 : (2 : Int) ^ (64 - s) = 2 * 2 ^ (63 - s) := by rw [show 64 - s = (63 - s) + 1 by omega, Int.pow_succ, Int.mul_comm]
  have p0 : (0 : Int) < 2 ^ s := Int.pow_pos (by decide)
  have p1 : (0 : Int) < 2 ^ (64 - s) := Int.pow_pos (by decide)
  have y2 : (2 : Int) ^ (63 - s) ≤ y := by
    have : ((2 ^ (64 - s - 1) : Nat) : Int) ≤ (y.toNat : Int) := by exact_mod_cast b2
    rw [Int.natCast_pow, show 64 - s - 1 = 63 - s by omega] at this
    have e : ((2 : Nat) : Int) = 2 := rfl
    rw [e] at this
    omega
  have y3 : y < (2 : Int) ^ (64 - s) := by
    have : (y.toNat : Int) < ((2 ^ (64 - s) : Nat) : Int) := by exact_mod_cast b3
    rw [Int.natCast_pow] at this
    have e : ((2 : Nat) : Int) = 2 := rfl
    rw [e] at this
    omega
  have Y0 : 9223372036854775808 ≤ y * 2 ^ s := by
    have := Int.mul_le_mul_of_nonneg_right y2 (Int.le_of_lt p0)
    have e3 : (2 : Int) ^ (63 - s) * 2 ^ s = 9223372036854775808 := by grind
    omega
  have Y1 : y * 2 ^ s < 18446744073709551616 := by
    have := Int.mul_lt_mul_of_pos_right y3 p0
    omega
  have key : lo * 2 ^ s = lo / 2 ^ (64 - s) * 18446744073709551616 + lo * 2 ^ s % 18446744073709551616 := by
    have e3 : lo * 2 ^ s / 18446744073709551616 = lo / 2 ^ (64 - s) := by
      rw [← e1]
      exact Int.mul_ediv_mul_of_pos_left lo (2 ^ (64 - s)) p0
    have := Int.mul_ediv_add_emod (lo * 2 ^ s) 18446744073709551616
    rw [e3] at this
    omega
  have hU : (hi * 2 ^ s + lo / 2 ^ (64 - s)) * 18446744073709551616 + lo * 2 ^ s % 18446744073709551616 = (hi * 18446744073709551616 + lo) * 2 ^ s := by
    rw [Int.add_mul, Int.add_mul]
    have e4 : hi * 2 ^ s * 18446744073709551616 = hi * 18446744073709551616 * 2 ^ s := by ac_rfl
    omega
  have q0 : 0 ≤ lo / 2 ^ (64 - s) := Int.ediv_nonneg l0 (Int.le_of_lt p1)
  have u0 : 0 ≤ hi * 2 ^ s := Int.mul_nonneg h0 (Int.le_of_lt p0)
  have ult : hi * 2 ^ s + lo / 2 ^ (64 - s) < y * 2 ^ s := by
    have l2 : (hi * 18446744073709551616 + lo) * 2 ^ s < y * 18446744073709551616 * 2 ^ s := Int.mul_lt_mul_of_pos_right (by omega) p0
    have e5 : y * 18446744073709551616 * 2 ^ s = y * 2 ^ s * 18446744073709551616 := by ac_rfl
    omega
  refine ⟨s, _, _, _, _, _, _, _, by omega, ⟨s63, rfl, Y1, rfl, rfl, rfl, rfl, rfl, rfl, ?_⟩, hU⟩
  exact ⟨by omega, by omega, by omega, by omega, by omega, by omega, by omega, by omega⟩
theorem or_add (a b : Int) (s : Nat) (hs : s ≤ 63) (a0 : 0 ≤ a) (a1 : a * 2 ^ s < 18446744073709551616) (b0 : 0 ≤ b) (b1 : b < 2 ^ s) : bits .or .u64 (a * 2 ^ s) b = a * 2 ^ s + b := by
  obtain ⟨x, rfl⟩ : ∃ x : Nat, a = (x : Int) := ⟨a.toNat, by omega⟩
  obtain ⟨z, rfl⟩ : ∃ x : Nat, b = (x : Int) := ⟨b.toNat, by omega⟩
  have e : ((x : Int) * 2 ^ s) = ((x * 2 ^ s : Nat) : Int) := by push_cast; rfl
  rw [e] at a1 ⊢
  have z1 : z < 2 ^ s := by
    have : ((2 ^ s : Nat) : Int) = (2 : Int) ^ s := by push_cast; rfl
    omega
  have s64 : 2 ^ s ≤ 2 ^ 63 := Nat.pow_le_pow_right (by decide) hs
  rw [bits_or_u64_nat (x * 2 ^ s) z (by omega) (by omega)]
  have : x * 2 ^ s ||| z = x * 2 ^ s + z := by
    rw [Nat.mul_comm, ← Nat.two_pow_add_eq_or_of_lt z1]
  rw [this]
  push_cast
  rfl
end Go.Proofs.YtnfndiafabhhdaaGreat
