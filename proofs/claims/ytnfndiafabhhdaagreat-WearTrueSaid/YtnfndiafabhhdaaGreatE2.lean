/- Walks of over, by (Wear). -/
import Derived.Test.YtnfndiafabhhdaaGreatE1
namespace Go.Proofs.YtnfndiafabhhdaaGreat
open Go.ChangeShapes Go.WideShapes Go.ChangeAt Go.RowKit
theorem wover_any (X n : Int) (w : World) (X0 : 0 ≤ X) (n0 : 0 < n) (n1 : n ≤ 9223372036854775807) (hq : X / n < 9223372036854775808) :
    Calls Tryz.prog 89 #[.agg #[.int .u64 (hiW X), .int .u64 (loW X)], .int .i64 n] w fun e w' => e = .returned (.tuple #[.int .i64 (X / n), .bool (decide (X % n ≠ 0))]) ∧ Below w.heap.size w w' := by
  have hlt : hiW X < n := by
    have h := Int.lt_mul_of_ediv_lt n0 hq
    unfold hiW
    omega
  have hlo := lo_bd X
  have hh := hi_nn X0
  have hO := div64_any (hiW X) (loW X) n (w.alloc (Obj.cells #[.int .u64 (hiW X), .int .u64 (loW X)] 123)) hh hlt (by omega) hlo.1 (by omega)
  rw [hi_lo] at hO
  have q0 : 0 ≤ X / n := Int.ediv_nonneg X0 (by omega)
  have r0 := Int.emod_nonneg X (show n ≠ 0 by omega)
  have r1 := Int.emod_lt_of_pos X n0
  obtain ⟨a, ha⟩ : ∃ x, hiW X = x := ⟨_, rfl⟩
  obtain ⟨b, hb⟩ : ∃ x, loW X = x := ⟨_, rfl⟩
  obtain ⟨q, hq⟩ : ∃ x, X / n = x := ⟨_, rfl⟩
  obtain ⟨r, hr⟩ : ∃ x, X % n = x := ⟨_, rfl⟩
  rw [ha, hb, hq, hr] at hO
  rw [ha, hb, hq, hr]
  rw [hq] at q0
  rw [hr] at r0 r1
  have HO := Lib.hid hO
  clear hO ha hb hr hh hlt hlo
  have hn : IntKind.u64.wrap n = n := u64_in (by omega) (by omega)
  go_enter Tryz.func89, Tryz.ntmps89
  go_wp2_with fail
  refine HO.out.mono ?_
  rintro e w1 ⟨rfl, hb1⟩
  go_wp2_with fail
  go_ret2
  refine ⟨?_, bafter hb1⟩
  by_cases h : r = 0
  · subst h; rfl
  · simp [h]
theorem by_any (X n : Int) (w : World) (X0 : 0 ≤ X) (n0 : 0 ≤ n) (n1 : n ≤ 9223372036854775807) (hX : X * n < 340282366920938463463374607431768211456) :
    Calls Tryz.prog 159 #[.agg #[.int .u64 (hiW X), .int .u64 (loW X)], .int .i64 n] w fun e w' => e = .returned (.agg #[.int .u64 (hiW (X * n)), .int .u64 (loW (X * n))]) ∧ Below w.heap.size w w' := by
  have hlo := lo_bd X
  have hh := hi_nn X0
  have e0 : X * n = hiW X * n * 18446744073709551616 + loW X * n := by
    rw [← hi_lo X, Int.add_mul]
    have := hi_lo X
    rw [this]
    congr 1
    ac_rfl
  have p0 := Int.mul_nonneg hh n0
  have p1 := Int.mul_nonneg hlo.1 n0
  have HM := Lib.hid (fun w => mul64_any (loW X) n w hlo.1 hlo.2 n0 (by omega))
  have hH : hiW (X * n) = hiW (loW X * n) + hiW X * n := by unfold hiW at *; omega
  have hL : loW (X * n) = loW (loW X * n) := by unfold loW at *; omega
  rw [hH, hL]
  have b1 : hiW (loW X * n) + hiW X * n < 18446744073709551616 := by rw [← hH]; unfold hiW; omega
  have b2 := hi_nn p1
  obtain ⟨a, ha⟩ : ∃ x, hiW X = x := ⟨_, rfl⟩
  obtain ⟨b, hb⟩ : ∃ x, loW X = x := ⟨_, rfl⟩
  rw [hb] at HM b2
  rw [ha, hb] at b1 ⊢
  rw [ha] at p0
  obtain ⟨c, hc⟩ : ∃ x, hiW (b * n) = x := ⟨_, rfl⟩
  obtain ⟨d, hd⟩ : ∃ x, loW (b * n) = x := ⟨_, rfl⟩
  obtain ⟨m, hm⟩ : ∃ x, a * n = x := ⟨_, rfl⟩
  rw [hc] at HM b1 b2 ⊢
  rw [hd] at HM ⊢
  rw [hm] at b1 p0 ⊢
  have hw1 : IntKind.u64.wrap (a * n) = m := by rw [hm]; exact u64_in (by omega) (by omega)
  have hw2 : IntKind.u64.wrap (c + m) = c + m := u64_in (by omega) (by omega)
  have hn : IntKind.u64.wrap n = n := u64_in (by omega) (by omega)
  clear ha hb hc hd hm hH hL e0 hlo hh p1 hX
  go_enter Tryz.func159, Tryz.ntmps159
  go_wp2_with fail
  refine (HM.out _).mono ?_
  rintro e w1 ⟨rfl, rfl⟩
  go_wp2_with fail
  refine bodyPost_ret (v := .agg #[.int .u64 (c + m), .int .u64 d]) (by simp [results, Tryz.results159, go_sem]) rfl ⟨rfl, ?_⟩
  exact belw
end Go.Proofs.YtnfndiafabhhdaaGreat
