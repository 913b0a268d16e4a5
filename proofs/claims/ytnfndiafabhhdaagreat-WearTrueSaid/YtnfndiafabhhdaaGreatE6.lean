/- Walk of at: two lines compared at one g (Wear). -/
import Derived.Test.YtnfndiafabhhdaaGreatE2
import Derived.Test.YtnfndiafabhhdaaGreatC3
import Derived.Test.YtnfndiafabhhdaaGreatE5
namespace Go.Proofs.YtnfndiafabhhdaaGreat
open Go.ChangeShapes Go.WideShapes Go.ChangeAt Go.RowKit
def atS (l u : Ln) (N D : Int) : Int := sgn ((l.k - u.k) * (1000 * D) * lnD l u - lnN l u * N)
theorem atS_fit {l u : Ln} {N D : Int} (sl : l.s = false) (su : u.s = false) : 0 < atS l u N D ↔ ¬ Fit l u (1000 * D) N := by
  unfold atS Fit
  rw [sgn_gt, if_neg (by simp [sl, su])]
  omega
set_option maxRecDepth 100000 in
set_option maxHeartbeats 2000000 in
theorem wat_any (l u : Ln) (N D : Int) (w : World) (hl : LnB l) (hu : LnB u) (N0 : 1 ≤ N) (N1 : N ≤ 1125899906842624) (D0 : 1 ≤ D) (D1 : D ≤ 1125899906842624) :
    Calls Tryz.prog 107 #[lnV l, lnV u, .agg #[.int .i64 N, .int .i64 D]] w fun e w' => e = .returned (.int .i64 (atS l u N D)) ∧ Below w.heap.size w w' := by
  obtain ⟨⟨n0, n1⟩, d0, d1⟩ := ln_bd hl hu
  obtain ⟨lk, ln, ld, ls⟩ := l
  obtain ⟨uk, un, ud, us⟩ := u
  obtain ⟨a0, a1, a2, a3, a4, a5⟩ := hl
  obtain ⟨c0, c1, c2, c3, c4, c5⟩ := hu
  simp only at *
  have b1 := mul_bd a0 a1 (Int.le_of_lt c2) c3
  have b2 := mul_bd c0 c1 (Int.le_of_lt a2) a3
  have b3 := mul_bd (Int.le_of_lt a2) a3 (Int.le_of_lt c2) c3
  have hLL := fun W => wless_any un ud ln ld W (by omega) (by omega) (by rw [Int.mul_comm]; omega)
  rw [Int.mul_comm ud ld] at hLL
  have eN : lnN ⟨lk, ln, ld, ls⟩ ⟨uk, un, ud, us⟩ = un * ld - ln * ud := rfl
  have eD : lnD ⟨lk, ln, ld, ls⟩ ⟨uk, un, ud, us⟩ = ld * ud := rfl
  unfold atS
  simp only [eN, eD] at n0 n1 d0 d1 ⊢
  obtain ⟨n, hn⟩ : ∃ x, un * ld - ln * ud = x := ⟨_, rfl⟩
  obtain ⟨d, hd⟩ : ∃ x, ld * ud = x := ⟨_, rfl⟩
  obtain ⟨k, hk⟩ : ∃ x, lk - uk = x := ⟨_, rfl⟩
  have hwk : IntKind.i64.wrap (lk - uk) = k := by rw [hk]; exact IntWalk.i64_in _ (by omega)
  have k0 : -2097152 ≤ k ∧ k ≤ 2097152 := by omega
  simp only [hn, hd, hk] at hLL n0 n1 d0 d1 ⊢
  have HLL := Lib.hid hLL
  have s1 : ∀ x : Int, 0 < x → 0 < x * (1000 * D) * d := fun x hx => Int.mul_pos (Int.mul_pos hx (by omega)) d0
  have s2 : ∀ x : Int, 0 < x → 0 < x * N := fun x hx => Int.mul_pos hx (by omega)
  have e1 : (-k) * (1000 * D) * d = -(k * (1000 * D) * d) := by rw [Int.neg_mul, Int.neg_mul]
  have e2 : (-n) * N = -(n * N) := by rw [Int.neg_mul]
  clear hLL hn hd hk eN eD b1 b2 b3 a0 a1 a2 a3 a4 a5 c0 c1 c2 c3 c4 c5
  obtain ⟨k1, k2⟩ := k0
  rcases Int.lt_trichotomy k 0 with hk | hk | hk
  · have t1 := s1 (-k) (by omega)
    rcases Int.lt_or_le n 0 with hn | hn
    · -- both below
      have t2 := s2 (-n) (by omega)
      have hX : -1000 * k * D * d = (-k) * (1000 * D) * d := by rw [Int.neg_mul_comm, Int.mul_assoc 1000]; ac_rfl
      have pb := mul_bd (show 0 ≤ -1000 * k by omega) (show -1000 * k ≤ 2097152000 by omega) (show 0 ≤ D by omega) D1
      have pc := mul_bd pb.1 pb.2 (Int.le_of_lt d0) d1
      have hs : sgn (k * (1000 * D) * d - n * N) = sgn ((-n) * N - -1000 * k * D * d) := by congr 1; omega
      rw [hs]
      obtain ⟨m, hm⟩ : ∃ x, -1000 * k = x := ⟨_, rfl⟩
      obtain ⟨n', hn'⟩ : ∃ x, -n = x := ⟨_, rfl⟩
      rw [hm, hn'] at hs ⊢
      rw [hm] at pb pc
      have hwm : IntKind.i64.wrap (-1000 * k) = m := by rw [hm]; exact IntWalk.i64_in _ (by omega)
      have hwn : IntKind.i64.wrap (-n) = n' := by rw [hn']; exact IntWalk.i64_in _ (by omega)
      have K1 := Lib.hid (fun W => times_any n' N W (by omega) (by omega) (by omega) (by omega))
      have K2 := Lib.hid (fun W => times_any m D W (by omega) (by omega) (by omega) (by omega))
      have K3 := Lib.hid (fun W => by_any (m * D) d W pb.1 (Int.le_of_lt d0) (by omega) (by omega))
      have K4 := Lib.hid (fun W => wcompare_any (n' * N) (m * D * d) W)
      obtain ⟨r, hr⟩ : ∃ x, sgn (n' * N - m * D * d) = x := ⟨_, rfl⟩
      rw [hr] at K4 ⊢
      clear hs hr t1 t2 hX pb pc s1 s2 e1 e2
      go_enter Tryz.func107, Tryz.ntmps107
      go_wp2_with fail
      refine (HLL.out _).mono ?_
      rintro e w1 ⟨rfl, hb1⟩
      obtain ⟨hc1, hf1⟩ := bcell hb1
      have hbw := bafter (bafter (bafter hb1))
      go_wp2_with fail
      have k1 : ∀ i : More w1, _ := fun i => more_call (K1.out i.x)
      have k2 : ∀ i : More w1, _ := fun i => more_call (K2.out i.x)
      have k3 : ∀ i : More w1, _ := fun i => more_call (K3.out i.x)
      have k4 : ∀ i : More w1, _ := fun i => more_call (K4.out i.x)
      have J1 := Lib.hid k1; clear k1
      have J2 := Lib.hid k2; clear k2
      have J3 := Lib.hid k3; clear k3
      have J4 := Lib.hid k4; clear k4
      have B3 := Bk.new1 (w.alloc (Obj.cells #[.int .i64 lk, .int .i64 ln, .int .i64 ld, .bool ls] 142)) (Obj.cells #[.int .i64 uk, .int .i64 un, .int .i64 ud, .bool us] 142) 41 [.int .i64 N, .int .i64 D]
      rw [World.size_alloc] at B3
      have z0 : ∀ i : More w1, i.x.cell? ⟨w.heap.size + 2, 0, none⟩ = some (.int .i64 N) := fun i => ((B3.below hb1).below i.h).cell 0
      have z1 : ∀ i : More w1, i.x.cell? ⟨w.heap.size + 2, 1, none⟩ = some (.int .i64 D) := fun i => ((B3.below hb1).below i.h).cell 1
      clear B3
      have hz1 := hb1.size
      simp only [World.size_alloc] at hz1
      have HBW := Lib.hid hbw
      clear hb1 hbw
      refine wp_region_more (by kernel_rfl) (by kernel_rfl) ?_
      iterate 8 (try (first | go_big_quiet_step ((with_reducible first | exact J1.out _ | exact J2.out _ | exact J3.out _ | exact J4.out _)) | quiet_step ((with_reducible first | exact J1.out _ | exact J2.out _ | exact J3.out _ | exact J4.out _))))
      iterate 8 (try (first | go_big_quiet_step ((with_reducible first | exact J1.out _ | exact J2.out _ | exact J3.out _ | exact J4.out _)) | quiet_step ((with_reducible first | exact J1.out _ | exact J2.out _ | exact J3.out _ | exact J4.out _))))
      iterate 8 (try (first | go_big_quiet_step ((with_reducible first | exact J1.out _ | exact J2.out _ | exact J3.out _ | exact J4.out _)) | quiet_step ((with_reducible first | exact J1.out _ | exact J2.out _ | exact J3.out _ | exact J4.out _))))
      iterate 8 (try (first | go_big_quiet_step ((with_reducible first | exact J1.out _ | exact J2.out _ | exact J3.out _ | exact J4.out _)) | quiet_step ((with_reducible first | exact J1.out _ | exact J2.out _ | exact J3.out _ | exact J4.out _))))
      iterate 8 (try (first | go_big_quiet_step ((with_reducible first | exact J1.out _ | exact J2.out _ | exact J3.out _ | exact J4.out _)) | quiet_step ((with_reducible first | exact J1.out _ | exact J2.out _ | exact J3.out _ | exact J4.out _))))
      refine wpQuiet_nil ?_
      rintro ⟨wm, hbm⟩
      try dsimp only
      go_wp2_with fail
      go_ret
      exact ⟨rfl, bthen HBW.out hbm⟩
    · have hs : sgn (k * (1000 * D) * d - n * N) = -1 := by
        have t2 : 0 ≤ n * N := Int.mul_nonneg hn (by omega)
        unfold sgn
        rw [if_pos (by omega)]
      rw [hs]
      clear hs t1 s1 s2 e1 e2
      go_enter Tryz.func107, Tryz.ntmps107
      go_wp2_with fail
      refine (HLL.out _).mono ?_
      rintro e w1 ⟨rfl, hb1⟩
      obtain ⟨hc1, hf1⟩ := bcell hb1
      have hbw := bafter (bafter (bafter hb1))
      go_wp2_with fail
      go_ret
      exact ⟨rfl, hbw⟩
  · subst hk
    have e0 : (0 : Int) * (1000 * D) * d - n * N = -(n * N) := by rw [Int.zero_mul, Int.zero_mul, Int.zero_sub]
    rw [e0]
    rcases Int.lt_trichotomy n 0 with hn | hn | hn
    · have t2 := s2 (-n) (by omega)
      have hs : sgn (-(n * N)) = 1 := by unfold sgn; rw [if_neg (by omega), if_pos (by omega)]
      rw [hs]
      clear hs t2 s1 s2 e1 e2 e0
      go_enter Tryz.func107, Tryz.ntmps107
      go_wp2_with fail
      refine (HLL.out _).mono ?_
      rintro e w1 ⟨rfl, hb1⟩
      obtain ⟨hc1, hf1⟩ := bcell hb1
      have hbw := bafter (bafter (bafter hb1))
      go_wp2_with fail
      go_ret
      exact ⟨rfl, hbw⟩
    · subst hn
      have hs : sgn (-((0 : Int) * N)) = 0 := by rw [Int.zero_mul]; rfl
      rw [hs]
      clear hs s1 s2 e1 e2 e0
      go_enter Tryz.func107, Tryz.ntmps107
      go_wp2_with fail
      refine (HLL.out _).mono ?_
      rintro e w1 ⟨rfl, hb1⟩
      obtain ⟨hc1, hf1⟩ := bcell hb1
      have hbw := bafter (bafter (bafter hb1))
      go_wp2_with fail
      go_ret
      exact ⟨rfl, hbw⟩
    · have t2 := s2 n (by omega)
      have hs : sgn (-(n * N)) = -1 := by unfold sgn; rw [if_pos (by omega)]
      rw [hs]
      clear hs t2 s1 s2 e1 e2 e0
      go_enter Tryz.func107, Tryz.ntmps107
      go_wp2_with fail
      refine (HLL.out _).mono ?_
      rintro e w1 ⟨rfl, hb1⟩
      obtain ⟨hc1, hf1⟩ := bcell hb1
      have hbw := bafter (bafter (bafter hb1))
      go_wp2_with fail
      go_ret
      exact ⟨rfl, hbw⟩
  · have t1 := s1 k hk
    rcases Int.lt_or_le 0 n with hn | hn
    · have t2 := s2 n hn
      have hX : 1000 * k * D * d = k * (1000 * D) * d := by ac_rfl
      have pb := mul_bd (show 0 ≤ 1000 * k by omega) (show 1000 * k ≤ 2097152000 by omega) (show 0 ≤ D by omega) D1
      have pc := mul_bd pb.1 pb.2 (Int.le_of_lt d0) d1
      have hs : sgn (k * (1000 * D) * d - n * N) = sgn (1000 * k * D * d - n * N) := by rw [hX]
      rw [hs]
      obtain ⟨m, hm⟩ : ∃ x, 1000 * k = x := ⟨_, rfl⟩
      rw [hm] at hs ⊢
      rw [hm] at pb pc
      have hwm : IntKind.i64.wrap (1000 * k) = m := by rw [hm]; exact IntWalk.i64_in _ (by omega)
      have K1 := Lib.hid (fun W => times_any n N W (by omega) (by omega) (by omega) (by omega))
      have K2 := Lib.hid (fun W => times_any m D W (by omega) (by omega) (by omega) (by omega))
      have K3 := Lib.hid (fun W => by_any (m * D) d W pb.1 (Int.le_of_lt d0) (by omega) (by omega))
      have K4 := Lib.hid (fun W => wcompare_any (m * D * d) (n * N) W)
      obtain ⟨r, hr⟩ : ∃ x, sgn (m * D * d - n * N) = x := ⟨_, rfl⟩
      rw [hr] at K4 ⊢
      clear hs hr t1 t2 hX pb pc s1 s2 e1 e2
      go_enter Tryz.func107, Tryz.ntmps107
      go_wp2_with fail
      refine (HLL.out _).mono ?_
      rintro e w1 ⟨rfl, hb1⟩
      obtain ⟨hc1, hf1⟩ := bcell hb1
      have hbw := bafter (bafter (bafter hb1))
      go_wp2_with fail
      have k1 : ∀ i : More w1, _ := fun i => more_call (K1.out i.x)
      have k2 : ∀ i : More w1, _ := fun i => more_call (K2.out i.x)
      have k3 : ∀ i : More w1, _ := fun i => more_call (K3.out i.x)
      have k4 : ∀ i : More w1, _ := fun i => more_call (K4.out i.x)
      have J1 := Lib.hid k1; clear k1
      have J2 := Lib.hid k2; clear k2
      have J3 := Lib.hid k3; clear k3
      have J4 := Lib.hid k4; clear k4
      have B3 := Bk.new1 (w.alloc (Obj.cells #[.int .i64 lk, .int .i64 ln, .int .i64 ld, .bool ls] 142)) (Obj.cells #[.int .i64 uk, .int .i64 un, .int .i64 ud, .bool us] 142) 41 [.int .i64 N, .int .i64 D]
      rw [World.size_alloc] at B3
      have z0 : ∀ i : More w1, i.x.cell? ⟨w.heap.size + 2, 0, none⟩ = some (.int .i64 N) := fun i => ((B3.below hb1).below i.h).cell 0
      have z1 : ∀ i : More w1, i.x.cell? ⟨w.heap.size + 2, 1, none⟩ = some (.int .i64 D) := fun i => ((B3.below hb1).below i.h).cell 1
      clear B3
      have hz1 := hb1.size
      simp only [World.size_alloc] at hz1
      have HBW := Lib.hid hbw
      clear hb1 hbw
      refine wp_region_more (by kernel_rfl) (by kernel_rfl) ?_
      iterate 8 (try (first | go_big_quiet_step ((with_reducible first | exact J1.out _ | exact J2.out _ | exact J3.out _ | exact J4.out _)) | quiet_step ((with_reducible first | exact J1.out _ | exact J2.out _ | exact J3.out _ | exact J4.out _))))
      iterate 8 (try (first | go_big_quiet_step ((with_reducible first | exact J1.out _ | exact J2.out _ | exact J3.out _ | exact J4.out _)) | quiet_step ((with_reducible first | exact J1.out _ | exact J2.out _ | exact J3.out _ | exact J4.out _))))
      iterate 8 (try (first | go_big_quiet_step ((with_reducible first | exact J1.out _ | exact J2.out _ | exact J3.out _ | exact J4.out _)) | quiet_step ((with_reducible first | exact J1.out _ | exact J2.out _ | exact J3.out _ | exact J4.out _))))
      iterate 8 (try (first | go_big_quiet_step ((with_reducible first | exact J1.out _ | exact J2.out _ | exact J3.out _ | exact J4.out _)) | quiet_step ((with_reducible first | exact J1.out _ | exact J2.out _ | exact J3.out _ | exact J4.out _))))
      iterate 8 (try (first | go_big_quiet_step ((with_reducible first | exact J1.out _ | exact J2.out _ | exact J3.out _ | exact J4.out _)) | quiet_step ((with_reducible first | exact J1.out _ | exact J2.out _ | exact J3.out _ | exact J4.out _))))
      refine wpQuiet_nil ?_
      rintro ⟨wm, hbm⟩
      try dsimp only
      go_wp2_with fail
      go_ret
      exact ⟨rfl, bthen HBW.out hbm⟩
    · have hs : sgn (k * (1000 * D) * d - n * N) = 1 := by
        have t2 : n * N ≤ 0 := Int.mul_nonpos_of_nonpos_of_nonneg hn (by omega)
        unfold sgn
        rw [if_neg (by omega), if_pos (by omega)]
      rw [hs]
      clear hs t1 s1 s2 e1 e2
      go_enter Tryz.func107, Tryz.ntmps107
      go_wp2_with fail
      refine (HLL.out _).mono ?_
      rintro e w1 ⟨rfl, hb1⟩
      obtain ⟨hc1, hf1⟩ := bcell hb1
      have hbw := bafter (bafter (bafter hb1))
      go_wp2_with fail
      go_ret
      exact ⟨rfl, hbw⟩
set_option maxRecDepth 100000 in
set_option maxHeartbeats 2000000 in
theorem first_any (F : Fl) (b : Nat) (vv vs pv : Value) (n : Int) (w : World) (hS : Sty w F b vv vs pv) (n0 : -1 ≤ n) (n1 : n < F.s.length) :
    Calls Tryz.prog 106 #[.pointer (some ⟨b, 0, none⟩), .int .i64 n] w fun e w' => e = .returned (lnV (knownL F n)) ∧ Below w.heap.size w w' := by
  have hz := Bk.new w 142 [.int .i64 0, .int .i64 0, .int .i64 0, .bool false]
  have hS1 := hS.alloc (Obj.cells #[.int .i64 0, .int .i64 0, .int .i64 0, .bool false] 142)
  have hlt := hS.k.lt
  by_cases hn : n = -1
  · subst hn
    have c1 := hS.k.cell 1
    have c2 := hS.k.cell 2
    simp only [styC, List.getElem?_cons_zero, List.getElem?_cons_succ] at c1 c2
    obtain ⟨⟨e1, e2⟩, e3, e4⟩ := end_in hS.o.f
    have hk : lnV (knownL F (-1)) = .agg #[.int .i64 0, .int .i64 (tmN F.v (endA F.f)), .int .i64 (tmD F.v (endA F.f)), .bool false] := rfl
    rw [hk]
    have HL := Lib.hid (levels_any F b vv vs pv F.f _ hS1 hS.o.f)
    have HT := Lib.hid (fun W hb => time_any F b vv vs pv (endA F.f) W (hS1.below hb) e1 (by omega))
    have HZ := Lib.hid hz
    obtain ⟨tn, htn⟩ : ∃ r, tmN F.v (endA F.f) = r := ⟨_, rfl⟩
    obtain ⟨td, htd⟩ : ∃ r, tmD F.v (endA F.f) = r := ⟨_, rfl⟩
    rw [htn, htd] at HT ⊢
    have hfl : ∀ W, Sem.run Tryz.prog (Instr.field 27 (.agg #[.int .i64 (endA F.f), .int .i64 (endB (hgt F.v) F.f)]) 0) W = .ok (.int .i64 (endA F.f)) W := fun _ => by kernel_rfl
    clear hk htn htd hS hS1 hz
    go_enter Tryz.func106, Tryz.ntmps106
    go_wp2_with fail
    refine HL.out.mono ?_
    rintro e w1 ⟨rfl, hb1⟩
    go_wp2_with fail
    refine (HT.out _ hb1).mono ?_
    rintro e w2 ⟨rfl, hb2⟩
    have hb := bthen hb1 hb2
    have h3 := HZ.out.below hb
    have HB := Lib.hid (bafter hb)
    clear hb1 hb2 hb
    go_wp2_with (refine st_at rfl (T := 142) rfl rfl (cs := [.int .i64 0, .int .i64 tn, .int .i64 td, .bool false]) rfl h3 (by kernel_rfl) rfl rfl ?_; intro wk hkk hsk)
    refine bodyPost_ret (results_cell_row rfl _ _ w.heap.size _ _ (0, 0) _ rfl hkk Tryz.underlying142 rfl (by kernel_rfl)) rfl ⟨rfl, ?_⟩
    exact bes_then HB.out hsk (by omega) HB.out.size
  · have hne : (n == -1) = false := by simpa using hn
    obtain ⟨k, rfl⟩ : ∃ k : Nat, n = (k : Int) := ⟨n.toNat, by omega⟩
    have hk : k < F.s.length := by omega
    have n24 := hS.o.n
    obtain ⟨os, cs, rfl, ms⟩ := hS.f.s.parts
    obtain ⟨bs, fs, rfl, hbs, hcs⟩ := hS.f.s.cells (by omega)
    have d1 := hcs k 0 hk (by omega)
    have d3 := hcs k 2 hk (by omega)
    have d4 := hcs k 3 hk (by omega)
    simp only [snF, Nat.add_zero] at d1 d3 d4
    have hso : okSn (hgt F.v) (snA F.s k) = true := hS.o.s _ (by rw [snA, List.getElem?_eq_getElem hk, Option.getD_some]; exact List.getElem_mem hk)
    have hkv : lnV (knownL F (k : Int)) = .agg #[.int .i64 (snA F.s k).lo, .int .i64 (tmN F.v (endA (snA F.s k).k)), .int .i64 (tmD F.v (endA (snA F.s k).k)), .bool false] := by
      unfold knownL
      rw [if_neg (by omega)]
      rfl
    rw [hkv]
    obtain ⟨s, hs⟩ : ∃ s, snA F.s k = s := ⟨_, rfl⟩
    rw [hs] at d1 d3 d4 hso ⊢
    have hlk : okLk (hgt F.v) s.k = true := by simp only [okSn, Bool.and_eq_true] at hso; exact hso.2
    obtain ⟨⟨e1, e2⟩, e3, e4⟩ := end_in hlk
    have c0 := hS.k.cell 5
    simp only [styC, List.getElem?_cons_zero, List.getElem?_cons_succ] at c0
    obtain ⟨W, hWW⟩ : ∃ W, w.alloc (Obj.cells #[.int .i64 0, .int .i64 0, .int .i64 0, .bool false] 142) = W := ⟨_, rfl⟩
    have hW := ballo w (Obj.cells #[.int .i64 0, .int .i64 0, .int .i64 0, .bool false] 142)
    rw [hWW] at hW hS1
    have hz : Bk W w.heap.size 142 [.int .i64 0, .int .i64 0, .int .i64 0, .bool false] := by rw [← hWW]; exact hz
    have K1 := Lib.hid (fun i : More W => more_call (levels_any F b _ _ pv s.k i.x (hS1.below i.h) hlk))
    have K2 := Lib.hid (fun i : More W => more_call (time_any F b _ _ pv (endA s.k) i.x (hS1.below i.h) e1 (by omega)))
    have v1 : ∀ i : More W, i.x.cell? ⟨bs, fs + k * 4, none⟩ = some (.int .i64 s.lo) := fun i => ((hW.trans (i.h.mono hW.size)).cell (p := ⟨bs, fs + k * 4, none⟩) hbs).trans d1
    have v3 : ∀ i : More W, i.x.cell? ⟨bs, fs + k * 4 + 2, none⟩ = some (.int .i64 s.k.lv) := fun i => ((hW.trans (i.h.mono hW.size)).cell (p := ⟨bs, fs + k * 4 + 2, none⟩) hbs).trans d3
    have v4 : ∀ i : More W, i.x.cell? ⟨bs, fs + k * 4 + 3, none⟩ = some (.int .i64 s.k.er) := fun i => ((hW.trans (i.h.mono hW.size)).cell (p := ⟨bs, fs + k * 4 + 3, none⟩) hbs).trans d4
    obtain ⟨tn, htn⟩ : ∃ r, tmN F.v (endA s.k) = r := ⟨_, rfl⟩
    obtain ⟨td, htd⟩ : ∃ r, tmD F.v (endA s.k) = r := ⟨_, rfl⟩
    obtain ⟨N, hN⟩ : ∃ n, F.s.length = n := ⟨_, rfl⟩
    rw [hN] at hk n24 c0 n1
    have v5 : ∀ i : More W, i.x.cell? ⟨b, 5, none⟩ = some (.slice (some ⟨bs, fs, none⟩) N cs) := fun i => ((hW.trans (i.h.mono hW.size)).cell (p := ⟨b, 5, none⟩) hlt).trans c0
    have hfl : ∀ W, Sem.run Tryz.prog (Instr.field 27 (.agg #[.int .i64 (endA s.k), .int .i64 (endB (hgt F.v) s.k)]) 0) W = .ok (.int .i64 (endA s.k)) W := fun _ => by kernel_rfl
    rw [htn, htd] at K2 ⊢
    have HW := Lib.hid hW
    have HZ := Lib.hid hz
    clear hkv htn htd hS1 d1 d3 d4 c0 hs hso hcs hN hW hz hS
    go_enter Tryz.func106, Tryz.ntmps106
    go_wp2_with fail
    try rw [hWW]
    clear hWW
    refine wp_head_more [0, 1, 2, 3, 4, 5, 6, 7, 8, 9, 10, 11, 12, 13, 14, 15, 16, 17, 18, 19, 20, 21, 22, 23, 24] [25] (by kernel_rfl) (by kernel_rfl) ?_
    simp only [hPick, List.getElem?_cons_zero, List.getElem?_cons_succ]
    iterate 8 (try (first | go_big_quiet_step ((with_reducible first | exact K1.out _ | exact K2.out _)) | quiet_step ((with_reducible first | exact K1.out _ | exact K2.out _))))
    iterate 8 (try (first | go_big_quiet_step ((with_reducible first | exact K1.out _ | exact K2.out _)) | quiet_step ((with_reducible first | exact K1.out _ | exact K2.out _))))
    iterate 8 (try (first | go_big_quiet_step ((with_reducible first | exact K1.out _ | exact K2.out _)) | quiet_step ((with_reducible first | exact K1.out _ | exact K2.out _))))
    iterate 8 (try (first | go_big_quiet_step ((with_reducible first | exact K1.out _ | exact K2.out _)) | quiet_step ((with_reducible first | exact K1.out _ | exact K2.out _))))
    iterate 8 (try (first | go_big_quiet_step ((with_reducible first | exact K1.out _ | exact K2.out _)) | quiet_step ((with_reducible first | exact K1.out _ | exact K2.out _))))
    refine wpQuiet_nil ?_
    rintro ⟨wm, hbm⟩
    try dsimp only
    have h3 := HZ.out.below hbm
    have HB := Lib.hid (bthen HW.out hbm)
    clear hbm K1 K2 v1 v3 v4 v5
    go_wp2_with (refine st_at rfl (T := 142) rfl rfl (cs := [.int .i64 s.lo, .int .i64 tn, .int .i64 td, .bool false]) rfl h3 (by kernel_rfl) rfl rfl ?_; intro wk hkk hsk)
    refine bodyPost_ret (results_cell_row rfl _ _ w.heap.size _ _ (0, 0) _ rfl hkk Tryz.underlying142 rfl (by kernel_rfl)) rfl ⟨rfl, ?_⟩
    exact bes_then HB.out hsk (by omega) HB.out.size
end Go.Proofs.YtnfndiafabhhdaaGreat
