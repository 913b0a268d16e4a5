/- Walks of wear's wide numbers, lowest terms, differences (Wear). -/
import Derived.Test.YtnfndiafabhhdaaGreatB1
import Derived.Test.YtnfndiafabhhdaaGreatShl
namespace Go.Proofs.YtnfndiafabhhdaaGreat
open Go.ChangeShapes Go.WideShapes Go.ChangeAt Go.RowKit
def hiW (x : Int) : Int := x / 18446744073709551616
def loW (x : Int) : Int := x % 18446744073709551616
theorem hi_lo (x : Int) : hiW x * 18446744073709551616 + loW x = x := by unfold hiW loW; omega
theorem lo_bd (x : Int) : 0 ≤ loW x ∧ loW x ≤ 18446744073709551615 := by unfold loW; omega
theorem hi_nn {x : Int} (h : 0 ≤ x) : 0 ≤ hiW x := by unfold hiW; omega
theorem mul64_any (a b : Int) (w : World) (a0 : 0 ≤ a) (a1 : a ≤ 18446744073709551615) (b0 : 0 ≤ b) (b1 : b ≤ 18446744073709551615) :
    Calls Tryz.prog 145 #[.int .u64 a, .int .u64 b] w fun e w' => e = .returned (.tuple #[.int .u64 (hiW (a * b)), .int .u64 (loW (a * b))]) ∧ w = w' := by
  obtain ⟨x, rfl⟩ : ∃ x : Nat, a = x := ⟨a.toNat, by omega⟩
  obtain ⟨y, rfl⟩ : ∃ x : Nat, b = x := ⟨b.toNat, by omega⟩
  refine (Go.Proofs.Tryz.bits_Mul64 x y (by omega) (by omega) w).mono ?_
  rintro e w' ⟨rfl, rfl⟩
  exact ⟨by simp [hiW, loW], rfl⟩
theorem times_any (a b : Int) (w : World) (a0 : 0 ≤ a) (a1 : a ≤ 9223372036854775807) (b0 : 0 ≤ b) (b1 : b ≤ 9223372036854775807) :
    Calls Tryz.prog 88 #[.int .i64 a, .int .i64 b] w fun e w' => e = .returned (.agg #[.int .u64 (hiW (a * b)), .int .u64 (loW (a * b))]) ∧ Below w.heap.size w w' := by
  obtain ⟨h, hh⟩ : ∃ x, hiW (a * b) = x := ⟨_, rfl⟩
  obtain ⟨l, hl⟩ : ∃ x, loW (a * b) = x := ⟨_, rfl⟩
  have HM := Lib.hid (fun w => mul64_any a b w a0 (by omega) b0 (by omega))
  rw [hh, hl] at HM ⊢
  clear hh hl
  go_enter Tryz.func88, Tryz.ntmps88
  go_wp2_with fail
  refine (HM.out _).mono ?_
  rintro e w1 ⟨rfl, rfl⟩
  go_wp2_with fail
  refine bodyPost_ret (v := .agg #[.int .u64 h, .int .u64 l]) (by simp [results, Tryz.results88, go_sem]) rfl ⟨rfl, ?_⟩
  exact belw
theorem cmp_eq {X Y : Int} : (hiW X = hiW Y ∧ loW X = loW Y) ↔ X = Y := by
  unfold hiW loW; omega
theorem wcompare_any (X Y : Int) (w : World) :
    Calls Tryz.prog 105 #[.agg #[.int .u64 (hiW X), .int .u64 (loW X)], .agg #[.int .u64 (hiW Y), .int .u64 (loW Y)]] w fun e w' => e = .returned (.int .i64 (sgn (X - Y))) ∧ Below w.heap.size w w' := by
  obtain ⟨a, ha⟩ : ∃ x, hiW X = x := ⟨_, rfl⟩
  obtain ⟨b, hb⟩ : ∃ x, loW X = x := ⟨_, rfl⟩
  obtain ⟨c, hc⟩ : ∃ x, hiW Y = x := ⟨_, rfl⟩
  obtain ⟨d, hd⟩ : ∃ x, loW Y = x := ⟨_, rfl⟩
  have hs : sgn (X - Y) = if a = c ∧ b = d then 0 else if a < c ∨ a = c ∧ b < d then -1 else 1 := by
    subst ha hb hc hd
    unfold sgn hiW loW
    repeat' split
    all_goals omega
  rw [ha, hb, hc, hd, hs]
  clear ha hb hc hd hs
  by_cases h1 : a = c
  · subst h1
    by_cases h2 : b = d
    · subst h2
      rw [if_pos ⟨rfl, rfl⟩]
      go_enter Tryz.func105, Tryz.ntmps105
      go_wp2
      all_goals
        go_ret
        exact ⟨rfl, belw⟩
    · rw [if_neg (by omega)]
      by_cases h3 : b < d
      · rw [if_pos (by omega)]
        go_enter Tryz.func105, Tryz.ntmps105
        go_wp2
        all_goals
          go_ret
          exact ⟨rfl, belw⟩
      · rw [if_neg (by omega)]
        go_enter Tryz.func105, Tryz.ntmps105
        go_wp2
        all_goals
          go_ret
          exact ⟨rfl, belw⟩
  · rw [if_neg (by omega)]
    have hne : (a == c) = false := by simpa using h1
    by_cases h3 : a < c
    · rw [if_pos (by omega)]
      go_enter Tryz.func105, Tryz.ntmps105
      go_wp2
      all_goals
        go_ret
        exact ⟨rfl, belw⟩
    · rw [if_neg (by omega)]
      go_enter Tryz.func105, Tryz.ntmps105
      go_wp2
      all_goals
        go_ret
        exact ⟨rfl, belw⟩
theorem gcdW_zero (a : Int) (h : 0 ≤ a) : gcdW a 0 = a := by simp only [gcdW, Int.toNat_zero, Nat.gcd_zero_right]; omega
theorem gcdW_step (a b : Int) (ha : 0 ≤ a) (hb : 0 < b) : gcdW b (a % b) = gcdW a b := by
  unfold gcdW
  rw [Int.toNat_emod ha (by omega), Nat.gcd_comm b.toNat, ← Nat.gcd_rec, Nat.gcd_comm]
set_option maxHeartbeats 400000 in
theorem wlowest_any (n d : Int) (w : World) (hn : 0 ≤ n) (hn' : n ≤ 4611686018427387904) (hd : 0 < d) (hd' : d ≤ 4611686018427387904) : Calls Tryz.prog 152 #[.int .i64 n, .int .i64 d] w fun e w' => e = .returned (.agg #[.int .i64 (lowN1 n d), .int .i64 (lowN2 n d)]) ∧ Below w.heap.size w w' := by
  go_enter Tryz.func152, Tryz.ntmps152
  go_wp2
  go_loopw [5, 6] (fun a b wr => ∃ (x y : Int) (k : Nat), 0 ≤ x ∧ 0 ≤ y ∧ x ≤ 4611686018427387904 ∧ y ≤ 4611686018427387904 ∧ 0 < x + y ∧ a = .int .i64 x ∧ b = .int .i64 y ∧ gcdW x y = gcdW n d ∧ wr = (w.alloc (Obj.cells #[Value.int IntKind.i64 0, Value.int IntKind.i64 0] 41)).drewN k) (fun _ b _ => (intOf b).toNat)
  case atStart => exact ⟨n, d, 0, by omega, by omega, by omega, by omega, by omega, rfl, rfl, rfl, rfl⟩
  case round =>
    obtain ⟨x, y, k, hx, hy, hx', hy', hxy, rfl, rfl, hg, rfl⟩ := hrel
    have HG := Lib.hid hg; clear hg
    by_cases h : y = 0
    · subst h
      go_wp2
      go_region
      go_wp2
      refine bodyPost_ret (v := .agg #[.int .i64 (lowN1 n d), .int .i64 (lowN2 n d)]) ?_ rfl ⟨rfl, ?_⟩
      · have e : gcdW n d = x := by rw [← HG.out, gcdW_zero x hx]
        simp [results, Tryz.results152, go_sem, lowN1, lowN2, e]
      · exact (((below_drewN ((Below.refl _ _).alloc (Nat.le_refl _) _) _).setCell (by simp) _).setCell (by simp) _)
    · have hb : (y == 0) = false := by simpa using h
      go_wp2
      go_quiet (fail)
      go_wp2
      have h1 := Int.emod_nonneg x h
      have h2 := Int.emod_lt_of_pos x (b := y) (by omega)
      exact ⟨⟨y, x % y, k + nq, by omega, by omega, by omega, by omega, by omega, rfl, rfl, (gcdW_step x y hx (by omega)).trans HG.out, by rw [World.drewN_drewN]⟩, by simp [intOf]; omega⟩
set_option maxHeartbeats 400000 in
theorem cvlowest_any (n d : Int) (w : World) (hn : 0 ≤ n) (hn' : n ≤ 4611686018427387904) (hd : 0 < d) (hd' : d ≤ 4611686018427387904) : Calls Tryz.prog 187 #[.int .i64 n, .int .i64 d] w fun e w' => e = .returned (.agg #[.int .i64 (lowN1 n d), .int .i64 (lowN2 n d)]) ∧ Below w.heap.size w w' := by
  go_enter Tryz.func187, Tryz.ntmps187
  go_wp2
  go_loopw [5, 6] (fun a b wr => ∃ (x y : Int) (k : Nat), 0 ≤ x ∧ 0 ≤ y ∧ x ≤ 4611686018427387904 ∧ y ≤ 4611686018427387904 ∧ 0 < x + y ∧ a = .int .i64 x ∧ b = .int .i64 y ∧ gcdW x y = gcdW n d ∧ wr = (w.alloc (Obj.cells #[Value.int IntKind.i64 0, Value.int IntKind.i64 0] 41)).drewN k) (fun _ b _ => (intOf b).toNat)
  case atStart => exact ⟨n, d, 0, by omega, by omega, by omega, by omega, by omega, rfl, rfl, rfl, rfl⟩
  case round =>
    obtain ⟨x, y, k, hx, hy, hx', hy', hxy, rfl, rfl, hg, rfl⟩ := hrel
    have HG := Lib.hid hg; clear hg
    by_cases h : y = 0
    · subst h
      go_wp2
      go_region
      go_wp2
      refine bodyPost_ret (v := .agg #[.int .i64 (lowN1 n d), .int .i64 (lowN2 n d)]) ?_ rfl ⟨rfl, ?_⟩
      · have e : gcdW n d = x := by rw [← HG.out, gcdW_zero x hx]
        simp [results, Tryz.results187, go_sem, lowN1, lowN2, e]
      · exact (((below_drewN ((Below.refl _ _).alloc (Nat.le_refl _) _) _).setCell (by simp) _).setCell (by simp) _)
    · have hb : (y == 0) = false := by simpa using h
      go_wp2
      go_quiet (fail)
      go_wp2
      have h1 := Int.emod_nonneg x h
      have h2 := Int.emod_lt_of_pos x (b := y) (by omega)
      exact ⟨⟨y, x % y, k + nq, by omega, by omega, by omega, by omega, by omega, rfl, rfl, (gcdW_step x y hx (by omega)).trans HG.out, by rw [World.drewN_drewN]⟩, by simp [intOf]; omega⟩
set_option maxHeartbeats 400000 in
theorem r3lowest_any (n d : Int) (w : World) (hn : 0 ≤ n) (hn' : n ≤ 4611686018427387904) (hd : 0 < d) (hd' : d ≤ 4611686018427387904) : Calls Tryz.prog 168 #[.int .i64 n, .int .i64 d] w fun e w' => e = .returned (.agg #[.int .i64 (lowN1 n d), .int .i64 (lowN2 n d)]) ∧ Below w.heap.size w w' := by
  go_enter Tryz.func168, Tryz.ntmps168
  go_wp2
  go_loopw [5, 6] (fun a b wr => ∃ (x y : Int) (k : Nat), 0 ≤ x ∧ 0 ≤ y ∧ x ≤ 4611686018427387904 ∧ y ≤ 4611686018427387904 ∧ 0 < x + y ∧ a = .int .i64 x ∧ b = .int .i64 y ∧ gcdW x y = gcdW n d ∧ wr = (w.alloc (Obj.cells #[Value.int IntKind.i64 0, Value.int IntKind.i64 0] 41)).drewN k) (fun _ b _ => (intOf b).toNat)
  case atStart => exact ⟨n, d, 0, by omega, by omega, by omega, by omega, by omega, rfl, rfl, rfl, rfl⟩
  case round =>
    obtain ⟨x, y, k, hx, hy, hx', hy', hxy, rfl, rfl, hg, rfl⟩ := hrel
    have HG := Lib.hid hg; clear hg
    by_cases h : y = 0
    · subst h
      go_wp2
      go_region
      go_wp2
      refine bodyPost_ret (v := .agg #[.int .i64 (lowN1 n d), .int .i64 (lowN2 n d)]) ?_ rfl ⟨rfl, ?_⟩
      · have e : gcdW n d = x := by rw [← HG.out, gcdW_zero x hx]
        simp [results, Tryz.results168, go_sem, lowN1, lowN2, e]
      · exact (((below_drewN ((Below.refl _ _).alloc (Nat.le_refl _) _) _).setCell (by simp) _).setCell (by simp) _)
    · have hb : (y == 0) = false := by simpa using h
      go_wp2
      go_quiet (fail)
      go_wp2
      have h1 := Int.emod_nonneg x h
      have h2 := Int.emod_lt_of_pos x (b := y) (by omega)
      exact ⟨⟨y, x % y, k + nq, by omega, by omega, by omega, by omega, by omega, rfl, rfl, (gcdW_step x y hx (by omega)).trans HG.out, by rw [World.drewN_drewN]⟩, by simp [intOf]; omega⟩
set_option maxHeartbeats 400000 in
theorem r1lowest_any (n d : Int) (w : World) (hn : 0 ≤ n) (hn' : n ≤ 4611686018427387904) (hd : 0 < d) (hd' : d ≤ 4611686018427387904) : Calls Tryz.prog 193 #[.int .i64 n, .int .i64 d] w fun e w' => e = .returned (.agg #[.int .i64 (lowN1 n d), .int .i64 (lowN2 n d)]) ∧ Below w.heap.size w w' := by
  go_enter Tryz.func193, Tryz.ntmps193
  go_wp2
  go_loopw [5, 6, 7] (fun a b _ wr => ∃ (x y : Int) (k : Nat), 0 ≤ x ∧ 0 ≤ y ∧ x ≤ 4611686018427387904 ∧ y ≤ 4611686018427387904 ∧ 0 < x + y ∧ a = .int .i64 x ∧ b = .int .i64 y ∧ gcdW x y = gcdW n d ∧ wr = (w.alloc (Obj.cells #[Value.int IntKind.i64 0, Value.int IntKind.i64 0] 41)).drewN k) (fun _ b _ _ => (intOf b).toNat)
  case atStart => exact ⟨n, d, 0, by omega, by omega, by omega, by omega, by omega, rfl, rfl, rfl, rfl⟩
  case round =>
    obtain ⟨x, y, k, hx, hy, hx', hy', hxy, rfl, rfl, hg, rfl⟩ := hrel
    have HG := Lib.hid hg; clear hg
    by_cases h : y = 0
    · subst h
      go_wp2
      go_region
      go_wp2
      refine bodyPost_ret (v := .agg #[.int .i64 (lowN1 n d), .int .i64 (lowN2 n d)]) ?_ rfl ⟨rfl, ?_⟩
      · have e : gcdW n d = x := by rw [← HG.out, gcdW_zero x hx]
        simp [results, Tryz.results193, go_sem, lowN1, lowN2, e]
      · exact (((below_drewN ((Below.refl _ _).alloc (Nat.le_refl _) _) _).setCell (by simp) _).setCell (by simp) _)
    · have hb : (y == 0) = false := by simpa using h
      go_wp2
      have h1 := Int.emod_nonneg x h
      have h2 := Int.emod_lt_of_pos x (b := y) (by omega)
      exact ⟨⟨y, x % y, k, by omega, by omega, by omega, by omega, by omega, rfl, rfl, (gcdW_step x y hx (by omega)).trans HG.out, rfl⟩, by simp [intOf]; omega⟩
theorem wless_any (a b c d : Int) (w : World) (ha : -1000000000000000000 ≤ a * d ∧ a * d ≤ 1000000000000000000) (hc : -1000000000000000000 ≤ c * b ∧ c * b ≤ 1000000000000000000) (hd : -1000000000000000000 ≤ b * d ∧ b * d ≤ 1000000000000000000) :
    Calls Tryz.prog 86 #[.agg #[.int .i64 a, .int .i64 b], .agg #[.int .i64 c, .int .i64 d]] w fun e w' => e = .returned (.tuple #[.int .i64 (a * d - c * b), .int .i64 (b * d)]) ∧ Below w.heap.size w w' := by
  obtain ⟨h1, h2⟩ := ha
  obtain ⟨h3, h4⟩ := hc
  obtain ⟨h5, h6⟩ := hd
  go_enter Tryz.func86, Tryz.ntmps86
  go_wp2
  go_quiet (fail)
  go_wp2
  go_ret2
  exact ⟨ret_two rfl rfl, belw⟩
abbrev clV (ax ay bx by_ : Int) : Value := .agg #[.int .i64 ax, .int .i64 ay, .int .i64 bx, .int .i64 by_]
abbrev clO (ax ay bx by_ : Int) : Obj := Obj.cells #[.int .i64 ax, .int .i64 ay, .int .i64 bx, .int .i64 by_] 221
theorem wide_any (ax ay bx by_ : Int) (w : World) (h : -1000000000 ≤ bx - ax) (h' : bx - ax ≤ 1000000000) : Calls Tryz.prog 188 #[clV ax ay bx by_] w fun e w' => e = .returned (.int .i64 (bx - ax)) ∧ Below w.heap.size w w' := by
  go_enter Tryz.func188, Tryz.ntmps188
  go_wp2
  go_ret
  exact ⟨rfl, belw⟩
theorem high_any (ax ay bx by_ : Int) (w : World) (h : -1000000000 ≤ by_ - ay) (h' : by_ - ay ≤ 1000000000) : Calls Tryz.prog 198 #[clV ax ay bx by_] w fun e w' => e = .returned (.int .i64 (by_ - ay)) ∧ Below w.heap.size w w' := by
  go_enter Tryz.func198, Tryz.ntmps198
  go_wp2
  go_ret
  exact ⟨rfl, belw⟩
theorem has_any (ax ay bx by_ x : Int) (w : World) : Calls Tryz.prog 197 #[clV ax ay bx by_, .int .i64 x] w fun e w' => e = .returned (.bool (inB x ax bx)) ∧ Below w.heap.size w w' := by
  go_enter Tryz.func197, Tryz.ntmps197
  go_wp2
  all_goals
    go_ret
    exact ⟨ret_bool (by rw [Bool.eq_iff_iff]; simp [inB]; omega), belw⟩
theorem over_any (ax ay bx by_ x : Int) (w : World) (h : -1000000000 ≤ by_ - ay) (h' : by_ - ay ≤ 1000000000) (k : -1000000000 ≤ x - ax) (k' : x - ax ≤ 1000000000) (m : -1000000000000000000 ≤ (x - ax) * (by_ - ay) ∧ (x - ax) * (by_ - ay) ≤ 1000000000000000000) :
    Calls Tryz.prog 189 #[clV ax ay bx by_, .int .i64 x] w fun e w' => e = .returned (.int .i64 ((x - ax) * (by_ - ay))) ∧ Below w.heap.size w w' := by
  have k1 : ∀ i : More (w.alloc (clO ax ay bx by_)), _ := fun i => more_call (high_any ax ay bx by_ i.x h h')
  have mc := @more_cell (w.alloc (clO ax ay bx by_))
  obtain ⟨A, hA⟩ : ∃ A, x - ax = A := ⟨_, rfl⟩
  obtain ⟨B, hB⟩ : ∃ B, by_ - ay = B := ⟨_, rfl⟩
  simp only [hB] at k1
  rw [hA, hB] at m
  obtain ⟨m1, m2⟩ := m
  have K1 := Lib.hid k1; clear k1
  rw [hA, hB]
  go_enter Tryz.func189, Tryz.ntmps189
  go_wp2_with fail
  refine wp_region_more (by kernel_rfl) (by kernel_rfl) ?_
  iterate 8 (try (first | go_big_quiet_step ((with_reducible first | exact K1.out _)) | quiet_step ((with_reducible first | exact K1.out _))))
  iterate 8 (try (first | go_big_quiet_step ((with_reducible first | exact K1.out _)) | quiet_step ((with_reducible first | exact K1.out _))))
  iterate 8 (try (first | go_big_quiet_step ((with_reducible first | exact K1.out _)) | quiet_step ((with_reducible first | exact K1.out _))))
  iterate 8 (try (first | go_big_quiet_step ((with_reducible first | exact K1.out _)) | quiet_step ((with_reducible first | exact K1.out _))))
  iterate 8 (try (first | go_big_quiet_step ((with_reducible first | exact K1.out _)) | quiet_step ((with_reducible first | exact K1.out _))))
  refine wpQuiet_nil ?_
  rintro ⟨wm, hbm⟩
  try dsimp only
  go_wp2_with fail
  go_ret
  exact ⟨rfl, bafter hbm⟩
theorem lexact_any (ax ay bx by_ x : Int) (w : World) (h : -1000000000 ≤ by_ - ay) (h' : by_ - ay ≤ 1000000000) (k : -1000000000 ≤ x - ax) (k' : x - ax ≤ 1000000000) (m : -1000000000000000000 ≤ (x - ax) * (by_ - ay) ∧ (x - ax) * (by_ - ay) ≤ 1000000000000000000)
    (q : 0 < bx - ax) (q' : bx - ax ≤ 1000000000) (a : 0 ≤ ay * (bx - ax)) (a' : ay * (bx - ax) ≤ 1000000000000000000) (s : 0 ≤ ay * (bx - ax) + (x - ax) * (by_ - ay)) :
    Calls Tryz.prog 173 #[clV ax ay bx by_, .int .i64 x] w fun e w' => e = .returned (.agg #[.int .i64 (lowN1 (ay * (bx - ax) + (x - ax) * (by_ - ay)) (bx - ax)), .int .i64 (lowN2 (ay * (bx - ax) + (x - ax) * (by_ - ay)) (bx - ax))]) ∧ Below w.heap.size w w' := by
  have k1 : ∀ i : More ((w.alloc (clO ax ay bx by_)).alloc (Obj.cells #[.int .i64 0, .int .i64 0] 41)), _ := fun i => more_call (wide_any ax ay bx by_ i.x (by omega) (by omega))
  have k2 : ∀ i : More ((w.alloc (clO ax ay bx by_)).alloc (Obj.cells #[.int .i64 0, .int .i64 0] 41)), _ := fun i => more_call (over_any ax ay bx by_ x i.x h h' k k' m)
  have k3 : ∀ i : More ((w.alloc (clO ax ay bx by_)).alloc (Obj.cells #[.int .i64 0, .int .i64 0] 41)), _ := fun i => more_call (cvlowest_any (ay * (bx - ax) + (x - ax) * (by_ - ay)) (bx - ax) i.x s (by omega) q (by omega))
  have mc := @more_cell ((w.alloc (clO ax ay bx by_)).alloc (Obj.cells #[.int .i64 0, .int .i64 0] 41))
  obtain ⟨A, hA⟩ : ∃ A, (x - ax) * (by_ - ay) = A := ⟨_, rfl⟩
  obtain ⟨B, hB⟩ : ∃ B, bx - ax = B := ⟨_, rfl⟩
  simp only [hA, hB] at k1 k2 k3 m q q' a a' s ⊢
  obtain ⟨C, hC⟩ : ∃ C, ay * B = C := ⟨_, rfl⟩
  simp only [hC] at k3 a a' s ⊢
  obtain ⟨D, hD⟩ : ∃ D, C + A = D := ⟨_, rfl⟩
  simp only [hD] at k3 s ⊢
  obtain ⟨m1, m2⟩ := m
  obtain ⟨r1, hr1⟩ : ∃ r, lowN1 D B = r := ⟨_, rfl⟩
  obtain ⟨r2, hr2⟩ : ∃ r, lowN2 D B = r := ⟨_, rfl⟩
  simp only [hr1, hr2] at k3 ⊢
  have hw1 : IntKind.i64.wrap (ay * B) = C := by rw [hC]; exact IntWalk.i64_in _ (by omega)
  have hw2 : IntKind.i64.wrap (C + A) = D := by rw [hD]; exact IntWalk.i64_in _ (by omega)
  have K1 := Lib.hid k1; clear k1
  have K2 := Lib.hid k2; clear k2
  have K3 := Lib.hid k3; clear k3
  clear hA hB hr1 hr2
  go_enter Tryz.func173, Tryz.ntmps173
  go_wp2_with fail
  refine wp_head_more [0, 1, 2, 3, 4, 5, 6, 7, 8, 9, 10, 11, 12] [13] (by kernel_rfl) (by kernel_rfl) ?_
  simp only [hPick, List.getElem?_cons_zero, List.getElem?_cons_succ]
  iterate 8 (try (first | go_big_quiet_step ((with_reducible first | exact K1.out _ | exact K2.out _ | exact K3.out _)) | quiet_step ((with_reducible first | exact K1.out _ | exact K2.out _ | exact K3.out _))))
  iterate 8 (try (first | go_big_quiet_step ((with_reducible first | exact K1.out _ | exact K2.out _ | exact K3.out _)) | quiet_step ((with_reducible first | exact K1.out _ | exact K2.out _ | exact K3.out _))))
  iterate 8 (try (first | go_big_quiet_step ((with_reducible first | exact K1.out _ | exact K2.out _ | exact K3.out _)) | quiet_step ((with_reducible first | exact K1.out _ | exact K2.out _ | exact K3.out _))))
  iterate 8 (try (first | go_big_quiet_step ((with_reducible first | exact K1.out _ | exact K2.out _ | exact K3.out _)) | quiet_step ((with_reducible first | exact K1.out _ | exact K2.out _ | exact K3.out _))))
  iterate 8 (try (first | go_big_quiet_step ((with_reducible first | exact K1.out _ | exact K2.out _ | exact K3.out _)) | quiet_step ((with_reducible first | exact K1.out _ | exact K2.out _ | exact K3.out _))))
  refine wpQuiet_nil ?_
  rintro ⟨wm, hbm⟩
  try dsimp only
  obtain ⟨hcm, hfm⟩ := bcell hbm
  go_wp2_with fail
  refine bodyPost_ret (v := .agg #[.int .i64 r1, .int .i64 r2]) (by simp [results, Tryz.results173, go_sem, hcm]) rfl ⟨rfl, ?_⟩
  exact belw
end Go.Proofs.YtnfndiafabhhdaaGreat
