/- What Sinks says of levels adds up, to within a minute (WearApart): the walk. -/
import Derived.Test.YtnfndiafabhhdaaGreatVLc
namespace Go.Proofs.YtnfndiafabhhdaaGreat
open Go.ChangeShapes Go.WideShapes Go.ChangeAt Go.RowKit

/-- What Sinks answers: two ends and an error. -/
def skA (F : Fl) (x y : Int) : Int := if rdE F (skR F x y) = 0 then skLo F (knR F).hi x y else 0
def skB (F : Fl) (x y : Int) : Int := if rdE F (skR F x y) = 0 then skHi F (knR F).lo x y else 0
theorem Sinks_c (F : Fl) (vv vs : Value) (x y a b e : Int) (w : World) (hF : FlIn w F vv vs) (ha : skA F x y = a) (hb : skB F x y = b) (he : rdE F (skR F x y) = e) :
    Calls Tryz.prog 26 #[flV F vv vs, .int .i64 x, .int .i64 y] w fun e' w' => e' = .returned (.tuple #[.agg #[.int .i64 a, .int .i64 b], .int .i64 e]) ∧ Below w.heap.size w w' := by
  have h := Sinks_any F vv vs x y w hF
  subst ha hb he
  unfold skV at h
  unfold skA skB
  by_cases h0 : rdE F (skR F x y) = 0
  · rw [if_pos h0, h0] at *
    simpa using h
  · rw [if_neg h0] at *
    simpa [h0] using h
theorem sk_bd {F : Fl} (h : OkF F) {b : Bd} (bn : 0 < b.n) (bd : 0 < b.d) (q : b.d ≤ 4 * b.n) {x y : Int} (y0 : 0 ≤ y) (yx : y ≤ x) (xn : x ≤ hgt F.v) :
    (0 ≤ skLo F b x y ∧ skLo F b x y ≤ 1920000000000) ∧ (0 ≤ skHi F b x y ∧ skHi F b x y ≤ 1920000000001) := by
  have D1 := tm_bd h.v (show 0 ≤ x by omega) xn
  have D2 := tm_bd h.v y0 (show y ≤ vX F.v F.v.length by unfold hgt at xn; omega)
  have L := tm_le h.v y0 yx xn
  have n0 : 0 ≤ skN F x y := by unfold skN; omega
  have m1 := mul_bd D1.1.1 D1.1.2 (Int.le_of_lt D2.2.1) D2.2.2
  have m2 := mul_bd D2.1.1 D2.1.2 (Int.le_of_lt D1.2.1) D1.2.2
  have n1 : skN F x y ≤ 480000000000 := by unfold skN; omega
  have d0 : 0 < skD F x y := Int.mul_pos D1.2.1 D2.2.1
  have e0 : 0 < skD F x y * b.n := Int.mul_pos d0 bn
  have e1 : b.n ≤ skD F x y * b.n := by
    have := Int.mul_le_mul_of_nonneg_right (show (1 : Int) ≤ skD F x y by omega) (Int.le_of_lt bn)
    omega
  have e2 : 0 ≤ skN F x y * b.d := Int.mul_nonneg n0 (Int.le_of_lt bd)
  have e3 : skN F x y * b.d ≤ 1920000000000 * (skD F x y * b.n) := by
    have h1 := Int.mul_le_mul_of_nonneg_right n1 (Int.le_of_lt bd)
    have h2 : 480000000000 * b.d ≤ 1920000000000 * b.n := by omega
    have h3 : 1920000000000 * b.n ≤ 1920000000000 * (skD F x y * b.n) := by omega
    omega
  have k0 : 0 ≤ skN F x y * b.d / (skD F x y * b.n) := Int.ediv_nonneg e2 (Int.le_of_lt e0)
  have k1 : skN F x y * b.d / (skD F x y * b.n) ≤ 1920000000000 := by
    have := Int.ediv_le_ediv e0 e3
    rwa [Int.mul_ediv_cancel _ (by omega)] at this
  unfold skLo skHi
  refine ⟨⟨k0, k1⟩, ?_⟩
  split <;> omega
set_option maxRecDepth 100000 in
set_option maxHeartbeats 4000000 in
theorem law_apart (F : Fl) (vv vs : Value) (a b c : Int) (w : World) (hF : FlIn w F vv vs) (_ : -9223372036854775808 ≤ a) (_ : a ≤ 9223372036854775807) (_ : -9223372036854775808 ≤ b) (_ : b ≤ 9223372036854775807) (_ : -9223372036854775808 ≤ c) (_ : c ≤ 9223372036854775807) : Calls Tryz.prog 9 #[flV F vv vs, .int .i64 a, .int .i64 b, .int .i64 c] w fun e w' => e = .returned (.bool true) ∧ Below w.heap.size w w' := by
  obtain ⟨os, cs, rfl, ms⟩ := hF.s.parts
  obtain ⟨ov, cv, rfl, mv⟩ := hF.v.parts
  obtain ⟨sl, hsl⟩ : ∃ k, F.s.length = k := ⟨_, rfl⟩
  obtain ⟨vl, hvl⟩ : ∃ k, F.v.length = k := ⟨_, rfl⟩
  rw [hsl] at hF ms ⊢
  rw [hvl] at hF mv ⊢
  have HSL := Lib.hid hsl
  have HVL := Lib.hid hvl
  clear hsl hvl
  have HF := Lib.hid (hF.alloc (flO F (.slice ov vl cv) (.slice os sl cs)))
  have BP := Lib.hid (Bk.new w 30 (flL F (.slice ov vl cv) (.slice os sl cs)))
  clear hF
  go_enter Tryz.func9, Tryz.ntmps9
  go_wp2_with fail
  refine (sane_any _).mono ?_
  rintro e w1 ⟨rfl, hb⟩
  have HF1 := Lib.hid (HF.out.below hb)
  have BP1 := Lib.hid (BP.out.below hb)
  have HB1 := Lib.hid (bafter hb)
  clear hb HF BP
  go_wp2_with (first | (refine ld_at rfl (T := 30) rfl rfl BP1.out Tryz.underlying30 rfl (by kernel_rfl) ?_) | fail)
  by_cases hok : okFl F = true
  · have hO := (okFl_iff F).1 hok
    refine (Check_c F _ _ 0 w1 HF1.out (by unfold chkF; rw [if_pos hok])).mono ?_
    rintro e w2 ⟨rfl, hb⟩
    have HF2 := Lib.hid (HF1.out.below hb)
    have BP2 := Lib.hid (BP1.out.below hb)
    have HB2 := Lib.hid (bthen HB1.out hb)
    clear HF1 BP1 HB1
    clear hb
    by_cases ab : a < b
    · go_wp2_with fail
      go_ret
      exact ⟨rfl, HB2.out⟩
    by_cases bc : b < c
    · go_wp2_with fail
      go_ret
      exact ⟨rfl, HB2.out⟩
    obtain ⟨xL, hxL⟩ : ∃ k, skA F a b = k := ⟨_, rfl⟩
    obtain ⟨xH, hxH⟩ : ∃ k, skB F a b = k := ⟨_, rfl⟩
    obtain ⟨x1, hx1⟩ : ∃ k, rdE F (skR F a b) = k := ⟨_, rfl⟩
    obtain ⟨yL, hyL⟩ : ∃ k, skA F b c = k := ⟨_, rfl⟩
    obtain ⟨yH, hyH⟩ : ∃ k, skB F b c = k := ⟨_, rfl⟩
    obtain ⟨y1, hy1⟩ : ∃ k, rdE F (skR F b c) = k := ⟨_, rfl⟩
    obtain ⟨zL, hzL⟩ : ∃ k, skA F a c = k := ⟨_, rfl⟩
    obtain ⟨zH, hzH⟩ : ∃ k, skB F a c = k := ⟨_, rfl⟩
    obtain ⟨z1, hz1⟩ : ∃ k, rdE F (skR F a c) = k := ⟨_, rfl⟩
    have HXL := Lib.hid hxL
    have HXH := Lib.hid hxH
    have HX1 := Lib.hid hx1
    have HYL := Lib.hid hyL
    have HYH := Lib.hid hyH
    have HY1 := Lib.hid hy1
    have HZL := Lib.hid hzL
    have HZH := Lib.hid hzH
    have HZ1 := Lib.hid hz1
    by_cases hP : 0 ≤ c ∧ a ≤ hgt F.v
    · have r1 : skR F a b = true := by unfold skR inB; simp; omega
      have r2 : skR F b c = true := by unfold skR inB; simp; omega
      have r3 : skR F a c = true := by unfold skR inB; simp; omega
      cases hc : canI F (allL F) with
      | true =>
        have e0 := rdE_0 hok (show true = true from rfl) hc
        rw [r1, e0] at hx1
        rw [r2, e0] at hy1
        rw [r3, e0] at hz1
        subst hx1 hy1 hz1
        unfold skA at hxL hyL hzL
        unfold skB at hxH hyH hzH
        rw [r1, if_pos e0] at hxL hxH
        rw [r2, if_pos e0] at hyL hyH
        rw [r3, if_pos e0] at hzL hzH
        obtain ⟨Q1, Q2⟩ := kn_quarter hO hc
        have B := knR_B hO
        have s1 := (sk_add hO B.c0 (x := a) (y := b) (z := c) (by omega) (by omega) (by omega)).1
        have s2 := (sk_add hO B.a0 (x := a) (y := b) (z := c) (by omega) (by omega) (by omega)).2
        have t1 := (sk_bd hO B.c0 B.d0 Q2 (x := a) (y := b) (by omega) (by omega) (by omega)).1
        have t2 := (sk_bd hO B.a0 B.b0 Q1 (x := a) (y := b) (by omega) (by omega) (by omega)).2
        have t3 := (sk_bd hO B.c0 B.d0 Q2 (x := b) (y := c) (by omega) (by omega) (by omega)).1
        have t4 := (sk_bd hO B.a0 B.b0 Q1 (x := b) (y := c) (by omega) (by omega) (by omega)).2
        have t5 := (sk_bd hO B.c0 B.d0 Q2 (x := a) (y := c) (by omega) (by omega) (by omega)).1
        have t6 := (sk_bd hO B.a0 B.b0 Q1 (x := a) (y := c) (by omega) (by omega) (by omega)).2
        have u : a = b → xL = 0 ∧ xH = 0 := by
          intro h
          subst h
          rw [← hxL, ← hxH]
          exact ⟨(sk_same F _ a).1, (sk_same F _ a).2⟩
        rw [hxL, hyL, hzL] at s1
        rw [hxH, hyH, hzH] at s2
        rw [hxL] at t1
        rw [hxH] at t2
        rw [hyL] at t3
        rw [hyH] at t4
        rw [hzL] at t5
        rw [hzH] at t6
        obtain ⟨t11, t12⟩ := t1
        obtain ⟨t21, t22⟩ := t2
        obtain ⟨t31, t32⟩ := t3
        obtain ⟨t41, t42⟩ := t4
        obtain ⟨t51, t52⟩ := t5
        obtain ⟨t61, t62⟩ := t6
        obtain ⟨s11, s12⟩ := s1
        obtain ⟨s21, s22⟩ := s2
        clear hxL hxH hyL hyH hzL hzH e0 Q1 Q2 B r1 r2 r3 hc hO hok hP
        go_wp2_with (first | (refine ld_at rfl (T := 30) rfl rfl BP2.out Tryz.underlying30 rfl (by kernel_rfl) ?_) | fail)
        refine (Sinks_c F _ _ a b xL xH _ _ HF2.out HXL.out HXH.out HX1.out).mono ?_
        rintro e w3 ⟨rfl, hb⟩
        have HF3 := Lib.hid ((HF2.out.below hb).alloc (Obj.cells #[.int .i64 xL, .int .i64 xH] 27))
        have BP3 := Lib.hid ((BP2.out.below hb).alloc (Obj.cells #[.int .i64 xL, .int .i64 xH] 27))
        have HB3 := Lib.hid ((bthen HB2.out hb).alloc (bthen HB2.out hb).size (Obj.cells #[.int .i64 xL, .int .i64 xH] 27))
        have HN3 := Lib.hid (Bk.new w3 27 [.int .i64 xL, .int .i64 xH])
        clear HF2 BP2 HB2
        clear hb
        go_wp2_with (first | (refine ld_at rfl (T := 30) rfl rfl BP3.out Tryz.underlying30 rfl (by kernel_rfl) ?_) | fail)
        refine (Sinks_c F _ _ b c yL yH _ _ HF3.out HYL.out HYH.out HY1.out).mono ?_
        rintro e w4 ⟨rfl, hb⟩
        have HF4 := Lib.hid ((HF3.out.below hb).alloc (Obj.cells #[.int .i64 yL, .int .i64 yH] 27))
        have BP4 := Lib.hid ((BP3.out.below hb).alloc (Obj.cells #[.int .i64 yL, .int .i64 yH] 27))
        have HB4 := Lib.hid ((bthen HB3.out hb).alloc (bthen HB3.out hb).size (Obj.cells #[.int .i64 yL, .int .i64 yH] 27))
        have HN4 := Lib.hid (Bk.new w4 27 [.int .i64 yL, .int .i64 yH])
        clear HF3 BP3 HB3
        have HX4 := Lib.hid ((HN3.out.below hb).alloc (Obj.cells #[.int .i64 yL, .int .i64 yH] 27))
        clear hb HN3
        go_wp2_with (first | (refine ld_at rfl (T := 30) rfl rfl BP4.out Tryz.underlying30 rfl (by kernel_rfl) ?_) | fail)
        refine (Sinks_c F _ _ a c zL zH _ _ HF4.out HZL.out HZH.out HZ1.out).mono ?_
        rintro e w5 ⟨rfl, hb⟩
        have HF5 := Lib.hid ((HF4.out.below hb).alloc (Obj.cells #[.int .i64 zL, .int .i64 zH] 27))
        have BP5 := Lib.hid ((BP4.out.below hb).alloc (Obj.cells #[.int .i64 zL, .int .i64 zH] 27))
        have HB5 := Lib.hid ((bthen HB4.out hb).alloc (bthen HB4.out hb).size (Obj.cells #[.int .i64 zL, .int .i64 zH] 27))
        have HN5 := Lib.hid (Bk.new w5 27 [.int .i64 zL, .int .i64 zH])
        clear HF4 BP4 HB4
        have HX5 := HX4.out.below hb
        have HY5 := HN4.out.below hb
        have xc0 := HX5.cell 0
        have xc1 := HX5.cell 1
        have xcl := HX5.lt
        have yc0 := HY5.cell 0
        have yc1 := HY5.cell 1
        have ycl := HY5.lt
        simp only [List.getElem?_cons_zero, List.getElem?_cons_succ] at xc0 xc1 yc0 yc1
        clear hb HX4 HN4 HX5 HY5
        go_wp2_with fail
        have z5 := HN5.out.cell 0
        have z6 := HN5.out.cell 1
        have z7 := HN5.out.lt
        simp only [List.getElem?_cons_zero, List.getElem?_cons_succ] at z5 z6
        go_quiet (fail)
        have HB6 := Lib.hid (below_drewN HB5.out)
        by_cases hab : a = b
        · obtain ⟨rfl, rfl⟩ := u hab
          subst hab
          clear u
          go_wp2_with fail
          all_goals
            go_ret
            exact ⟨rfl, HB6.out _⟩
        · clear u
          have hne : (a == b) = false := by simpa using hab
          go_wp2_with fail
          all_goals
            go_ret
            exact ⟨rfl, HB6.out _⟩
      | false =>
        have e0 := rdE_31 hok (show true = true from rfl) hc
        rw [r1, e0] at hx1
        rw [r2, e0] at hy1
        rw [r3, e0] at hz1
        subst hx1 hy1 hz1
        clear hxL hxH hyL hyH hzL hzH e0 r1 r2 r3 hc hO hok hP
        go_wp2_with (first | (refine ld_at rfl (T := 30) rfl rfl BP2.out Tryz.underlying30 rfl (by kernel_rfl) ?_) | fail)
        refine (Sinks_c F _ _ a b xL xH _ _ HF2.out HXL.out HXH.out HX1.out).mono ?_
        rintro e w3 ⟨rfl, hb⟩
        have HF3 := Lib.hid ((HF2.out.below hb).alloc (Obj.cells #[.int .i64 xL, .int .i64 xH] 27))
        have BP3 := Lib.hid ((BP2.out.below hb).alloc (Obj.cells #[.int .i64 xL, .int .i64 xH] 27))
        have HB3 := Lib.hid ((bthen HB2.out hb).alloc (bthen HB2.out hb).size (Obj.cells #[.int .i64 xL, .int .i64 xH] 27))
        have HN3 := Lib.hid (Bk.new w3 27 [.int .i64 xL, .int .i64 xH])
        clear HF2 BP2 HB2
        clear hb
        go_wp2_with (first | (refine ld_at rfl (T := 30) rfl rfl BP3.out Tryz.underlying30 rfl (by kernel_rfl) ?_) | fail)
        refine (Sinks_c F _ _ b c yL yH _ _ HF3.out HYL.out HYH.out HY1.out).mono ?_
        rintro e w4 ⟨rfl, hb⟩
        have HF4 := Lib.hid ((HF3.out.below hb).alloc (Obj.cells #[.int .i64 yL, .int .i64 yH] 27))
        have BP4 := Lib.hid ((BP3.out.below hb).alloc (Obj.cells #[.int .i64 yL, .int .i64 yH] 27))
        have HB4 := Lib.hid ((bthen HB3.out hb).alloc (bthen HB3.out hb).size (Obj.cells #[.int .i64 yL, .int .i64 yH] 27))
        have HN4 := Lib.hid (Bk.new w4 27 [.int .i64 yL, .int .i64 yH])
        clear HF3 BP3 HB3
        have HX4 := Lib.hid ((HN3.out.below hb).alloc (Obj.cells #[.int .i64 yL, .int .i64 yH] 27))
        clear hb HN3
        go_wp2_with (first | (refine ld_at rfl (T := 30) rfl rfl BP4.out Tryz.underlying30 rfl (by kernel_rfl) ?_) | fail)
        refine (Sinks_c F _ _ a c zL zH _ _ HF4.out HZL.out HZH.out HZ1.out).mono ?_
        rintro e w5 ⟨rfl, hb⟩
        have HF5 := Lib.hid ((HF4.out.below hb).alloc (Obj.cells #[.int .i64 zL, .int .i64 zH] 27))
        have BP5 := Lib.hid ((BP4.out.below hb).alloc (Obj.cells #[.int .i64 zL, .int .i64 zH] 27))
        have HB5 := Lib.hid ((bthen HB4.out hb).alloc (bthen HB4.out hb).size (Obj.cells #[.int .i64 zL, .int .i64 zH] 27))
        have HN5 := Lib.hid (Bk.new w5 27 [.int .i64 zL, .int .i64 zH])
        clear HF4 BP4 HB4
        have HX5 := HX4.out.below hb
        have HY5 := HN4.out.below hb
        have xc0 := HX5.cell 0
        have xc1 := HX5.cell 1
        have xcl := HX5.lt
        have yc0 := HY5.cell 0
        have yc1 := HY5.cell 1
        have ycl := HY5.lt
        simp only [List.getElem?_cons_zero, List.getElem?_cons_succ] at xc0 xc1 yc0 yc1
        clear hb HX4 HN4 HX5 HY5
        go_wp2_with fail
        go_ret
        exact ⟨rfl, HB5.out⟩
    · have r3 : skR F a c = false := by
        cases hx : skR F a c with
        | false => rfl
        | true => unfold skR inB at hx; simp at hx; omega
      rw [rdE_1 hok r3] at hz1
      subst hz1
      clear hxL hxH hyL hyH hzL hzH hx1 hy1 r3 hO hok hP
      go_wp2_with (first | (refine ld_at rfl (T := 30) rfl rfl BP2.out Tryz.underlying30 rfl (by kernel_rfl) ?_) | fail)
      refine (Sinks_c F _ _ a b xL xH _ _ HF2.out HXL.out HXH.out HX1.out).mono ?_
      rintro e w3 ⟨rfl, hb⟩
      have HF3 := Lib.hid ((HF2.out.below hb).alloc (Obj.cells #[.int .i64 xL, .int .i64 xH] 27))
      have BP3 := Lib.hid ((BP2.out.below hb).alloc (Obj.cells #[.int .i64 xL, .int .i64 xH] 27))
      have HB3 := Lib.hid ((bthen HB2.out hb).alloc (bthen HB2.out hb).size (Obj.cells #[.int .i64 xL, .int .i64 xH] 27))
      have HN3 := Lib.hid (Bk.new w3 27 [.int .i64 xL, .int .i64 xH])
      clear HF2 BP2 HB2
      clear hb
      go_wp2_with (first | (refine ld_at rfl (T := 30) rfl rfl BP3.out Tryz.underlying30 rfl (by kernel_rfl) ?_) | fail)
      refine (Sinks_c F _ _ b c yL yH _ _ HF3.out HYL.out HYH.out HY1.out).mono ?_
      rintro e w4 ⟨rfl, hb⟩
      have HF4 := Lib.hid ((HF3.out.below hb).alloc (Obj.cells #[.int .i64 yL, .int .i64 yH] 27))
      have BP4 := Lib.hid ((BP3.out.below hb).alloc (Obj.cells #[.int .i64 yL, .int .i64 yH] 27))
      have HB4 := Lib.hid ((bthen HB3.out hb).alloc (bthen HB3.out hb).size (Obj.cells #[.int .i64 yL, .int .i64 yH] 27))
      have HN4 := Lib.hid (Bk.new w4 27 [.int .i64 yL, .int .i64 yH])
      clear HF3 BP3 HB3
      have HX4 := Lib.hid ((HN3.out.below hb).alloc (Obj.cells #[.int .i64 yL, .int .i64 yH] 27))
      clear hb HN3
      go_wp2_with (first | (refine ld_at rfl (T := 30) rfl rfl BP4.out Tryz.underlying30 rfl (by kernel_rfl) ?_) | fail)
      refine (Sinks_c F _ _ a c zL zH _ _ HF4.out HZL.out HZH.out HZ1.out).mono ?_
      rintro e w5 ⟨rfl, hb⟩
      have HF5 := Lib.hid ((HF4.out.below hb).alloc (Obj.cells #[.int .i64 zL, .int .i64 zH] 27))
      have BP5 := Lib.hid ((BP4.out.below hb).alloc (Obj.cells #[.int .i64 zL, .int .i64 zH] 27))
      have HB5 := Lib.hid ((bthen HB4.out hb).alloc (bthen HB4.out hb).size (Obj.cells #[.int .i64 zL, .int .i64 zH] 27))
      have HN5 := Lib.hid (Bk.new w5 27 [.int .i64 zL, .int .i64 zH])
      clear HF4 BP4 HB4
      have HX5 := HX4.out.below hb
      have HY5 := HN4.out.below hb
      have xc0 := HX5.cell 0
      have xc1 := HX5.cell 1
      have xcl := HX5.lt
      have yc0 := HY5.cell 0
      have yc1 := HY5.cell 1
      have ycl := HY5.lt
      simp only [List.getElem?_cons_zero, List.getElem?_cons_succ] at xc0 xc1 yc0 yc1
      clear hb HX4 HN4 HX5 HY5
      go_wp2_with fail
      all_goals
        go_ret
        exact ⟨rfl, HB5.out⟩
  · refine (Check_c F _ _ 30 w1 HF1.out (by unfold chkF; rw [if_neg hok])).mono ?_
    rintro e w2 ⟨rfl, hb⟩
    have HB2 := Lib.hid (bthen HB1.out hb)
    clear hb HF1 BP1 HB1
    go_wp2_with fail
    go_ret
    exact ⟨rfl, HB2.out⟩
end Go.Proofs.YtnfndiafabhhdaaGreat
