/- For every season and day, valid or not, Check, Rise, Set and Length match the specification (HoursLight): proved for every input, without conditions. -/
import Derived.Test.YtpjnlcdmbkbfcaaDoorLaw
namespace Go.Proofs.YtpjnlcdmbkbfcaaDoor
open Go.ChangeShapes Go.WideShapes Go.ChangeAt Go.RowKit Go.BigFrame

theorem few_any (S : Sea) (vd vr vs : Value) (w : World) (hI : SeaIn w vd vr vs S) : Calls Tryd.prog 19 #[.agg #[.int .i64 S.L, vd, vr, vs]] w fun e w' => e = .returned (.bool (decide (S.d.length ≤ 30) && decide (S.r.length ≤ 30) && decide (S.s.length ≤ 30))) ∧ Below w.heap.size w w' := by
  obtain ⟨od, nd, cd, rfl, ld, md⟩ := hI.d.parts
  obtain ⟨or_, nr, cr, rfl, lr, mr⟩ := hI.r.parts
  obtain ⟨os, ns, cs, rfl, ls, ms⟩ := hI.s.parts
  rw [ld.out, lr.out, ls.out]
  by_cases h1 : nd ≤ 30
  · by_cases h2 : nr ≤ 30
    · by_cases h3 : ns ≤ 30
      all_goals
        go_enter Tryd.func19, Tryd.ntmps19
        go_wp2
        go_ret
        exact ⟨ret_bool (by simp [h1, h2, h3] <;> omega), (by repeat (first | exact Below.refl _ _ | assumption | refine bthen ?_ (by assumption) | refine Below.alloc ?_ (by first | exact Nat.le_refl _ | (simp; done) | (simp; omega) | omega) _ | refine Below.setCell ?_ (by first | exact Nat.le_refl _ | (simp; done) | (simp; omega) | omega) _ | refine below_drewN ?_ _ | refine Below.drew ?_))⟩
    · go_enter Tryd.func19, Tryd.ntmps19
      go_wp2
      go_ret
      exact ⟨ret_bool (by simp), (by repeat (first | exact Below.refl _ _ | assumption | refine bthen ?_ (by assumption) | refine Below.alloc ?_ (by first | exact Nat.le_refl _ | (simp; done) | (simp; omega) | omega) _ | refine Below.setCell ?_ (by first | exact Nat.le_refl _ | (simp; done) | (simp; omega) | omega) _ | refine below_drewN ?_ _ | refine Below.drew ?_))⟩
  · go_enter Tryd.func19, Tryd.ntmps19
    go_wp2
    go_ret
    exact ⟨ret_bool (by simp), (by repeat (first | exact Below.refl _ _ | assumption | refine bthen ?_ (by assumption) | refine Below.alloc ?_ (by first | exact Nat.le_refl _ | (simp; done) | (simp; omega) | omega) _ | refine Below.setCell ?_ (by first | exact Nat.le_refl _ | (simp; done) | (simp; omega) | omega) _ | refine below_drewN ?_ _ | refine Below.drew ?_))⟩

theorem few_c (S : Sea) (vd vr vs : Value) (b : Bool) (w : World) (hI : SeaIn w vd vr vs S) (hb : (decide (S.d.length ≤ 30) && decide (S.r.length ≤ 30) && decide (S.s.length ≤ 30)) = b) : Calls Tryd.prog 19 #[.agg #[.int .i64 S.L, vd, vr, vs]] w fun e w' => e = .returned (.bool b) ∧ Below w.heap.size w w' := by
  rw [← hb]; exact few_any S vd vr vs w hI
theorem Check_c (S : Sea) (vd vr vs : Value) (c : Int) (w : World) (hI : SeaIn w vd vr vs S) (hc : chk S = c) : Calls Tryd.prog 26 #[.agg #[.int .i64 S.L, vd, vr, vs]] w fun e w' => e = .returned (.int .i64 c) ∧ Below w.heap.size w w' := by
  rw [← hc]; exact Check_any S vd vr vs w hI.d hI.r hI.s
theorem rCheck_c (S : Sea) (vd vr vs : Value) (c : Int) (w : World) (hI : SeaIn w vd vr vs S) (hc : chk S = c) : Calls Tryd.prog 27 #[.agg #[.int .i64 S.L, vd, vr, vs]] w fun e w' => e = .returned (.int .i64 c) ∧ Below w.heap.size w w' := by
  rw [← hc]; exact rCheck_any S vd vr vs w hI.d hI.r hI.s
set_option maxRecDepth 100000 in
set_option maxHeartbeats 4000000 in
theorem law_light (S : Sea) (vd vr vs : Value) (day : Int) (nt : Bool) (w : World) (hI : SeaIn w vd vr vs S) (_ : -9223372036854775808 ≤ day) (_ : day ≤ 9223372036854775807) : Calls Tryd.prog 3 #[.agg #[.int .i64 S.L, vd, vr, vs], .int .i64 day, .bool nt] w fun e w' => e = .returned (.bool true) ∧ Below w.heap.size w w' := by
  have hI0 := hI.alloc (seaO S vd vr vs)
  have hS0 : Box (w.alloc (seaO S vd vr vs)) w.heap.size [.int .i64 S.L, vd, vr, vs] := Box.new w [.int .i64 S.L, vd, vr, vs] _
  have hB0 := ballo w (seaO S vd vr vs)
  have s0 := True.intro
  have s1 := s0
  have s2 := s0
  have s3 := s0
  rcases bool_ft (decide (S.d.length ≤ 30) && decide (S.r.length ≤ 30) && decide (S.s.length ≤ 30)) with hfw | hfw
  · have HF := Lib.hid hfw
    clear hfw
    go_enter Tryd.func3, Tryd.ntmps3
    go_wp2_with fail
    clear s0 s1 s2 s3
    refine (sane_any _).mono ?_
    rintro e w1 ⟨rfl, hb⟩
    have hS1 : Box w1 w.heap.size [.int .i64 S.L, vd, vr, vs] := by first | exact hS0.below hb | exact (hS0.alloc _).below hb
    have hI1 : SeaIn w1 vd vr vs S := by first | exact hI0.below hb | exact (hI0.alloc _).below hb
    have hB1 : Below w.heap.size w w1 := by first | exact bnext hB0 hb | exact bnextA hB0 hb
    have hz1 := hS1.lt
    have s0 : w1.cell? ⟨w.heap.size, 0, none⟩ = some (.int .i64 S.L) := hS1.c 0 (by simp)
    have s1 : w1.cell? ⟨w.heap.size, 1, none⟩ = some vd := hS1.c 1 (by simp)
    have s2 : w1.cell? ⟨w.heap.size, 2, none⟩ = some vr := hS1.c 2 (by simp)
    have s3 : w1.cell? ⟨w.heap.size, 3, none⟩ = some vs := hS1.c 3 (by simp)
    go_wp2_with fail
    clear s0 s1 s2 s3
    refine (few_c S vd vr vs _ _ hI1 HF.out).mono ?_
    rintro e w2 ⟨rfl, hb⟩
    have hS2 : Box w2 w.heap.size [.int .i64 S.L, vd, vr, vs] := by first | exact hS1.below hb | exact (hS1.alloc _).below hb
    have hI2 : SeaIn w2 vd vr vs S := by first | exact hI1.below hb | exact (hI1.alloc _).below hb
    have hB2 : Below w.heap.size w w2 := by first | exact bnext hB1 hb | exact bnextA hB1 hb
    have hz2 := hS2.lt
    have s0 : w2.cell? ⟨w.heap.size, 0, none⟩ = some (.int .i64 S.L) := hS2.c 0 (by simp)
    have s1 : w2.cell? ⟨w.heap.size, 1, none⟩ = some vd := hS2.c 1 (by simp)
    have s2 : w2.cell? ⟨w.heap.size, 2, none⟩ = some vr := hS2.c 2 (by simp)
    have s3 : w2.cell? ⟨w.heap.size, 3, none⟩ = some vs := hS2.c 3 (by simp)
    go_wp2_with fail
    go_ret
    exact ⟨rfl, hB2⟩
  · have HF := Lib.hid hfw
    obtain ⟨x1, hx1⟩ : ∃ x, gd S (inB day 0 11000) (lnR S day) = x := ⟨_, rfl⟩
    obtain ⟨x2, hx2⟩ : ∃ x, gd S (inB day 0 11000) (lnS S day) = x := ⟨_, rfl⟩
    obtain ⟨x3, hx3⟩ : ∃ x, gd S (inB day 0 11000) (low1 (las S day nt) 12) = x := ⟨_, rfl⟩
    obtain ⟨x4, hx4⟩ : ∃ x, gd S (inB day 0 11000) (low2 (las S day nt) 12) = x := ⟨_, rfl⟩
    obtain ⟨x5, hx5⟩ : ∃ x, askE S (inB day 0 11000) = x := ⟨_, rfl⟩
    obtain ⟨x6, hx6⟩ : ∃ x, chk S = x := ⟨_, rfl⟩
    have X1 := Lib.hid hx1
    have X2 := Lib.hid hx2
    have X3 := Lib.hid hx3
    have X4 := Lib.hid hx4
    have X5 := Lib.hid hx5
    have X6 := Lib.hid hx6
    clear hfw hx1 hx2 hx3 hx4 hx5 hx6
    go_enter Tryd.func3, Tryd.ntmps3
    go_wp2_with fail
    clear s0 s1 s2 s3
    refine (sane_any _).mono ?_
    rintro e w1 ⟨rfl, hb⟩
    have hS1 : Box w1 w.heap.size [.int .i64 S.L, vd, vr, vs] := by first | exact hS0.below hb | exact (hS0.alloc _).below hb
    have hI1 : SeaIn w1 vd vr vs S := by first | exact hI0.below hb | exact (hI0.alloc _).below hb
    have hB1 : Below w.heap.size w w1 := by first | exact bnext hB0 hb | exact bnextA hB0 hb
    have hz1 := hS1.lt
    have s0 : w1.cell? ⟨w.heap.size, 0, none⟩ = some (.int .i64 S.L) := hS1.c 0 (by simp)
    have s1 : w1.cell? ⟨w.heap.size, 1, none⟩ = some vd := hS1.c 1 (by simp)
    have s2 : w1.cell? ⟨w.heap.size, 2, none⟩ = some vr := hS1.c 2 (by simp)
    have s3 : w1.cell? ⟨w.heap.size, 3, none⟩ = some vs := hS1.c 3 (by simp)
    go_wp2_with fail
    clear s0 s1 s2 s3
    refine (few_c S vd vr vs _ _ hI1 HF.out).mono ?_
    rintro e w2 ⟨rfl, hb⟩
    have hS2 : Box w2 w.heap.size [.int .i64 S.L, vd, vr, vs] := by first | exact hS1.below hb | exact (hS1.alloc _).below hb
    have hI2 : SeaIn w2 vd vr vs S := by first | exact hI1.below hb | exact (hI1.alloc _).below hb
    have hB2 : Below w.heap.size w w2 := by first | exact bnext hB1 hb | exact bnextA hB1 hb
    have hz2 := hS2.lt
    have s0 : w2.cell? ⟨w.heap.size, 0, none⟩ = some (.int .i64 S.L) := hS2.c 0 (by simp)
    have s1 : w2.cell? ⟨w.heap.size, 1, none⟩ = some vd := hS2.c 1 (by simp)
    have s2 : w2.cell? ⟨w.heap.size, 2, none⟩ = some vr := hS2.c 2 (by simp)
    have s3 : w2.cell? ⟨w.heap.size, 3, none⟩ = some vs := hS2.c 3 (by simp)
    go_wp2_with fail
    clear s0 s1 s2 s3
    refine (Rise_any S vd vr vs day _ hI2).mono ?_
    rintro e w3 ⟨rfl, hb⟩
    have hS3 : Box w3 w.heap.size [.int .i64 S.L, vd, vr, vs] := by first | exact hS2.below hb | exact (hS2.alloc _).below hb
    have hI3 : SeaIn w3 vd vr vs S := by first | exact hI2.below hb | exact (hI2.alloc _).below hb
    have hB3 : Below w.heap.size w w3 := by first | exact bnext hB2 hb | exact bnextA hB2 hb
    have hz3 := hS3.lt
    have s0 : w3.cell? ⟨w.heap.size, 0, none⟩ = some (.int .i64 S.L) := hS3.c 0 (by simp)
    have s1 : w3.cell? ⟨w.heap.size, 1, none⟩ = some vd := hS3.c 1 (by simp)
    have s2 : w3.cell? ⟨w.heap.size, 2, none⟩ = some vr := hS3.c 2 (by simp)
    have s3 : w3.cell? ⟨w.heap.size, 3, none⟩ = some vs := hS3.c 3 (by simp)
    rw [X1.out, X5.out]
    go_wp2_with fail
    clear s0 s1 s2 s3
    refine (rRise_any S vd vr vs day _ hI3).mono ?_
    rintro e w4 ⟨rfl, hb⟩
    have hS4 : Box w4 w.heap.size [.int .i64 S.L, vd, vr, vs] := by first | exact hS3.below hb | exact (hS3.alloc _).below hb
    have hI4 : SeaIn w4 vd vr vs S := by first | exact hI3.below hb | exact (hI3.alloc _).below hb
    have hB4 : Below w.heap.size w w4 := by first | exact bnext hB3 hb | exact bnextA hB3 hb
    have hz4 := hS4.lt
    have s0 : w4.cell? ⟨w.heap.size, 0, none⟩ = some (.int .i64 S.L) := hS4.c 0 (by simp)
    have s1 : w4.cell? ⟨w.heap.size, 1, none⟩ = some vd := hS4.c 1 (by simp)
    have s2 : w4.cell? ⟨w.heap.size, 2, none⟩ = some vr := hS4.c 2 (by simp)
    have s3 : w4.cell? ⟨w.heap.size, 3, none⟩ = some vs := hS4.c 3 (by simp)
    rw [X1.out, X5.out]
    go_wp2_with fail
    clear s0 s1 s2 s3
    refine (Set_any S vd vr vs day _ hI4).mono ?_
    rintro e w5 ⟨rfl, hb⟩
    have hS5 : Box w5 w.heap.size [.int .i64 S.L, vd, vr, vs] := by first | exact hS4.below hb | exact (hS4.alloc _).below hb
    have hI5 : SeaIn w5 vd vr vs S := by first | exact hI4.below hb | exact (hI4.alloc _).below hb
    have hB5 : Below w.heap.size w w5 := by first | exact bnext hB4 hb | exact bnextA hB4 hb
    have hz5 := hS5.lt
    have s0 : w5.cell? ⟨w.heap.size, 0, none⟩ = some (.int .i64 S.L) := hS5.c 0 (by simp)
    have s1 : w5.cell? ⟨w.heap.size, 1, none⟩ = some vd := hS5.c 1 (by simp)
    have s2 : w5.cell? ⟨w.heap.size, 2, none⟩ = some vr := hS5.c 2 (by simp)
    have s3 : w5.cell? ⟨w.heap.size, 3, none⟩ = some vs := hS5.c 3 (by simp)
    rw [X2.out, X5.out]
    go_wp2_with fail
    clear s0 s1 s2 s3
    refine (rSet_any S vd vr vs day _ hI5).mono ?_
    rintro e w6 ⟨rfl, hb⟩
    have hS6 : Box w6 w.heap.size [.int .i64 S.L, vd, vr, vs] := by first | exact hS5.below hb | exact (hS5.alloc _).below hb
    have hI6 : SeaIn w6 vd vr vs S := by first | exact hI5.below hb | exact (hI5.alloc _).below hb
    have hB6 : Below w.heap.size w w6 := by first | exact bnext hB5 hb | exact bnextA hB5 hb
    have hz6 := hS6.lt
    have s0 : w6.cell? ⟨w.heap.size, 0, none⟩ = some (.int .i64 S.L) := hS6.c 0 (by simp)
    have s1 : w6.cell? ⟨w.heap.size, 1, none⟩ = some vd := hS6.c 1 (by simp)
    have s2 : w6.cell? ⟨w.heap.size, 2, none⟩ = some vr := hS6.c 2 (by simp)
    have s3 : w6.cell? ⟨w.heap.size, 3, none⟩ = some vs := hS6.c 3 (by simp)
    rw [X2.out, X5.out]
    go_wp2_with fail
    clear s0 s1 s2 s3
    refine (Length_any S vd vr vs day nt _ hI6).mono ?_
    rintro e w7 ⟨rfl, hb⟩
    have hS7 : Box w7 w.heap.size [.int .i64 S.L, vd, vr, vs] := by first | exact hS6.below hb | exact (hS6.alloc _).below hb
    have hI7 : SeaIn w7 vd vr vs S := by first | exact hI6.below hb | exact (hI6.alloc _).below hb
    have hB7 : Below w.heap.size w w7 := by first | exact bnext hB6 hb | exact bnextA hB6 hb
    have hz7 := hS7.lt
    have s0 : w7.cell? ⟨w.heap.size, 0, none⟩ = some (.int .i64 S.L) := hS7.c 0 (by simp)
    have s1 : w7.cell? ⟨w.heap.size, 1, none⟩ = some vd := hS7.c 1 (by simp)
    have s2 : w7.cell? ⟨w.heap.size, 2, none⟩ = some vr := hS7.c 2 (by simp)
    have s3 : w7.cell? ⟨w.heap.size, 3, none⟩ = some vs := hS7.c 3 (by simp)
    rw [X3.out, X4.out, X5.out]
    go_wp2_with fail
    clear s0 s1 s2 s3
    refine (rLength_any S vd vr vs day nt _ (hI7.alloc _)).mono ?_
    rintro e w8 ⟨rfl, hb⟩
    have hS8 : Box w8 w.heap.size [.int .i64 S.L, vd, vr, vs] := by first | exact hS7.below hb | exact (hS7.alloc _).below hb
    have hI8 : SeaIn w8 vd vr vs S := by first | exact hI7.below hb | exact (hI7.alloc _).below hb
    have hB8 : Below w.heap.size w w8 := by first | exact bnext hB7 hb | exact bnextA hB7 hb
    have hz8 := hS8.lt
    have s0 : w8.cell? ⟨w.heap.size, 0, none⟩ = some (.int .i64 S.L) := hS8.c 0 (by simp)
    have s1 : w8.cell? ⟨w.heap.size, 1, none⟩ = some vd := hS8.c 1 (by simp)
    have s2 : w8.cell? ⟨w.heap.size, 2, none⟩ = some vr := hS8.c 2 (by simp)
    have s3 : w8.cell? ⟨w.heap.size, 3, none⟩ = some vs := hS8.c 3 (by simp)
    have hC8 : Box w8 w7.heap.size [.int .i64 x3, .int .i64 x4] := (Box.new w7 [.int .i64 x3, .int .i64 x4] _).below hb
    have hzC8 := hC8.lt
    rw [X3.out, X4.out, X5.out]
    go_wp2_with fail
    have c0 : w8.cell? ⟨w7.heap.size, 0, none⟩ = some (.int .i64 x3) := hC8.c 0 (by simp)
    have c1 : w8.cell? ⟨w7.heap.size, 1, none⟩ = some (.int .i64 x4) := hC8.c 1 (by simp)
    have mc := @more_cell (w8.alloc (Obj.cells #[.int .i64 x3, .int .i64 x4] 31))
    have k1 : ∀ i : More (w8.alloc (Obj.cells #[.int .i64 x3, .int .i64 x4] 31)), _ := fun i => more_call (Check_c S vd vr vs x6 i.x ((hI8.alloc _).below i.h) X6.out)
    have k2 : ∀ i : More (w8.alloc (Obj.cells #[.int .i64 x3, .int .i64 x4] 31)), _ := fun i => more_call (rCheck_c S vd vr vs x6 i.x ((hI8.alloc _).below i.h) X6.out)
    have K1 := Lib.hid k1; clear k1
    have K2 := Lib.hid k2; clear k2
    refine wp_region_more (by kernel_rfl) (by kernel_rfl) ?_
    iterate 8 (try (first | go_big_quiet_step ((first | with_reducible exact K1.out _ | with_reducible exact K2.out _)) | quiet_step ((first | with_reducible exact K1.out _ | with_reducible exact K2.out _))))
    iterate 8 (try (first | go_big_quiet_step ((first | with_reducible exact K1.out _ | with_reducible exact K2.out _)) | quiet_step ((first | with_reducible exact K1.out _ | with_reducible exact K2.out _))))
    iterate 8 (try (first | go_big_quiet_step ((first | with_reducible exact K1.out _ | with_reducible exact K2.out _)) | quiet_step ((first | with_reducible exact K1.out _ | with_reducible exact K2.out _))))
    iterate 8 (try (first | go_big_quiet_step ((first | with_reducible exact K1.out _ | with_reducible exact K2.out _)) | quiet_step ((first | with_reducible exact K1.out _ | with_reducible exact K2.out _))))
    iterate 8 (try (first | go_big_quiet_step ((first | with_reducible exact K1.out _ | with_reducible exact K2.out _)) | quiet_step ((first | with_reducible exact K1.out _ | with_reducible exact K2.out _))))
    refine wpQuiet_nil ?_
    rintro ⟨wm, hbm⟩
    dsimp only
    go_wp2_with fail
    go_ret
    exact ⟨rfl, bnextA hB8 hbm⟩
end Go.Proofs.YtpjnlcdmbkbfcaaDoor
