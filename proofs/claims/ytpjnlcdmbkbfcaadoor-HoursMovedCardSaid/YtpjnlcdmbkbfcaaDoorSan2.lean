/- The walk of 'sane'. -/
import Derived.Test.YtpjnlcdmbkbfcaaDoorSan
namespace Go.Proofs.YtpjnlcdmbkbfcaaDoor
open Go.ChangeShapes Go.WideShapes Go.ChangeAt Go.RowKit Go.BigFrame

theorem example_any (w : World) : Calls Tryd.prog 67 #[] w fun e w' => ∃ vd vr vs, e = .returned (.agg #[.int .i64 365, vd, vr, vs]) ∧ SeaIn w' vd vr vs exS ∧ Below w.heap.size w w' := by
  go_enter Tryd.func67, Tryd.ntmps67
  go_wp2
  refine bodyPost_ret (v := .agg #[.int .i64 365, .slice (some ⟨w.heap.size + 1, 0, none⟩) 2 2, .slice (some ⟨w.heap.size + 1 + 1, 0, none⟩) 2 2, .slice (some ⟨w.heap.size + 1 + 1 + 1, 0, none⟩) 2 2]) (by simp [results, Tryd.results67, go_sem]) rfl ⟨_, _, _, rfl, ⟨?_, ?_, ?_⟩, (by repeat (first | exact Below.refl _ _ | assumption | refine bthen ?_ (by assumption) | refine Below.alloc ?_ (by first | exact Nat.le_refl _ | (simp; done) | (simp; omega) | omega) _ | refine Below.setCell ?_ (by first | exact Nat.le_refl _ | (simp; done) | (simp; omega) | omega) _ | refine below_drewN ?_ _ | refine Below.drew ?_))⟩
  all_goals
    refine .inr ⟨_, 0, 2, rfl, by decide, by decide, by simp, fun j hj => ?_⟩
    have hj2 : j = 0 ∨ j = 1 := by simp [exS] at hj; omega
    rcases hj2 with rfl | rfl <;> simp [go_sem, exS]

/-- A block that holds some cells. -/
structure Box (w : World) (b : Nat) (A : List Value) : Prop where
  lt : b < w.heap.size
  c : ∀ j, j < A.length → w.cell? ⟨b, j, none⟩ = some (A[j]?.getD undef)
theorem Box.below {w w' : World} {b : Nat} {A : List Value} (h : Box w b A) (hb : Below w.heap.size w w') : Box w' b A :=
  ⟨Nat.lt_of_lt_of_le h.lt hb.size, fun j hj => (hb.cell (p := ⟨b, j, none⟩) h.lt).trans (h.c j hj)⟩
theorem Box.alloc {w : World} {b : Nat} {A : List Value} (h : Box w b A) (o : Obj) : Box (w.alloc o) b A := h.below (ballo w o)
theorem Box.new (w : World) (A : List Value) (T : TypeId) : Box (w.alloc (.cells A.toArray T)) w.heap.size A :=
  ⟨by simp, fun j hj => by simp only [World.cell?, World.alloc_heap_new]; simp [hj]⟩
theorem bnext {a b c : World} (h : Below a.heap.size a b) (k : Below b.heap.size b c) : Below a.heap.size a c := bthen h k
theorem bnextA {a b c : World} {o : Obj} (h : Below a.heap.size a b) (k : Below (b.alloc o).heap.size (b.alloc o) c) : Below a.heap.size a c := bthen h (bafter k)

set_option maxRecDepth 100000 in
set_option maxHeartbeats 4000000 in
theorem sane_any (w : World) : Calls Tryd.prog 18 #[] w fun e w' => e = .returned (.bool true) ∧ Below w.heap.size w w' := by
  go_enter Tryd.func18, Tryd.ntmps18
  go_wp2_with fail
  refine (example_any w).mono ?_
  rintro e w1 ⟨vd, vr, vs, rfl, hI1, hB1⟩
  obtain ⟨od, nd, cd, hvd, _, _⟩ := hI1.d.parts
  obtain ⟨or_, nr, cr, hvr, _, _⟩ := hI1.r.parts
  obtain ⟨os, ns, cs, hvs, _, _⟩ := hI1.s.parts
  subst hvd hvr hvs
  have hS1 : Box (w1.alloc (Obj.cells #[.int .i64 365, .slice od nd cd, .slice or_ nr cr, .slice os ns cs] 24)) w1.heap.size [.int .i64 365, .slice od nd cd, .slice or_ nr cr, .slice os ns cs] := Box.new w1 [.int .i64 365, .slice od nd cd, .slice or_ nr cr, .slice os ns cs] 24
  have s0 := True.intro
  have s1 := s0
  have s2 := s0
  have s3 := s0
  go_wp2_with fail
  clear s0 s1 s2 s3
  refine (c_rise (hI1.alloc _)).mono ?_
  rintro e w2 ⟨rfl, hb⟩
  have hS2 : Box w2 w1.heap.size [.int .i64 365, .slice od nd cd, .slice or_ nr cr, .slice os ns cs] := by first | exact hS1.below hb | exact (hS1.alloc _).below hb
  have hI2 : SeaIn w2 (.slice od nd cd) (.slice or_ nr cr) (.slice os ns cs) exS := by first | exact hI1.below hb | exact (hI1.alloc _).below hb
  have hB2 : Below w.heap.size w w2 := by first | exact bnext hB1 hb | exact bnextA hB1 hb
  have hz2 := hS2.lt
  have s0 : w2.cell? ⟨w1.heap.size, 0, none⟩ = some (.int .i64 365) := hS2.c 0 (by simp)
  have s1 : w2.cell? ⟨w1.heap.size, 1, none⟩ = some (.slice od nd cd) := hS2.c 1 (by simp)
  have s2 : w2.cell? ⟨w1.heap.size, 2, none⟩ = some (.slice or_ nr cr) := hS2.c 2 (by simp)
  have s3 : w2.cell? ⟨w1.heap.size, 3, none⟩ = some (.slice os ns cs) := hS2.c 3 (by simp)
  go_wp2_with fail
  clear s0 s1 s2 s3
  refine (c_set hI2).mono ?_
  rintro e w3 ⟨rfl, hb⟩
  have hS3 : Box w3 w1.heap.size [.int .i64 365, .slice od nd cd, .slice or_ nr cr, .slice os ns cs] := by first | exact hS2.below hb | exact (hS2.alloc _).below hb
  have hI3 : SeaIn w3 (.slice od nd cd) (.slice or_ nr cr) (.slice os ns cs) exS := by first | exact hI2.below hb | exact (hI2.alloc _).below hb
  have hB3 : Below w.heap.size w w3 := by first | exact bnext hB2 hb | exact bnextA hB2 hb
  have hz3 := hS3.lt
  have s0 : w3.cell? ⟨w1.heap.size, 0, none⟩ = some (.int .i64 365) := hS3.c 0 (by simp)
  have s1 : w3.cell? ⟨w1.heap.size, 1, none⟩ = some (.slice od nd cd) := hS3.c 1 (by simp)
  have s2 : w3.cell? ⟨w1.heap.size, 2, none⟩ = some (.slice or_ nr cr) := hS3.c 2 (by simp)
  have s3 : w3.cell? ⟨w1.heap.size, 3, none⟩ = some (.slice os ns cs) := hS3.c 3 (by simp)
  go_wp2_with fail
  clear s0 s1 s2 s3
  refine (c_len hI3).mono ?_
  rintro e w4 ⟨rfl, hb⟩
  have hS4 : Box w4 w1.heap.size [.int .i64 365, .slice od nd cd, .slice or_ nr cr, .slice os ns cs] := by first | exact hS3.below hb | exact (hS3.alloc _).below hb
  have hI4 : SeaIn w4 (.slice od nd cd) (.slice or_ nr cr) (.slice os ns cs) exS := by first | exact hI3.below hb | exact (hI3.alloc _).below hb
  have hB4 : Below w.heap.size w w4 := by first | exact bnext hB3 hb | exact bnextA hB3 hb
  have hz4 := hS4.lt
  have s0 : w4.cell? ⟨w1.heap.size, 0, none⟩ = some (.int .i64 365) := hS4.c 0 (by simp)
  have s1 : w4.cell? ⟨w1.heap.size, 1, none⟩ = some (.slice od nd cd) := hS4.c 1 (by simp)
  have s2 : w4.cell? ⟨w1.heap.size, 2, none⟩ = some (.slice or_ nr cr) := hS4.c 2 (by simp)
  have s3 : w4.cell? ⟨w1.heap.size, 3, none⟩ = some (.slice os ns cs) := hS4.c 3 (by simp)
  go_wp2_with fail
  clear s0 s1 s2 s3
  refine (c_exact (hI4.alloc _)).mono ?_
  rintro e w5 ⟨rfl, hb⟩
  have hS5 : Box w5 w1.heap.size [.int .i64 365, .slice od nd cd, .slice or_ nr cr, .slice os ns cs] := by first | exact hS4.below hb | exact (hS4.alloc _).below hb
  have hI5 : SeaIn w5 (.slice od nd cd) (.slice or_ nr cr) (.slice os ns cs) exS := by first | exact hI4.below hb | exact (hI4.alloc _).below hb
  have hB5 : Below w.heap.size w w5 := by first | exact bnext hB4 hb | exact bnextA hB4 hb
  have hz5 := hS5.lt
  have s0 : w5.cell? ⟨w1.heap.size, 0, none⟩ = some (.int .i64 365) := hS5.c 0 (by simp)
  have s1 : w5.cell? ⟨w1.heap.size, 1, none⟩ = some (.slice od nd cd) := hS5.c 1 (by simp)
  have s2 : w5.cell? ⟨w1.heap.size, 2, none⟩ = some (.slice or_ nr cr) := hS5.c 2 (by simp)
  have s3 : w5.cell? ⟨w1.heap.size, 3, none⟩ = some (.slice os ns cs) := hS5.c 3 (by simp)
  have hC5 : Box w5 w4.heap.size [.int .i64 839, .int .i64 12] := (Box.new w4 [.int .i64 839, .int .i64 12] _).below hb
  have hzC5 := hC5.lt
  go_wp2_with fail
  clear s0 s1 s2 s3
  refine (c_first (hI5.alloc _)).mono ?_
  rintro e w6 ⟨rfl, hb⟩
  have hS6 : Box w6 w1.heap.size [.int .i64 365, .slice od nd cd, .slice or_ nr cr, .slice os ns cs] := by first | exact hS5.below hb | exact (hS5.alloc _).below hb
  have hI6 : SeaIn w6 (.slice od nd cd) (.slice or_ nr cr) (.slice os ns cs) exS := by first | exact hI5.below hb | exact (hI5.alloc _).below hb
  have hB6 : Below w.heap.size w w6 := by first | exact bnext hB5 hb | exact bnextA hB5 hb
  have hz6 := hS6.lt
  have s0 : w6.cell? ⟨w1.heap.size, 0, none⟩ = some (.int .i64 365) := hS6.c 0 (by simp)
  have s1 : w6.cell? ⟨w1.heap.size, 1, none⟩ = some (.slice od nd cd) := hS6.c 1 (by simp)
  have s2 : w6.cell? ⟨w1.heap.size, 2, none⟩ = some (.slice or_ nr cr) := hS6.c 2 (by simp)
  have s3 : w6.cell? ⟨w1.heap.size, 3, none⟩ = some (.slice os ns cs) := hS6.c 3 (by simp)
  have hC6 : Box w6 w4.heap.size [.int .i64 839, .int .i64 12] := by first | exact hC5.below hb | exact (hC5.alloc _).below hb
  have hzC6 := hC6.lt
  have hD6 : Box w6 w5.heap.size [.int .i64 475, .int .i64 1] := (Box.new w5 [.int .i64 475, .int .i64 1] _).below hb
  have hzD6 := hD6.lt
  have c0 : w6.cell? ⟨w4.heap.size, 0, none⟩ = some (.int .i64 839) := hC6.c 0 (by simp)
  have c1 : w6.cell? ⟨w4.heap.size, 1, none⟩ = some (.int .i64 12) := hC6.c 1 (by simp)
  have d0 : w6.cell? ⟨w5.heap.size, 0, none⟩ = some (.int .i64 475) := hD6.c 0 (by simp)
  have d1 : w6.cell? ⟨w5.heap.size, 1, none⟩ = some (.int .i64 1) := hD6.c 1 (by simp)
  go_wp2_with fail
  clear c0 c1 d0 d1 hC5 hC6 hD6
  clear s0 s1 s2 s3
  refine (c_told hI6).mono ?_
  rintro e w7 ⟨rfl, hb⟩
  have hS7 : Box w7 w1.heap.size [.int .i64 365, .slice od nd cd, .slice or_ nr cr, .slice os ns cs] := by first | exact hS6.below hb | exact (hS6.alloc _).below hb
  have hI7 : SeaIn w7 (.slice od nd cd) (.slice or_ nr cr) (.slice os ns cs) exS := by first | exact hI6.below hb | exact (hI6.alloc _).below hb
  have hB7 : Below w.heap.size w w7 := by first | exact bnext hB6 hb | exact bnextA hB6 hb
  have hz7 := hS7.lt
  have s0 : w7.cell? ⟨w1.heap.size, 0, none⟩ = some (.int .i64 365) := hS7.c 0 (by simp)
  have s1 : w7.cell? ⟨w1.heap.size, 1, none⟩ = some (.slice od nd cd) := hS7.c 1 (by simp)
  have s2 : w7.cell? ⟨w1.heap.size, 2, none⟩ = some (.slice or_ nr cr) := hS7.c 2 (by simp)
  have s3 : w7.cell? ⟨w1.heap.size, 3, none⟩ = some (.slice os ns cs) := hS7.c 3 (by simp)
  go_wp2_with fail
  clear s0 s1 s2 s3
  refine (c_later (hI7.alloc _)).mono ?_
  rintro e w8 ⟨rfl, hb⟩
  have hS8 : Box w8 w1.heap.size [.int .i64 365, .slice od nd cd, .slice or_ nr cr, .slice os ns cs] := by first | exact hS7.below hb | exact (hS7.alloc _).below hb
  have hI8 : SeaIn w8 (.slice od nd cd) (.slice or_ nr cr) (.slice os ns cs) exS := by first | exact hI7.below hb | exact (hI7.alloc _).below hb
  have hB8 : Below w.heap.size w w8 := by first | exact bnext hB7 hb | exact bnextA hB7 hb
  have hz8 := hS8.lt
  have s0 : w8.cell? ⟨w1.heap.size, 0, none⟩ = some (.int .i64 365) := hS8.c 0 (by simp)
  have s1 : w8.cell? ⟨w1.heap.size, 1, none⟩ = some (.slice od nd cd) := hS8.c 1 (by simp)
  have s2 : w8.cell? ⟨w1.heap.size, 2, none⟩ = some (.slice or_ nr cr) := hS8.c 2 (by simp)
  have s3 : w8.cell? ⟨w1.heap.size, 3, none⟩ = some (.slice os ns cs) := hS8.c 3 (by simp)
  have hM8 : Box w8 w7.heap.size [.bool true, .int .i64 0, .int .i64 59] := (Box.new w7 [.bool true, .int .i64 0, .int .i64 59] _).below hb
  have hzM8 := hM8.lt
  go_wp2_with fail
  clear s0 s1 s2 s3
  refine (c_passed (hI8.alloc _)).mono ?_
  rintro e w9 ⟨rfl, hb⟩
  have hS9 : Box w9 w1.heap.size [.int .i64 365, .slice od nd cd, .slice or_ nr cr, .slice os ns cs] := by first | exact hS8.below hb | exact (hS8.alloc _).below hb
  have hI9 : SeaIn w9 (.slice od nd cd) (.slice or_ nr cr) (.slice os ns cs) exS := by first | exact hI8.below hb | exact (hI8.alloc _).below hb
  have hB9 : Below w.heap.size w w9 := by first | exact bnext hB8 hb | exact bnextA hB8 hb
  have hz9 := hS9.lt
  have s0 : w9.cell? ⟨w1.heap.size, 0, none⟩ = some (.int .i64 365) := hS9.c 0 (by simp)
  have s1 : w9.cell? ⟨w1.heap.size, 1, none⟩ = some (.slice od nd cd) := hS9.c 1 (by simp)
  have s2 : w9.cell? ⟨w1.heap.size, 2, none⟩ = some (.slice or_ nr cr) := hS9.c 2 (by simp)
  have s3 : w9.cell? ⟨w1.heap.size, 3, none⟩ = some (.slice os ns cs) := hS9.c 3 (by simp)
  have hM9 : Box w9 w7.heap.size [.bool true, .int .i64 0, .int .i64 59] := by first | exact hM8.below hb | exact (hM8.alloc _).below hb
  have hzM9 := hM9.lt
  have hO9 : Box w9 w8.heap.size [.bool true, .int .i64 1, .int .i64 5] := (Box.new w8 [.bool true, .int .i64 1, .int .i64 5] _).below hb
  have hzO9 := hO9.lt
  go_wp2_with fail
  clear s0 s1 s2 s3
  refine (c_longest (hI9.alloc _)).mono ?_
  rintro e w10 ⟨rfl, hb⟩
  have hS10 : Box w10 w1.heap.size [.int .i64 365, .slice od nd cd, .slice or_ nr cr, .slice os ns cs] := by first | exact hS9.below hb | exact (hS9.alloc _).below hb
  have hI10 : SeaIn w10 (.slice od nd cd) (.slice or_ nr cr) (.slice os ns cs) exS := by first | exact hI9.below hb | exact (hI9.alloc _).below hb
  have hB10 : Below w.heap.size w w10 := by first | exact bnext hB9 hb | exact bnextA hB9 hb
  have hz10 := hS10.lt
  have s0 : w10.cell? ⟨w1.heap.size, 0, none⟩ = some (.int .i64 365) := hS10.c 0 (by simp)
  have s1 : w10.cell? ⟨w1.heap.size, 1, none⟩ = some (.slice od nd cd) := hS10.c 1 (by simp)
  have s2 : w10.cell? ⟨w1.heap.size, 2, none⟩ = some (.slice or_ nr cr) := hS10.c 2 (by simp)
  have s3 : w10.cell? ⟨w1.heap.size, 3, none⟩ = some (.slice os ns cs) := hS10.c 3 (by simp)
  have hM10 : Box w10 w7.heap.size [.bool true, .int .i64 0, .int .i64 59] := by first | exact hM9.below hb | exact (hM9.alloc _).below hb
  have hzM10 := hM10.lt
  have hO10 : Box w10 w8.heap.size [.bool true, .int .i64 1, .int .i64 5] := by first | exact hO9.below hb | exact (hO9.alloc _).below hb
  have hzO10 := hO10.lt
  have hP10 : Box w10 w9.heap.size [.int .i64 669, .int .i64 670] := (Box.new w9 [.int .i64 669, .int .i64 670] _).below hb
  have hzP10 := hP10.lt
  go_wp2_with fail
  clear s0 s1 s2 s3
  refine (c_told2 hI10).mono ?_
  rintro e w11 ⟨rfl, hb⟩
  have hS11 : Box w11 w1.heap.size [.int .i64 365, .slice od nd cd, .slice or_ nr cr, .slice os ns cs] := by first | exact hS10.below hb | exact (hS10.alloc _).below hb
  have hI11 : SeaIn w11 (.slice od nd cd) (.slice or_ nr cr) (.slice os ns cs) exS := by first | exact hI10.below hb | exact (hI10.alloc _).below hb
  have hB11 : Below w.heap.size w w11 := by first | exact bnext hB10 hb | exact bnextA hB10 hb
  have hz11 := hS11.lt
  have s0 : w11.cell? ⟨w1.heap.size, 0, none⟩ = some (.int .i64 365) := hS11.c 0 (by simp)
  have s1 : w11.cell? ⟨w1.heap.size, 1, none⟩ = some (.slice od nd cd) := hS11.c 1 (by simp)
  have s2 : w11.cell? ⟨w1.heap.size, 2, none⟩ = some (.slice or_ nr cr) := hS11.c 2 (by simp)
  have s3 : w11.cell? ⟨w1.heap.size, 3, none⟩ = some (.slice os ns cs) := hS11.c 3 (by simp)
  have hM11 : Box w11 w7.heap.size [.bool true, .int .i64 0, .int .i64 59] := by first | exact hM10.below hb | exact (hM10.alloc _).below hb
  have hzM11 := hM11.lt
  have hO11 : Box w11 w8.heap.size [.bool true, .int .i64 1, .int .i64 5] := by first | exact hO10.below hb | exact (hO10.alloc _).below hb
  have hzO11 := hO11.lt
  have hP11 : Box w11 w9.heap.size [.int .i64 669, .int .i64 670] := by first | exact hP10.below hb | exact (hP10.alloc _).below hb
  have hzP11 := hP11.lt
  have m0 : w11.cell? ⟨w7.heap.size, 0, none⟩ = some (.bool true) := hM11.c 0 (by simp)
  have m1 : w11.cell? ⟨w7.heap.size, 1, none⟩ = some (.int .i64 0) := hM11.c 1 (by simp)
  have m2 : w11.cell? ⟨w7.heap.size, 2, none⟩ = some (.int .i64 59) := hM11.c 2 (by simp)
  have o0 : w11.cell? ⟨w8.heap.size, 0, none⟩ = some (.bool true) := hO11.c 0 (by simp)
  have o1 : w11.cell? ⟨w8.heap.size, 1, none⟩ = some (.int .i64 1) := hO11.c 1 (by simp)
  have o2 : w11.cell? ⟨w8.heap.size, 2, none⟩ = some (.int .i64 5) := hO11.c 2 (by simp)
  have p0 : w11.cell? ⟨w9.heap.size, 0, none⟩ = some (.int .i64 669) := hP11.c 0 (by simp)
  have p1 : w11.cell? ⟨w9.heap.size, 1, none⟩ = some (.int .i64 670) := hP11.c 1 (by simp)
  go_wp2_with fail
  clear m0 m1 m2 o0 o1 o2 p0 p1 hM8 hM9 hM10 hM11 hO9 hO10 hO11 hP10 hP11 s0 s1 s2 s3
  refine c_court.mono ?_
  rintro e w12 ⟨rfl, hb⟩
  have hB12 := bnext hB11 hb
  go_wp2_with fail
  refine c_market.mono ?_
  rintro e w13 ⟨rfl, hb⟩
  have hB13 := bnextA hB12 hb
  have hT13 : Box w13 w12.heap.size [.int .i64 4, .int .i64 13, .int .i64 6] := (Box.new w12 [.int .i64 4, .int .i64 13, .int .i64 6] _).below hb
  go_wp2_with fail
  refine c_months.mono ?_
  rintro e w14 ⟨rfl, hb⟩
  have hB14 := bnext hB13 hb
  have hT14 := hT13.below hb
  go_wp2_with fail
  refine c_print.mono ?_
  rintro e w15 ⟨rfl, hb⟩
  have hB15 := bnext hB14 hb
  have hT15 := hT14.below hb
  have t0 : w15.cell? ⟨w12.heap.size, 0, none⟩ = some (.int .i64 4) := hT15.c 0 (by simp)
  have t1 : w15.cell? ⟨w12.heap.size, 1, none⟩ = some (.int .i64 13) := hT15.c 1 (by simp)
  have t2 : w15.cell? ⟨w12.heap.size, 2, none⟩ = some (.int .i64 6) := hT15.c 2 (by simp)
  go_wp2_with fail
  refine c_check.mono ?_
  rintro e w16 ⟨rfl, hb⟩
  have hB16 := bnext hB15 hb
  go_wp2_with fail
  go_ret
  exact ⟨rfl, hB16⟩
end Go.Proofs.YtpjnlcdmbkbfcaaDoor
