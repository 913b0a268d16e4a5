/- Walks of wear's bounds and regions: compare, least, most, pair (Wear). -/
import Derived.Test.YtnfndiafabhhdaaGreatB7
namespace Go.Proofs.YtnfndiafabhhdaaGreat
open Go.ChangeShapes Go.WideShapes Go.ChangeAt Go.RowKit
abbrev bdV (b : Bd) : Value := .agg #[.int .i64 b.n, .int .i64 b.d, .bool b.s]
abbrev lnV (l : Ln) : Value := .agg #[.int .i64 l.k, .int .i64 l.n, .int .i64 l.d, .bool l.s]
abbrev rnC (r : Rn) (va vb : Value) : List Value := [.int .i64 r.lo.n, .int .i64 r.lo.d, .bool r.lo.s, .int .i64 r.hi.n, .int .i64 r.hi.d, .bool r.hi.s, va, vb, .bool r.e]
structure BdB (b : Bd) : Prop where
  n0 : 0 ≤ b.n
  n1 : b.n ≤ 4611686018427387904
  d0 : 0 < b.d
  d1 : b.d ≤ 4611686018427387904
theorem bcmp_any (b c : Bd) (w : World) (hb : BdB b) (hc : BdB c) : Calls Tryz.prog 175 #[bdV b, bdV c] w fun e w' => e = .returned (.int .i64 (sgn (b.n * c.d - c.n * b.d))) ∧ Below w.heap.size w w' := by
  obtain ⟨bn, bd, bs⟩ := b
  obtain ⟨cn, cd, cs⟩ := c
  obtain ⟨b1, b2, b3, b4⟩ := hb
  obtain ⟨c1, c2, c3, c4⟩ := hc
  simp only at *
  have k1 : ∀ i : More ((w.alloc (Obj.cells #[.int .i64 bn, .int .i64 bd, .bool bs] 97)).alloc (Obj.cells #[.int .i64 cn, .int .i64 cd, .bool cs] 97)), _ := fun i => more_call (times_any bn cd i.x b1 (by omega) (by omega) (by omega))
  have k2 : ∀ i : More ((w.alloc (Obj.cells #[.int .i64 bn, .int .i64 bd, .bool bs] 97)).alloc (Obj.cells #[.int .i64 cn, .int .i64 cd, .bool cs] 97)), _ := fun i => more_call (times_any cn bd i.x c1 (by omega) (by omega) (by omega))
  have k3 : ∀ i : More ((w.alloc (Obj.cells #[.int .i64 bn, .int .i64 bd, .bool bs] 97)).alloc (Obj.cells #[.int .i64 cn, .int .i64 cd, .bool cs] 97)), _ := fun i => more_call (wcompare_any (bn * cd) (cn * bd) i.x)
  have mc := @more_cell ((w.alloc (Obj.cells #[.int .i64 bn, .int .i64 bd, .bool bs] 97)).alloc (Obj.cells #[.int .i64 cn, .int .i64 cd, .bool cs] 97))
  obtain ⟨x, hx⟩ : ∃ x, sgn (bn * cd - cn * bd) = x := ⟨_, rfl⟩
  rw [hx] at k3 ⊢
  have K1 := Lib.hid k1; clear k1
  have K2 := Lib.hid k2; clear k2
  have K3 := Lib.hid k3; clear k3 hx
  clear b1 b2 b3 b4 c1 c2 c3 c4
  go_enter Tryz.func175, Tryz.ntmps175
  go_wp2_with fail
  refine wp_region_more (by kernel_rfl) (by kernel_rfl) ?_
  iterate 8 (try (first | go_big_quiet_step ((with_reducible first | exact K1.out _ | exact K2.out _ | exact K3.out _)) | quiet_step ((with_reducible first | exact K1.out _ | exact K2.out _ | exact K3.out _))))
  iterate 8 (try (first | go_big_quiet_step ((with_reducible first | exact K1.out _ | exact K2.out _ | exact K3.out _)) | quiet_step ((with_reducible first | exact K1.out _ | exact K2.out _ | exact K3.out _))))
  iterate 8 (try (first | go_big_quiet_step ((with_reducible first | exact K1.out _ | exact K2.out _ | exact K3.out _)) | quiet_step ((with_reducible first | exact K1.out _ | exact K2.out _ | exact K3.out _))))
  iterate 8 (try (first | go_big_quiet_step ((with_reducible first | exact K1.out _ | exact K2.out _ | exact K3.out _)) | quiet_step ((with_reducible first | exact K1.out _ | exact K2.out _ | exact K3.out _))))
  iterate 8 (try (first | go_big_quiet_step ((with_reducible first | exact K1.out _ | exact K2.out _ | exact K3.out _)) | quiet_step ((with_reducible first | exact K1.out _ | exact K2.out _ | exact K3.out _))))
  refine wpQuiet_nil ?_
  rintro ⟨wm, hbm⟩
  try dsimp only
  go_wp2_with fail
  go_ret
  exact ⟨rfl, bafter (bafter hbm)⟩
theorem sgn_cases (x : Int) : (sgn x = 1 ∧ 0 < x) ∨ (sgn x = 0 ∧ x = 0) ∨ (sgn x = -1 ∧ x < 0) := by unfold sgn; split <;> (try split) <;> omega
theorem least_any (rb : Nat) (r : Rn) (va vb : Value) (b : Bd) (w : World) (hB : Bk w rb 100 (rnC r va vb)) (hl : BdB r.lo) (hb : BdB b) :
    Calls Tryz.prog 156 #[.pointer (some ⟨rb, 0, none⟩), bdV b] w fun e w' => e = .returned (.tuple #[]) ∧ Bes rb w w' ∧ Bk w' rb 100 (rnC { r with lo := mxW r.lo b } va vb) := by
  have hlt := hB.lt
  have c0 := hB.cell 0
  have c1 := hB.cell 1
  have c2 := hB.cell 2
  have f0 := hB.frozen 0
  have f1 := hB.frozen 1
  have f2 := hB.frozen 2
  simp only [rnC, List.getElem?_cons_zero, List.getElem?_cons_succ] at c0 c1 c2
  have hB := Lib.hid hB
  obtain ⟨bn, bd, bs⟩ := b
  obtain ⟨lo, hi, re⟩ := r
  obtain ⟨ln, ld, ls⟩ := lo
  have k1 : ∀ i : More (w.alloc (Obj.cells #[.int .i64 bn, .int .i64 bd, .bool bs] 97)), _ := fun i => more_call (bcmp_any ⟨bn, bd, bs⟩ ⟨ln, ld, ls⟩ i.x hb hl)
  have mc := @more_cell (w.alloc (Obj.cells #[.int .i64 bn, .int .i64 bd, .bool bs] 97))
  simp only at *
  rcases sgn_cases (bn * ld - ln * bd) with ⟨h, hx⟩ | ⟨h, hx⟩ | ⟨h, hx⟩
  · have HR := Lib.hid (show mxW ⟨ln, ld, ls⟩ ⟨bn, bd, bs⟩ = ⟨bn, bd, bs⟩ by simp only [mxW]; rw [if_pos (by omega)])
    rw [h] at k1
    have K1 := Lib.hid k1; clear k1 h hx hl hb
    go_enter Tryz.func156, Tryz.ntmps156
    go_wp2_with fail
    refine wp_region_more (by kernel_rfl) (by kernel_rfl) ?_
    iterate 8 (try (first | go_big_quiet_step ((with_reducible first | exact K1.out _)) | quiet_step ((with_reducible first | exact K1.out _))))
    iterate 8 (try (first | go_big_quiet_step ((with_reducible first | exact K1.out _)) | quiet_step ((with_reducible first | exact K1.out _))))
    iterate 8 (try (first | go_big_quiet_step ((with_reducible first | exact K1.out _)) | quiet_step ((with_reducible first | exact K1.out _))))
    iterate 8 (try (first | go_big_quiet_step ((with_reducible first | exact K1.out _)) | quiet_step ((with_reducible first | exact K1.out _))))
    iterate 8 (try (first | go_big_quiet_step ((with_reducible first | exact K1.out _)) | quiet_step ((with_reducible first | exact K1.out _))))
    refine wpQuiet_nil ?_
    rintro ⟨wm, hbm⟩
    try dsimp only
    obtain ⟨hcm, hfm⟩ := bcell hbm
    go_wp2_with fail
    go_end0
    refine ⟨rfl, ?_, ?_⟩
    · exact (((bes_of rb (bafter hbm)).setCell 0 _).setCell 1 _).setCell 2 _
    · rw [HR.out]
      exact (((hB.out.below (bafter hbm)).set 0 _).set 1 _).set 2 _
  · rw [h] at k1
    cases bs
    · have HR := Lib.hid (show mxW ⟨ln, ld, ls⟩ ⟨bn, bd, false⟩ = ⟨ln, ld, ls⟩ by simp only [mxW]; rw [if_neg (by simp; omega)])
      have K1 := Lib.hid k1; clear k1 h hx hl hb
      go_enter Tryz.func156, Tryz.ntmps156
      go_wp2_with fail
      refine wp_region_more (by kernel_rfl) (by kernel_rfl) ?_
      iterate 8 (try (first | go_big_quiet_step ((with_reducible first | exact K1.out _)) | quiet_step ((with_reducible first | exact K1.out _))))
      iterate 8 (try (first | go_big_quiet_step ((with_reducible first | exact K1.out _)) | quiet_step ((with_reducible first | exact K1.out _))))
      iterate 8 (try (first | go_big_quiet_step ((with_reducible first | exact K1.out _)) | quiet_step ((with_reducible first | exact K1.out _))))
      iterate 8 (try (first | go_big_quiet_step ((with_reducible first | exact K1.out _)) | quiet_step ((with_reducible first | exact K1.out _))))
      iterate 8 (try (first | go_big_quiet_step ((with_reducible first | exact K1.out _)) | quiet_step ((with_reducible first | exact K1.out _))))
      refine wpQuiet_nil ?_
      rintro ⟨wm, hbm⟩
      try dsimp only
      obtain ⟨hcm, hfm⟩ := bcell hbm
      go_wp2_with fail
      go_end0
      refine ⟨rfl, ?_, ?_⟩
      · exact bes_of rb (bafter hbm)
      · rw [HR.out]
        exact hB.out.below (bafter hbm)
    · have HR := Lib.hid (show mxW ⟨ln, ld, ls⟩ ⟨bn, bd, true⟩ = ⟨bn, bd, true⟩ by simp only [mxW]; rw [if_pos (by simp; omega)])
      have K1 := Lib.hid k1; clear k1 h hx hl hb
      go_enter Tryz.func156, Tryz.ntmps156
      go_wp2_with fail
      refine wp_region_more (by kernel_rfl) (by kernel_rfl) ?_
      iterate 8 (try (first | go_big_quiet_step ((with_reducible first | exact K1.out _)) | quiet_step ((with_reducible first | exact K1.out _))))
      iterate 8 (try (first | go_big_quiet_step ((with_reducible first | exact K1.out _)) | quiet_step ((with_reducible first | exact K1.out _))))
      iterate 8 (try (first | go_big_quiet_step ((with_reducible first | exact K1.out _)) | quiet_step ((with_reducible first | exact K1.out _))))
      iterate 8 (try (first | go_big_quiet_step ((with_reducible first | exact K1.out _)) | quiet_step ((with_reducible first | exact K1.out _))))
      iterate 8 (try (first | go_big_quiet_step ((with_reducible first | exact K1.out _)) | quiet_step ((with_reducible first | exact K1.out _))))
      refine wpQuiet_nil ?_
      rintro ⟨wm, hbm⟩
      try dsimp only
      obtain ⟨hcm, hfm⟩ := bcell hbm
      go_wp2_with fail
      go_end0
      refine ⟨rfl, ?_, ?_⟩
      · exact (((bes_of rb (bafter hbm)).setCell 0 _).setCell 1 _).setCell 2 _
      · rw [HR.out]
        exact (((hB.out.below (bafter hbm)).set 0 _).set 1 _).set 2 _
  · have HR := Lib.hid (show mxW ⟨ln, ld, ls⟩ ⟨bn, bd, bs⟩ = ⟨ln, ld, ls⟩ by simp only [mxW]; rw [if_neg (by simp; omega)])
    rw [h] at k1
    have K1 := Lib.hid k1; clear k1 h hx hl hb
    go_enter Tryz.func156, Tryz.ntmps156
    go_wp2_with fail
    refine wp_region_more (by kernel_rfl) (by kernel_rfl) ?_
    iterate 8 (try (first | go_big_quiet_step ((with_reducible first | exact K1.out _)) | quiet_step ((with_reducible first | exact K1.out _))))
    iterate 8 (try (first | go_big_quiet_step ((with_reducible first | exact K1.out _)) | quiet_step ((with_reducible first | exact K1.out _))))
    iterate 8 (try (first | go_big_quiet_step ((with_reducible first | exact K1.out _)) | quiet_step ((with_reducible first | exact K1.out _))))
    iterate 8 (try (first | go_big_quiet_step ((with_reducible first | exact K1.out _)) | quiet_step ((with_reducible first | exact K1.out _))))
    iterate 8 (try (first | go_big_quiet_step ((with_reducible first | exact K1.out _)) | quiet_step ((with_reducible first | exact K1.out _))))
    refine wpQuiet_nil ?_
    rintro ⟨wm, hbm⟩
    try dsimp only
    obtain ⟨hcm, hfm⟩ := bcell hbm
    go_wp2_with fail
    go_end0
    refine ⟨rfl, ?_, ?_⟩
    · exact bes_of rb (bafter hbm)
    · rw [HR.out]
      exact hB.out.below (bafter hbm)
theorem most_any (rb : Nat) (r : Rn) (va vb : Value) (b : Bd) (w : World) (hB : Bk w rb 100 (rnC r va vb)) (hl : BdB r.hi) (hb : BdB b) :
    Calls Tryz.prog 157 #[.pointer (some ⟨rb, 0, none⟩), bdV b] w fun e w' => e = .returned (.tuple #[]) ∧ Bes rb w w' ∧ Bk w' rb 100 (rnC { r with hi := mnW r.hi b } va vb) := by
  have hlt := hB.lt
  have c0 := hB.cell 3
  have c1 := hB.cell 4
  have c2 := hB.cell 5
  have f0 := hB.frozen 3
  have f1 := hB.frozen 4
  have f2 := hB.frozen 5
  simp only [rnC, List.getElem?_cons_zero, List.getElem?_cons_succ] at c0 c1 c2
  have hB := Lib.hid hB
  obtain ⟨bn, bd, bs⟩ := b
  obtain ⟨lo, hi, re⟩ := r
  obtain ⟨ln, ld, ls⟩ := hi
  have k1 : ∀ i : More (w.alloc (Obj.cells #[.int .i64 bn, .int .i64 bd, .bool bs] 97)), _ := fun i => more_call (bcmp_any ⟨bn, bd, bs⟩ ⟨ln, ld, ls⟩ i.x hb hl)
  have mc := @more_cell (w.alloc (Obj.cells #[.int .i64 bn, .int .i64 bd, .bool bs] 97))
  simp only at *
  rcases sgn_cases (bn * ld - ln * bd) with ⟨h, hx⟩ | ⟨h, hx⟩ | ⟨h, hx⟩
  · have HR := Lib.hid (show mnW ⟨ln, ld, ls⟩ ⟨bn, bd, bs⟩ = ⟨ln, ld, ls⟩ by simp only [mnW]; rw [if_neg (by simp; omega)])
    rw [h] at k1
    have K1 := Lib.hid k1; clear k1 h hx hl hb
    go_enter Tryz.func157, Tryz.ntmps157
    go_wp2_with fail
    refine wp_region_more (by kernel_rfl) (by kernel_rfl) ?_
    iterate 8 (try (first | go_big_quiet_step ((with_reducible first | exact K1.out _)) | quiet_step ((with_reducible first | exact K1.out _))))
    iterate 8 (try (first | go_big_quiet_step ((with_reducible first | exact K1.out _)) | quiet_step ((with_reducible first | exact K1.out _))))
    iterate 8 (try (first | go_big_quiet_step ((with_reducible first | exact K1.out _)) | quiet_step ((with_reducible first | exact K1.out _))))
    iterate 8 (try (first | go_big_quiet_step ((with_reducible first | exact K1.out _)) | quiet_step ((with_reducible first | exact K1.out _))))
    iterate 8 (try (first | go_big_quiet_step ((with_reducible first | exact K1.out _)) | quiet_step ((with_reducible first | exact K1.out _))))
    refine wpQuiet_nil ?_
    rintro ⟨wm, hbm⟩
    try dsimp only
    obtain ⟨hcm, hfm⟩ := bcell hbm
    go_wp2_with fail
    go_end0
    refine ⟨rfl, ?_, ?_⟩
    · exact bes_of rb (bafter hbm)
    · rw [HR.out]
      exact hB.out.below (bafter hbm)
  · rw [h] at k1
    cases bs
    · have HR := Lib.hid (show mnW ⟨ln, ld, ls⟩ ⟨bn, bd, false⟩ = ⟨ln, ld, ls⟩ by simp only [mnW]; rw [if_neg (by simp; omega)])
      have K1 := Lib.hid k1; clear k1 h hx hl hb
      go_enter Tryz.func157, Tryz.ntmps157
      go_wp2_with fail
      refine wp_region_more (by kernel_rfl) (by kernel_rfl) ?_
      iterate 8 (try (first | go_big_quiet_step ((with_reducible first | exact K1.out _)) | quiet_step ((with_reducible first | exact K1.out _))))
      iterate 8 (try (first | go_big_quiet_step ((with_reducible first | exact K1.out _)) | quiet_step ((with_reducible first | exact K1.out _))))
      iterate 8 (try (first | go_big_quiet_step ((with_reducible first | exact K1.out _)) | quiet_step ((with_reducible first | exact K1.out _))))
      iterate 8 (try (first | go_big_quiet_step ((with_reducible first | exact K1.out _)) | quiet_step ((with_reducible first | exact K1.out _))))
      iterate 8 (try (first | go_big_quiet_step ((with_reducible first | exact K1.out _)) | quiet_step ((with_reducible first | exact K1.out _))))
      refine wpQuiet_nil ?_
      rintro ⟨wm, hbm⟩
      try dsimp only
      obtain ⟨hcm, hfm⟩ := bcell hbm
      go_wp2_with fail
      go_end0
      refine ⟨rfl, ?_, ?_⟩
      · exact bes_of rb (bafter hbm)
      · rw [HR.out]
        exact hB.out.below (bafter hbm)
    · have HR := Lib.hid (show mnW ⟨ln, ld, ls⟩ ⟨bn, bd, true⟩ = ⟨bn, bd, true⟩ by simp only [mnW]; rw [if_pos (by simp; omega)])
      have K1 := Lib.hid k1; clear k1 h hx hl hb
      go_enter Tryz.func157, Tryz.ntmps157
      go_wp2_with fail
      refine wp_region_more (by kernel_rfl) (by kernel_rfl) ?_
      iterate 8 (try (first | go_big_quiet_step ((with_reducible first | exact K1.out _)) | quiet_step ((with_reducible first | exact K1.out _))))
      iterate 8 (try (first | go_big_quiet_step ((with_reducible first | exact K1.out _)) | quiet_step ((with_reducible first | exact K1.out _))))
      iterate 8 (try (first | go_big_quiet_step ((with_reducible first | exact K1.out _)) | quiet_step ((with_reducible first | exact K1.out _))))
      iterate 8 (try (first | go_big_quiet_step ((with_reducible first | exact K1.out _)) | quiet_step ((with_reducible first | exact K1.out _))))
      iterate 8 (try (first | go_big_quiet_step ((with_reducible first | exact K1.out _)) | quiet_step ((with_reducible first | exact K1.out _))))
      refine wpQuiet_nil ?_
      rintro ⟨wm, hbm⟩
      try dsimp only
      obtain ⟨hcm, hfm⟩ := bcell hbm
      go_wp2_with fail
      go_end0
      refine ⟨rfl, ?_, ?_⟩
      · exact (((bes_of rb (bafter hbm)).setCell 3 _).setCell 4 _).setCell 5 _
      · rw [HR.out]
        exact (((hB.out.below (bafter hbm)).set 3 _).set 4 _).set 5 _
  · have HR := Lib.hid (show mnW ⟨ln, ld, ls⟩ ⟨bn, bd, bs⟩ = ⟨bn, bd, bs⟩ by simp only [mnW]; rw [if_pos (by omega)])
    rw [h] at k1
    have K1 := Lib.hid k1; clear k1 h hx hl hb
    go_enter Tryz.func157, Tryz.ntmps157
    go_wp2_with fail
    refine wp_region_more (by kernel_rfl) (by kernel_rfl) ?_
    iterate 8 (try (first | go_big_quiet_step ((with_reducible first | exact K1.out _)) | quiet_step ((with_reducible first | exact K1.out _))))
    iterate 8 (try (first | go_big_quiet_step ((with_reducible first | exact K1.out _)) | quiet_step ((with_reducible first | exact K1.out _))))
    iterate 8 (try (first | go_big_quiet_step ((with_reducible first | exact K1.out _)) | quiet_step ((with_reducible first | exact K1.out _))))
    iterate 8 (try (first | go_big_quiet_step ((with_reducible first | exact K1.out _)) | quiet_step ((with_reducible first | exact K1.out _))))
    iterate 8 (try (first | go_big_quiet_step ((with_reducible first | exact K1.out _)) | quiet_step ((with_reducible first | exact K1.out _))))
    refine wpQuiet_nil ?_
    rintro ⟨wm, hbm⟩
    try dsimp only
    obtain ⟨hcm, hfm⟩ := bcell hbm
    go_wp2_with fail
    go_end0
    refine ⟨rfl, ?_, ?_⟩
    · exact (((bes_of rb (bafter hbm)).setCell 3 _).setCell 4 _).setCell 5 _
    · rw [HR.out]
      exact (((hB.out.below (bafter hbm)).set 3 _).set 4 _).set 5 _
end Go.Proofs.YtnfndiafabhhdaaGreat
