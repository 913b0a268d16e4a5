/- Walks of a scale's sum, of open, of Sizes (Wear). -/
import Derived.Test.YtnfndiafabhhdaaGreatB3
import Derived.Test.YtnfndiafabhhdaaGreatB4
import Derived.Test.YtnfndiafabhhdaaGreatB5
namespace Go.Proofs.YtnfndiafabhhdaaGreat
open Go.ChangeShapes Go.WideShapes Go.ChangeAt Go.RowKit
theorem all_h (p : Value) (l1 l2 : List Int) (n : Nat) (x : Int) (w : World) (h : Scl w p 208 l1 l2) (h1 : l1.length = n) (h2 : l2.length = n + 1) (hx : l2[n]?.getD 0 = x) :
    Calls Tryz.prog 114 #[p] w fun e w' => e = .returned (.int .i64 x) ∧ Below w.heap.size w w' := by
  obtain ⟨b, v1, v2, rfl, hS, i1, i2⟩ := h
  obtain ⟨o1, n1, c1, rfl, e1, m1⟩ := i1.parts
  obtain ⟨o2, n2, c2, rfl, e2, m2⟩ := i2.parts
  obtain rfl : n = n1 := by rw [← h1]; exact e1.out
  obtain rfl : n2 = n + 1 := by rw [← h2]; exact e2.out.symm
  obtain ⟨bb, off, rfl, hb, hc⟩ := i2.cells (by omega)
  have d0 := hc n (by omega)
  rw [hx] at d0
  have hlt := hS.lt
  have s0 := hS.cell 0
  have s1 := hS.cell 1
  simp only [List.getElem?_cons_zero, List.getElem?_cons_succ] at s0 s1
  clear hc hS i1 i2 e1 e2 h1 h2 hx
  go_enter Tryz.func114, Tryz.ntmps114
  go_wp2_with fail
  go_quiet (fail)
  go_wp2_with fail
  go_ret
  exact ⟨rfl, belw⟩
theorem all_v (p : Value) (l1 l2 : List Int) (n : Nat) (x : Int) (w : World) (h : Scl w p 211 l1 l2) (h1 : l1.length = n) (h2 : l2.length = n + 1) (hx : l2[n]?.getD 0 = x) :
    Calls Tryz.prog 115 #[p] w fun e w' => e = .returned (.int .i64 x) ∧ Below w.heap.size w w' := by
  obtain ⟨b, v1, v2, rfl, hS, i1, i2⟩ := h
  obtain ⟨o1, n1, c1, rfl, e1, m1⟩ := i1.parts
  obtain ⟨o2, n2, c2, rfl, e2, m2⟩ := i2.parts
  obtain rfl : n = n1 := by rw [← h1]; exact e1.out
  obtain rfl : n2 = n + 1 := by rw [← h2]; exact e2.out.symm
  obtain ⟨bb, off, rfl, hb, hc⟩ := i2.cells (by omega)
  have d0 := hc n (by omega)
  rw [hx] at d0
  have hlt := hS.lt
  have s0 := hS.cell 0
  have s1 := hS.cell 1
  simp only [List.getElem?_cons_zero, List.getElem?_cons_succ] at s0 s1
  clear hc hS i1 i2 e1 e2 h1 h2 hx
  go_enter Tryz.func115, Tryz.ntmps115
  go_wp2_with fail
  go_quiet (fail)
  go_wp2_with fail
  go_ret
  exact ⟨rfl, belw⟩
theorem all_m (p : Value) (l1 l2 : List Int) (n : Nat) (x : Int) (w : World) (h : Scl w p 214 l1 l2) (h1 : l1.length = n) (h2 : l2.length = n + 1) (hx : l2[n]?.getD 0 = x) :
    Calls Tryz.prog 116 #[p] w fun e w' => e = .returned (.int .i64 x) ∧ Below w.heap.size w w' := by
  obtain ⟨b, v1, v2, rfl, hS, i1, i2⟩ := h
  obtain ⟨o1, n1, c1, rfl, e1, m1⟩ := i1.parts
  obtain ⟨o2, n2, c2, rfl, e2, m2⟩ := i2.parts
  obtain rfl : n = n1 := by rw [← h1]; exact e1.out
  obtain rfl : n2 = n + 1 := by rw [← h2]; exact e2.out.symm
  obtain ⟨bb, off, rfl, hb, hc⟩ := i2.cells (by omega)
  have d0 := hc n (by omega)
  rw [hx] at d0
  have hlt := hS.lt
  have s0 := hS.cell 0
  have s1 := hS.cell 1
  simp only [List.getElem?_cons_zero, List.getElem?_cons_succ] at s0 s1
  clear hc hS i1 i2 e1 e2 h1 h2 hx
  go_enter Tryz.func116, Tryz.ntmps116
  go_wp2_with fail
  go_quiet (fail)
  go_wp2_with fail
  go_ret
  exact ⟨rfl, belw⟩
theorem Row.of_below {w w' : World} {v : Value} {k n : Nat} {f : Nat → Nat → Value} (h : Row w v k n f) (hb : Below w.heap.size w w') : Row w' v k n f := h.below hb
def SclH (w : World) (p : Value) (l : List Rg) : Prop := Scl w p 208 (pfx (fun i => (rg l i).h) l.length) (pfx (vX l) (l.length + 1))
def SclV (w : World) (p : Value) (l : List Rg) : Prop := Scl w p 211 (pfx (fun i => (rg l i).v) l.length) (pfx (vV l) (l.length + 1))
def SclM (w : World) (p : Value) (l : List Rg) : Prop := Scl w p 214 (pfx (fun i => (rg l i).d) l.length) (pfx (vY l) (l.length + 1))
set_option maxHeartbeats 1000000 in
theorem open_any (l : List Rg) (v : Value) (w : World) (hR : RgR w v l) (hv : okVs l = true) :
    Calls Tryz.prog 113 #[v] w fun e w' => ∃ p1 p2 p3, e = .returned (.agg #[.pointer (some ⟨p1, 0, none⟩), .pointer (some ⟨p2, 0, none⟩), .pointer (some ⟨p3, 0, none⟩)]) ∧ Below w.heap.size w w' ∧ SclH w' (.pointer (some ⟨p1, 0, none⟩)) l ∧ SclV w' (.pointer (some ⟨p2, 0, none⟩)) l ∧ SclM w' (.pointer (some ⟨p3, 0, none⟩)) l := by
  have HR := Lib.hid hR
  have HV := Lib.hid hv
  clear hR hv
  go_enter Tryz.func113, Tryz.ntmps113
  go_wp2_with fail
  have hK0 := Bk.new w 159 [.pointer none, .pointer none, .pointer none]
  refine (scaled_h l v _ (HR.out.alloc _) HV.out).mono ?_
  rintro e w1 ⟨p1, rfl, hb1, hS1⟩
  have hS1' : SclH w1 p1 l := hS1
  obtain ⟨q1, x1, y1, rfl, _⟩ := hS1
  go_wp2_with fail
  refine (scaled_v l v _ ((HR.out.alloc _).below hb1) HV.out).mono ?_
  rintro e w2 ⟨p2, rfl, hb2, hS2⟩
  have hS2' : SclV w2 p2 l := hS2
  obtain ⟨q2, x2, y2, rfl, _⟩ := hS2
  go_wp2_with fail
  refine (scaled_m l v _ (((HR.out.alloc _).below hb1).below hb2) HV.out).mono ?_
  rintro e w3 ⟨p3, rfl, hb3, hS3⟩
  have hS3' : SclM w3 p3 l := hS3
  obtain ⟨q3, x3, y3, rfl, _⟩ := hS3
  have hK := ((hK0.below hb1).below hb2).below hb3
  have c0 := hK.cell 0
  have c1 := hK.cell 1
  have c2 := hK.cell 2
  have f0 := hK.frozen 0
  have f1 := hK.frozen 1
  have f2 := hK.frozen 2
  simp only [List.getElem?_cons_zero, List.getElem?_cons_succ] at c0 c1 c2
  have hbw : Below w.heap.size w w3 := (bafter hb1).trans ((bthen hb2 hb3).mono (bafter hb1).size)
  have hz := hK.lt
  go_wp2_with fail
  have hfin : Below w.heap.size w (((w3.setCell ⟨w.heap.size, 0, none⟩ (.pointer (some ⟨q1, 0, none⟩))).setCell ⟨w.heap.size, 1, none⟩ (.pointer (some ⟨q2, 0, none⟩))).setCell ⟨w.heap.size, 2, none⟩ (.pointer (some ⟨q3, 0, none⟩))) :=
    ((hbw.setCell (Nat.le_refl _) _).setCell (Nat.le_refl _) _).setCell (Nat.le_refl _) _
  refine bodyPost_ret (results_cell_row rfl _ _ w.heap.size _ _ (0, 0) _ rfl (((hK.set 0 _).set 1 _).set 2 _) Tryz.underlying159 rfl (by kernel_rfl)) rfl ⟨q1, q2, q3, rfl, hfin, ?_, ?_, ?_⟩
  · have := (hS1'.below hb2).below hb3
    exact (((this.far hK (by decide) (fun x hx y => by simp at hx; subst hx; simp)).far (hK.set 0 _) (by decide) (fun x hx y => by simp at hx; rcases hx with rfl | rfl <;> simp)).far ((hK.set 0 _).set 1 _) (by decide) (fun x hx y => by simp at hx; rcases hx with rfl | rfl | rfl <;> simp))
  · have := hS2'.below hb3
    exact (((this.far hK (by decide) (fun x hx y => by simp at hx; subst hx; simp)).far (hK.set 0 _) (by decide) (fun x hx y => by simp at hx; rcases hx with rfl | rfl <;> simp)).far ((hK.set 0 _).set 1 _) (by decide) (fun x hx y => by simp at hx; rcases hx with rfl | rfl | rfl <;> simp))
  · exact (((Scl.far hS3' hK (by decide) (fun x hx y => by simp at hx; subst hx; simp)).far (hK.set 0 _) (by decide) (fun x hx y => by simp at hx; rcases hx with rfl | rfl <;> simp)).far ((hK.set 0 _).set 1 _) (by decide) (fun x hx y => by simp at hx; rcases hx with rfl | rfl | rfl <;> simp))
theorem SclH.below {w w' : World} {p : Value} {l : List Rg} (h : SclH w p l) (hb : Below w.heap.size w w') : SclH w' p l := Scl.below h hb
theorem SclV.below {w w' : World} {p : Value} {l : List Rg} (h : SclV w p l) (hb : Below w.heap.size w w') : SclV w' p l := Scl.below h hb
theorem SclM.below {w w' : World} {p : Value} {l : List Rg} (h : SclM w p l) (hb : Below w.heap.size w w') : SclM w' p l := Scl.below h hb
theorem pfx_last (g : Nat → Int) (n : Nat) : (pfx g (n + 1))[n]?.getD 0 = g n := pfx_at g (Nat.lt_succ_self n)
set_option maxHeartbeats 1000000 in
theorem Sizes_any (l : List Rg) (v : Value) (w : World) (hR : RgR w v l) :
    Calls Tryz.prog 39 #[v] w fun e w' => e = .returned (.tuple #[.int .i64 (if okVs l then hgt l else 0), .int .i64 (if okVs l then vV l l.length else 0), .int .i64 (if okVs l then vY l l.length else 0), .int .i64 (chkV l)]) ∧ Below w.heap.size w w' := by
  have HR := Lib.hid hR
  have HC := vCheck_any l v w hR
  clear hR
  rcases bool_ft (okVs l) with hv | hv
  · have hc : chkV l = 20 := by simp [chkV, hv]
    rw [hc] at HC ⊢
    rw [hv]
    clear hc
    go_enter Tryz.func39, Tryz.ntmps39
    go_wp2_with fail
    refine HC.mono ?_
    rintro e w1 ⟨rfl, hb1⟩
    go_wp2_with fail
    refine bodyPost_ret (results_tmp4 rfl _ _ _) rfl ⟨rfl, hb1⟩
  · have hc : chkV l = 0 := by simp [chkV, hv]
    have hh : hgt l = vX l l.length := rfl
    rw [hc] at HC ⊢
    rw [hv, hh]
    have HV := Lib.hid hv
    clear hc hv hh
    obtain ⟨x, hx⟩ : ∃ x, vX l l.length = x := ⟨_, rfl⟩
    obtain ⟨y, hy⟩ : ∃ x, vV l l.length = x := ⟨_, rfl⟩
    obtain ⟨z, hz⟩ : ∃ x, vY l l.length = x := ⟨_, rfl⟩
    rw [hx, hy, hz]
    have HX := Lib.hid hx
    have HY := Lib.hid hy
    have HZ := Lib.hid hz
    clear hx hy hz
    go_enter Tryz.func39, Tryz.ntmps39
    go_wp2_with fail
    refine HC.mono ?_
    rintro e w1 ⟨rfl, hb1⟩
    go_wp2_with fail
    refine (open_any l v _ (HR.out.below hb1) HV.out).mono ?_
    rintro e w2 ⟨p1, p2, p3, rfl, hb2, s1, s2, s3⟩
    have k1 : ∀ i : More (w2.alloc (Obj.cells #[.pointer (some ⟨p1, 0, none⟩), .pointer (some ⟨p2, 0, none⟩), .pointer (some ⟨p3, 0, none⟩)] 159)), _ := fun i => more_call (all_h _ _ _ l.length x i.x (((s1.below (ballo _ _)).below i.h)) (pfx_len _ _) (pfx_len _ _) ((pfx_last _ _).trans HX.out))
    have k2 : ∀ i : More (w2.alloc (Obj.cells #[.pointer (some ⟨p1, 0, none⟩), .pointer (some ⟨p2, 0, none⟩), .pointer (some ⟨p3, 0, none⟩)] 159)), _ := fun i => more_call (all_v _ _ _ l.length y i.x (((s2.below (ballo _ _)).below i.h)) (pfx_len _ _) (pfx_len _ _) ((pfx_last _ _).trans HY.out))
    have k3 : ∀ i : More (w2.alloc (Obj.cells #[.pointer (some ⟨p1, 0, none⟩), .pointer (some ⟨p2, 0, none⟩), .pointer (some ⟨p3, 0, none⟩)] 159)), _ := fun i => more_call (all_m _ _ _ l.length z i.x (((s3.below (ballo _ _)).below i.h)) (pfx_len _ _) (pfx_len _ _) ((pfx_last _ _).trans HZ.out))
    have mc := @more_cell (w2.alloc (Obj.cells #[.pointer (some ⟨p1, 0, none⟩), .pointer (some ⟨p2, 0, none⟩), .pointer (some ⟨p3, 0, none⟩)] 159))
    have K1 := Lib.hid k1; clear k1
    have K2 := Lib.hid k2; clear k2
    have K3 := Lib.hid k3; clear k3
    clear s1 s2 s3
    go_wp2_with fail
    refine wp_region_more (by kernel_rfl) (by kernel_rfl) ?_
    iterate 8 (try (first | go_big_quiet_step ((with_reducible first | exact K1.out _ | exact K2.out _ | exact K3.out _)) | quiet_step ((with_reducible first | exact K1.out _ | exact K2.out _ | exact K3.out _))))
    iterate 8 (try (first | go_big_quiet_step ((with_reducible first | exact K1.out _ | exact K2.out _ | exact K3.out _)) | quiet_step ((with_reducible first | exact K1.out _ | exact K2.out _ | exact K3.out _))))
    iterate 8 (try (first | go_big_quiet_step ((with_reducible first | exact K1.out _ | exact K2.out _ | exact K3.out _)) | quiet_step ((with_reducible first | exact K1.out _ | exact K2.out _ | exact K3.out _))))
    iterate 8 (try (first | go_big_quiet_step ((with_reducible first | exact K1.out _ | exact K2.out _ | exact K3.out _)) | quiet_step ((with_reducible first | exact K1.out _ | exact K2.out _ | exact K3.out _))))
    iterate 8 (try (first | go_big_quiet_step ((with_reducible first | exact K1.out _ | exact K2.out _ | exact K3.out _)) | quiet_step ((with_reducible first | exact K1.out _ | exact K2.out _ | exact K3.out _))))
    refine wpQuiet_nil ?_
    rintro ⟨wm, hbm⟩
    try dsimp only
    go_wp2_with fail
    refine bodyPost_ret (results_tmp4 rfl _ _ _) rfl ⟨rfl, ?_⟩
    exact bthen hb1 (bthen hb2 (bafter hbm))
end Go.Proofs.YtnfndiafabhhdaaGreat
