/- Walks of the reference's Can and can (Wear). -/
import Derived.Test.YtnfndiafabhhdaaGreatG5
import Derived.Test.YtnfndiafabhhdaaGreatC7
namespace Go.Proofs.YtnfndiafabhhdaaGreat
open Go.ChangeShapes Go.WideShapes Go.ChangeAt Go.RowKit
theorem step_st {P : Program} {ops : Array Oper} {o : Oper} {a : Act} {w : World} {K : Act → World → Prop} {Q : Exit → Act → World → Prop} {X : Prop} (hgd : o.guard = none) {T : TypeId} {x y : Operand} (ho : o.op = .store T x y)
    {b : Nat} (hx : a.eval x = .pointer (some ⟨b, 0, none⟩)) {cs old : List Value} (hy : a.eval y = .agg cs.toArray) {T' : TypeId} (hg : Bk w b T' old) (hi : (P.info? T).map (·.size) = some cs.length)
    (hl : old.length = cs.length) (h1 : cs.all (·.oneCell') = true)
    (h : ∀ w', Bk w' b T' cs → Bes b w w' → K (a.put o.dst undef) w') : if Region.wanted o (yielded ops a.tmps) = true then Oper.wp P o a w K Q else X := by
  have hw : Region.wanted o (yielded ops a.tmps) = true := by simp [Region.wanted, hgd]
  rw [if_pos hw]
  exact wp_store_row T x y ho b cs.toArray hx hy T' old.toArray hg (by simpa using hi) (by simpa using hl) (by simpa using h1) (h _ (setRow_heap w b _ _ _ _ hg) (bes_setRow _))
theorem owns_base {w : World} {base base' : Nat} {E : TypeId} {k n : Nat} {v : Value} {xs : List Value} (h : w.ownsRow base E k v n xs) (hb : base' ≤ base) : w.ownsRow base' E k v n xs := by
  refine ⟨h.1, ?_⟩
  rcases h.2 with h1 | ⟨g, cap, cur, rfl, hbg, hg, rest⟩
  · exact .inl h1
  · exact .inr ⟨g, cap, cur, rfl, Nat.le_trans hb hbg, hg, rest⟩
set_option maxRecDepth 100000 in
set_option maxHeartbeats 4000000 in
theorem Can_any (F : Fl) (vv vs : Value) (w : World) (hF : FlIn w F vv vs) (hO : OkF F) :
    Calls Tryz.prog 108 #[flV F vv vs] w fun e w' => e = .returned (.bool (canI F (allL F))) ∧ Below w.heap.size w w' := by
  have hlen : (allL F).length ≤ 1000 := by rw [all_len]; have := hO.n; omega
  have hR := rnR_c hO (allL F)
  have hL := lines_B1 hO (allL_ok F)
  have hcan : (leftR (rnR F (allL F)) (linesL F (allL F))).some = canI F (allL F) := canI_R hO fun i hi => (allL_ok F i hi).2
  obtain ⟨W, hW⟩ : ∃ W, w.alloc (flO F vv vs) = W := ⟨_, rfl⟩
  have hFW : FlIn W F vv vs := by rw [← hW]; exact hF.alloc _
  have hBW : Bk W w.heap.size 30 [vv, .int .i64 F.f.lv, .int .i64 F.f.er, .int .i64 F.wlo, .int .i64 F.whi, vs] := by rw [← hW]; exact Bk.new w _ [_, _, _, _, _, _]
  have hwW : Below w.heap.size w W := by rw [← hW]; exact ballo _ _
  have HFW := Lib.hid hFW
  have HwW := Lib.hid hwW
  have c0 := hBW.cell 0
  have c1 := hBW.cell 1
  have c2 := hBW.cell 2
  have c3 := hBW.cell 3
  have c4 := hBW.cell 4
  have c5 := hBW.cell 5
  have cl := hBW.lt
  simp only [List.getElem?_cons_zero, List.getElem?_cons_succ] at c0 c1 c2 c3 c4 c5
  have HR := Lib.hid hR
  have HL := Lib.hid hL
  have HC := Lib.hid hcan
  clear hFW hBW hwW hF hR hL hcan
  go_enter Tryz.func108, Tryz.ntmps108
  go_wp2_with fail
  try rw [hW]
  clear hW
  refine WpK.begin (S := fun _ => True) (kp := fun _ => true) (f := 10) (up := #[false, false, false, false, false, false, false, false, false, false]) (by kernel_rfl) (by kernel_rfl) (by kernel_rfl) ?_
  refine WpK.weaken (S := fun x => Below W.heap.size W x) (kp := (fun i => decide (i < 9))) (fun _ => trivial) _ ?_
  have hS0 := (show Below W.heap.size W W.drew from (Below.refl _ _).drew)
  refine WpK.take (i := 0) (v := ?_) ((toArray_at _ _).trans rfl) (by kernel_rfl) (by kernel_rfl) (by kernel_rfl) (by kernel_rfl) (by kernel_rfl) (fun _ _ _ h => h) (Or.inl ⟨by rfl, ?_⟩) hS0 ?_
  rotate_left
  · (intro x hx; obtain ⟨hcx, hfx⟩ := bcell hx; go_simp <;> with_reducible rfl)
  try simp only [Act.put, puts]
  refine WpK.take (i := 1) (v := ?_) ((toArray_at _ _).trans rfl) (by kernel_rfl) (by kernel_rfl) (by kernel_rfl) (by kernel_rfl) (by kernel_rfl) (fun _ _ _ h => h) (Or.inl ⟨by rfl, ?_⟩) hS0 ?_
  rotate_left
  · (intro x hx; obtain ⟨hcx, hfx⟩ := bcell hx; go_simp <;> with_reducible rfl)
  try simp only [Act.put, puts]
  clear hS0 c0 c1 c2 c3 c4 c5
  refine WpK.two (i := 2) (k := 7) (by kernel_rfl) ((toArray_at _ _).trans rfl) ((toArray_at _ _).trans rfl) ?_ ?_
  all_goals
    intro K hK
    have HK := Lib.hid hK
    clear hK
  · go_simp
    refine (rAll_any F _ _ _ (HFW.out.below ((Below.drew (Below.refl _ _)))) hO.n).mono ?_
    rintro e W2 ⟨vI, rfl, hb2, hI2⟩
    have hW2 : Below W.heap.size W W2 := Below.trans (Below.drew (Below.refl _ _)) hb2
    refine HK.out _ _ (fun _ => hW2) (fun _ => ?_)
    clear HK K
    try simp only [puts]
    refine WpK.two (i := 3) (k := 7) (by kernel_rfl) ((toArray_at _ _).trans rfl) ((toArray_at _ _).trans rfl) ?_ ?_
    all_goals
      intro K hK
      have HK := Lib.hid hK
      clear hK
    · go_simp
      refine (Of_any F _ _ _ (allL F) _ (HFW.out.below hW2) hO (hI2) (allL_ok F) hlen).mono ?_
      rintro e W3 ⟨s, rfl, hb3, hS3⟩
      have hW3 : Below W.heap.size W W3 := hW2.trans (hb3.mono hW2.size)
      refine HK.out _ _ (fun _ => hW3) (fun _ => ?_)
      clear HK K
      try simp only [puts]
      have hS0 := hW3
      refine WpK.take (i := 4) (v := ?_) ((toArray_at _ _).trans rfl) (by kernel_rfl) (by kernel_rfl) (by kernel_rfl) (by kernel_rfl) (by kernel_rfl) (fun _ _ _ h => h) (Or.inl ⟨by rfl, ?_⟩) hS0 ?_
      rotate_left
      · (intro x hx; clear hx; go_simp <;> with_reducible rfl)
      try simp only [Act.put, puts]
      refine WpK.take (i := 5) (v := ?_) ((toArray_at _ _).trans rfl) (by kernel_rfl) (by kernel_rfl) (by kernel_rfl) (by kernel_rfl) (by kernel_rfl) (fun _ _ _ h => h) (Or.inl ⟨by rfl, ?_⟩) hS0 ?_
      rotate_left
      · (intro x hx; clear hx; go_simp <;> with_reducible rfl)
      try simp only [Act.put, puts]
      refine WpK.take (i := 6) (v := ?_) ((toArray_at _ _).trans rfl) (by kernel_rfl) (by kernel_rfl) (by kernel_rfl) (by kernel_rfl) (by kernel_rfl) (fun _ _ _ h => h) (Or.inl ⟨by rfl, ?_⟩) hS0 ?_
      rotate_left
      · (intro x hx; clear hx; go_simp <;> with_reducible rfl)
      try simp only [Act.put, puts]
      clear hS0
      refine WpK.one (i := 7) (by kernel_rfl) ((toArray_at _ _).trans rfl) ?_
      intro K hK
      have HK := Lib.hid hK
      clear hK
      go_simp
      have hX : Below W.heap.size W (W3.alloc (Obj.cells z7L.toArray 129)) := hW3.alloc hW3.size _
      refine HK.out _ _ (fun _ => hX) (fun _ => ?_)
      clear HK K
      try simp only [puts]
      have hBx := Bk.new W3 129 z7L
      have hOx := owns_below hS3 (ballo W3 (Obj.cells z7L.toArray 129))
      have hne : s.ownBlock ≠ some W3.heap.size := fun e => by have := (World.ownsRow.lt hS3 _ e).2; omega
      have hbk : W.heap.size ≤ W3.heap.size := hW3.size
      refine WpK.one (i := 8) (by kernel_rfl) ((toArray_at _ _).trans rfl) ?_
      intro K hK
      have HK := Lib.hid hK
      clear hK
      go_simp
      refine HK.out _ _ (fun _ => hX) (fun _ => ?_)
      clear HK K
      try simp only [puts]
      refine WpK.one (i := 9) (by kernel_rfl) ((toArray_at _ _).trans rfl) ?_
      intro K hK
      have HK := Lib.hid hK
      clear hK
      refine step_st rfl rfl rfl (cs := inC (rnR F (allL F))) rfl hBx (by kernel_rfl) rfl rfl ?_
      intro WX hkk hsk
      refine HK.out _ _ (fun h => absurd h (by decide)) (fun _ => ?_)
      clear HK K
      try simp only [puts]
      refine WpK.done (by kernel_rfl) ?_
      have hOs := owns_base (base' := W.heap.size) (owns_bes' hOx hsk hne) ((by have := hW2.size; omega))
      have hWX := bes_then hX hsk hbk hX.size
      have HKK := Lib.hid hkk
      have HOS := Lib.hid hOs
      have HWX := Lib.hid hWX
      have HNE := Lib.hid hne
      have HBKK := Lib.hid hbk
      clear hkk hOs hWX hne hsk hX hBx hOx
      have hRow := OwnRl.row HOS.out
      have hLC : RnC (leftR (rnR F (allL F)) (linesL F (allL F))) := outR_bd HL.out HL.out HR.out
      have HROW := Lib.hid hRow
      clear hRow
      go_wp2_with (first | (refine ld_at rfl (T := 129) rfl rfl HKK.out Tryz.underlying129 rfl (by kernel_rfl) ?_) | fail)
      refine (Left_any (linesL F (allL F)) (rnR F (allL F)) _ WX HROW.out HL.out HR.out).mono ?_
      rintro e W4 ⟨rfl, hb4⟩
      go_wp2_with fail
      refine (rSome_any (leftR (rnR F (allL F)) (linesL F (allL F))) W4 hLC.lo hLC.hi).mono ?_
      rintro e W5 ⟨rfl, hb5⟩
      rw [HC.out]
      go_wp2_with fail
      go_ret
      have h1 := HwW.out.trans (HWX.out.mono HwW.out.size)
      exact ⟨rfl, h1.trans ((bthen hb4 hb5).mono h1.size)⟩
    · go_simp
      have hX2 : Below W.heap.size W (W2.alloc (Obj.cells z7L.toArray 129)) := hW2.alloc hW2.size _
      refine HK.out _ _ (fun _ => hX2) (fun _ => ?_)
      clear HK K
      try simp only [puts]
      refine WpK.one (i := 3) (by kernel_rfl) ((toArray_at _ _).trans rfl) ?_
      intro K hK
      have HK := Lib.hid hK
      clear hK
      go_simp
      refine (Of_any F _ _ _ (allL F) _ (HFW.out.below hX2) hO (hI2.alloc _) (allL_ok F) hlen).mono ?_
      rintro e W3 ⟨s, rfl, hb3, hS3⟩
      have hW3 : Below W.heap.size W W3 := hX2.trans (hb3.mono hX2.size)
      refine HK.out _ _ (fun _ => hW3) (fun _ => ?_)
      clear HK K
      try simp only [puts]
      have hS0 := hW3
      refine WpK.take (i := 4) (v := ?_) ((toArray_at _ _).trans rfl) (by kernel_rfl) (by kernel_rfl) (by kernel_rfl) (by kernel_rfl) (by kernel_rfl) (fun _ _ _ h => h) (Or.inl ⟨by rfl, ?_⟩) hS0 ?_
      rotate_left
      · (intro x hx; clear hx; go_simp <;> with_reducible rfl)
      try simp only [Act.put, puts]
      refine WpK.take (i := 5) (v := ?_) ((toArray_at _ _).trans rfl) (by kernel_rfl) (by kernel_rfl) (by kernel_rfl) (by kernel_rfl) (by kernel_rfl) (fun _ _ _ h => h) (Or.inl ⟨by rfl, ?_⟩) hS0 ?_
      rotate_left
      · (intro x hx; clear hx; go_simp <;> with_reducible rfl)
      try simp only [Act.put, puts]
      refine WpK.take (i := 6) (v := ?_) ((toArray_at _ _).trans rfl) (by kernel_rfl) (by kernel_rfl) (by kernel_rfl) (by kernel_rfl) (by kernel_rfl) (fun _ _ _ h => h) (Or.inl ⟨by rfl, ?_⟩) hS0 ?_
      rotate_left
      · (intro x hx; clear hx; go_simp <;> with_reducible rfl)
      try simp only [Act.put, puts]
      clear hS0
      have hX := hW3
      have hBx := (Bk.new W2 129 z7L).below hb3
      have hOx := hS3
      have hne : s.ownBlock ≠ some W2.heap.size := fun e => by have := (World.ownsRow.lt hS3 _ e).1; simp at this; omega
      have hbk : W.heap.size ≤ W2.heap.size := hW2.size
      refine WpK.one (i := 8) (by kernel_rfl) ((toArray_at _ _).trans rfl) ?_
      intro K hK
      have HK := Lib.hid hK
      clear hK
      go_simp
      refine HK.out _ _ (fun _ => hX) (fun _ => ?_)
      clear HK K
      try simp only [puts]
      refine WpK.one (i := 9) (by kernel_rfl) ((toArray_at _ _).trans rfl) ?_
      intro K hK
      have HK := Lib.hid hK
      clear hK
      refine step_st rfl rfl rfl (cs := inC (rnR F (allL F))) rfl hBx (by kernel_rfl) rfl rfl ?_
      intro WX hkk hsk
      refine HK.out _ _ (fun h => absurd h (by decide)) (fun _ => ?_)
      clear HK K
      try simp only [puts]
      refine WpK.done (by kernel_rfl) ?_
      have hOs := owns_base (base' := W.heap.size) (owns_bes' hOx hsk hne) ((by have := hX2.size; omega))
      have hWX := bes_then hX hsk hbk hX.size
      have HKK := Lib.hid hkk
      have HOS := Lib.hid hOs
      have HWX := Lib.hid hWX
      have HNE := Lib.hid hne
      have HBKK := Lib.hid hbk
      clear hkk hOs hWX hne hsk hX hBx hOx
      have hRow := OwnRl.row HOS.out
      have hLC : RnC (leftR (rnR F (allL F)) (linesL F (allL F))) := outR_bd HL.out HL.out HR.out
      have HROW := Lib.hid hRow
      clear hRow
      go_wp2_with (first | (refine ld_at rfl (T := 129) rfl rfl HKK.out Tryz.underlying129 rfl (by kernel_rfl) ?_) | fail)
      refine (Left_any (linesL F (allL F)) (rnR F (allL F)) _ WX HROW.out HL.out HR.out).mono ?_
      rintro e W4 ⟨rfl, hb4⟩
      go_wp2_with fail
      refine (rSome_any (leftR (rnR F (allL F)) (linesL F (allL F))) W4 hLC.lo hLC.hi).mono ?_
      rintro e W5 ⟨rfl, hb5⟩
      rw [HC.out]
      go_wp2_with fail
      go_ret
      have h1 := HwW.out.trans (HWX.out.mono HwW.out.size)
      exact ⟨rfl, h1.trans ((bthen hb4 hb5).mono h1.size)⟩
  · go_simp
    have hX1 : Below W.heap.size W (W.drew.alloc (Obj.cells z7L.toArray 129)) := (Below.drew (Below.refl _ _)).alloc (Nat.le_refl _) _
    refine HK.out _ _ (fun _ => hX1) (fun _ => ?_)
    clear HK K
    try simp only [puts]
    refine WpK.one (i := 2) (by kernel_rfl) ((toArray_at _ _).trans rfl) ?_
    intro K hK
    have HK := Lib.hid hK
    clear hK
    go_simp
    refine (rAll_any F _ _ _ (HFW.out.below (hX1)) hO.n).mono ?_
    rintro e W2 ⟨vI, rfl, hb2, hI2⟩
    have hW2 : Below W.heap.size W W2 := hX1.trans (hb2.mono hX1.size)
    refine HK.out _ _ (fun _ => hW2) (fun _ => ?_)
    clear HK K
    try simp only [puts]
    refine WpK.one (i := 3) (by kernel_rfl) ((toArray_at _ _).trans rfl) ?_
    intro K hK
    have HK := Lib.hid hK
    clear hK
    go_simp
    refine (Of_any F _ _ _ (allL F) _ (HFW.out.below hW2) hO (hI2) (allL_ok F) hlen).mono ?_
    rintro e W3 ⟨s, rfl, hb3, hS3⟩
    have hW3 : Below W.heap.size W W3 := hW2.trans (hb3.mono hW2.size)
    refine HK.out _ _ (fun _ => hW3) (fun _ => ?_)
    clear HK K
    try simp only [puts]
    have hS0 := hW3
    refine WpK.take (i := 4) (v := ?_) ((toArray_at _ _).trans rfl) (by kernel_rfl) (by kernel_rfl) (by kernel_rfl) (by kernel_rfl) (by kernel_rfl) (fun _ _ _ h => h) (Or.inl ⟨by rfl, ?_⟩) hS0 ?_
    rotate_left
    · (intro x hx; clear hx; go_simp <;> with_reducible rfl)
    try simp only [Act.put, puts]
    refine WpK.take (i := 5) (v := ?_) ((toArray_at _ _).trans rfl) (by kernel_rfl) (by kernel_rfl) (by kernel_rfl) (by kernel_rfl) (by kernel_rfl) (fun _ _ _ h => h) (Or.inl ⟨by rfl, ?_⟩) hS0 ?_
    rotate_left
    · (intro x hx; clear hx; go_simp <;> with_reducible rfl)
    try simp only [Act.put, puts]
    refine WpK.take (i := 6) (v := ?_) ((toArray_at _ _).trans rfl) (by kernel_rfl) (by kernel_rfl) (by kernel_rfl) (by kernel_rfl) (by kernel_rfl) (fun _ _ _ h => h) (Or.inl ⟨by rfl, ?_⟩) hS0 ?_
    rotate_left
    · (intro x hx; clear hx; go_simp <;> with_reducible rfl)
    try simp only [Act.put, puts]
    clear hS0
    have hX := hW3
    have hBx : Bk W3 W.heap.size 129 z7L := ((Bk.new W.drew 129 z7L).below hb2).below hb3
    have hOx := hS3
    have hne : s.ownBlock ≠ some W.heap.size := fun e => by have := (World.ownsRow.lt hS3 _ e).1; have := hb2.size; simp at this; omega
    have hbk : W.heap.size ≤ W.heap.size := Nat.le_refl _
    refine WpK.one (i := 8) (by kernel_rfl) ((toArray_at _ _).trans rfl) ?_
    intro K hK
    have HK := Lib.hid hK
    clear hK
    go_simp
    refine HK.out _ _ (fun _ => hX) (fun _ => ?_)
    clear HK K
    try simp only [puts]
    refine WpK.one (i := 9) (by kernel_rfl) ((toArray_at _ _).trans rfl) ?_
    intro K hK
    have HK := Lib.hid hK
    clear hK
    refine step_st rfl rfl rfl (cs := inC (rnR F (allL F))) rfl hBx (by kernel_rfl) rfl rfl ?_
    intro WX hkk hsk
    refine HK.out _ _ (fun h => absurd h (by decide)) (fun _ => ?_)
    clear HK K
    try simp only [puts]
    refine WpK.done (by kernel_rfl) ?_
    have hOs := owns_base (base' := W.heap.size) (owns_bes' hOx hsk hne) ((by have := hW2.size; omega))
    have hWX := bes_then hX hsk hbk hX.size
    have HKK := Lib.hid hkk
    have HOS := Lib.hid hOs
    have HWX := Lib.hid hWX
    have HNE := Lib.hid hne
    have HBKK := Lib.hid hbk
    clear hkk hOs hWX hne hsk hX hBx hOx
    have hRow := OwnRl.row HOS.out
    have hLC : RnC (leftR (rnR F (allL F)) (linesL F (allL F))) := outR_bd HL.out HL.out HR.out
    have HROW := Lib.hid hRow
    clear hRow
    go_wp2_with (first | (refine ld_at rfl (T := 129) rfl rfl HKK.out Tryz.underlying129 rfl (by kernel_rfl) ?_) | fail)
    refine (Left_any (linesL F (allL F)) (rnR F (allL F)) _ WX HROW.out HL.out HR.out).mono ?_
    rintro e W4 ⟨rfl, hb4⟩
    go_wp2_with fail
    refine (rSome_any (leftR (rnR F (allL F)) (linesL F (allL F))) W4 hLC.lo hLC.hi).mono ?_
    rintro e W5 ⟨rfl, hb5⟩
    rw [HC.out]
    go_wp2_with fail
    go_ret
    have h1 := HwW.out.trans (HWX.out.mono HwW.out.size)
    exact ⟨rfl, h1.trans ((bthen hb4 hb5).mono h1.size)⟩
set_option maxRecDepth 100000 in
set_option maxHeartbeats 4000000 in
theorem rcan_any (F : Fl) (vv vs : Value) (x : Ln × Bool) (w : World) (hF : FlIn w F vv vs) (hO : OkF F) (hx : LnB x.1) :
    Calls Tryz.prog 98 #[flV F vv vs, rlV x] w fun e w' => e = .returned (.bool (canM F (allL F) x)) ∧ Below w.heap.size w w' := by
  have hlen : (allL F).length ≤ 1000 := by rw [all_len]; have := hO.n; omega
  have hR := rnR_c hO (allL F)
  have hL : ∀ y ∈ linesL F (allL F) ++ [x], LnB y.1 := fun y hy => by
    rcases List.mem_append.1 hy with h | h
    · exact lines_B1 hO (allL_ok F) y h
    · obtain rfl : y = x := by simpa using h
      exact hx
  have hll := lines_len F (allL F)
  have hcan : (leftR (rnR F (allL F)) (linesL F (allL F) ++ [x])).some = canM F (allL F) x := canM_R hO (fun i hi => (allL_ok F i hi).2) hx.d0
  obtain ⟨W, hW⟩ : ∃ W, (w.alloc (flO F vv vs)).alloc (Obj.cells (rlC x).toArray 139) = W := ⟨_, rfl⟩
  have hFW : FlIn W F vv vs := by rw [← hW]; exact (hF.alloc _).alloc _
  have hBW : Bk W w.heap.size 30 [vv, .int .i64 F.f.lv, .int .i64 F.f.er, .int .i64 F.wlo, .int .i64 F.whi, vs] := by rw [← hW]; exact (Bk.new w _ [_, _, _, _, _, _]).alloc _
  have hLW : Bk W (w.heap.size + 1) 139 (rlC x) := by rw [← hW]; exact Bk.new1 w _ _ (rlC x)
  have hwW : Below w.heap.size w W := by rw [← hW]; exact (ballo _ _).alloc (by simp) _
  have HFW := Lib.hid hFW
  have HwW := Lib.hid hwW
  have HLW := Lib.hid hLW
  have c0 := hBW.cell 0
  have c1 := hBW.cell 1
  have c2 := hBW.cell 2
  have c3 := hBW.cell 3
  have c4 := hBW.cell 4
  have c5 := hBW.cell 5
  have cl := hBW.lt
  simp only [List.getElem?_cons_zero, List.getElem?_cons_succ] at c0 c1 c2 c3 c4 c5
  have HR := Lib.hid hR
  have HL := Lib.hid hL
  have HC := Lib.hid hcan
  clear hFW hBW hwW hF hR hL hcan hLW hx
  go_enter Tryz.func98, Tryz.ntmps98
  go_wp2_with fail
  try rw [hW]
  clear hW
  refine WpK.begin (S := fun _ => True) (kp := fun _ => true) (f := 10) (up := #[false, false, false, false, false, false, false, false, false, false]) (by kernel_rfl) (by kernel_rfl) (by kernel_rfl) ?_
  refine WpK.weaken (S := fun x => Below W.heap.size W x) (kp := (fun i => decide (i < 9))) (fun _ => trivial) _ ?_
  have hS0 := (show Below W.heap.size W W.drew from (Below.refl _ _).drew)
  refine WpK.take (i := 0) (v := ?_) ((toArray_at _ _).trans rfl) (by kernel_rfl) (by kernel_rfl) (by kernel_rfl) (by kernel_rfl) (by kernel_rfl) (fun _ _ _ h => h) (Or.inl ⟨by rfl, ?_⟩) hS0 ?_
  rotate_left
  · (intro x hx; obtain ⟨hcx, hfx⟩ := bcell hx; go_simp <;> with_reducible rfl)
  try simp only [Act.put, puts]
  refine WpK.take (i := 1) (v := ?_) ((toArray_at _ _).trans rfl) (by kernel_rfl) (by kernel_rfl) (by kernel_rfl) (by kernel_rfl) (by kernel_rfl) (fun _ _ _ h => h) (Or.inl ⟨by rfl, ?_⟩) hS0 ?_
  rotate_left
  · (intro x hx; obtain ⟨hcx, hfx⟩ := bcell hx; go_simp <;> with_reducible rfl)
  try simp only [Act.put, puts]
  clear hS0 c0 c1 c2 c3 c4 c5
  refine WpK.two (i := 2) (k := 7) (by kernel_rfl) ((toArray_at _ _).trans rfl) ((toArray_at _ _).trans rfl) ?_ ?_
  all_goals
    intro K hK
    have HK := Lib.hid hK
    clear hK
  · go_simp
    refine (rAll_any F _ _ _ (HFW.out.below ((Below.drew (Below.refl _ _)))) hO.n).mono ?_
    rintro e W2 ⟨vI, rfl, hb2, hI2⟩
    have hW2 : Below W.heap.size W W2 := Below.trans (Below.drew (Below.refl _ _)) hb2
    refine HK.out _ _ (fun _ => hW2) (fun _ => ?_)
    clear HK K
    try simp only [puts]
    refine WpK.two (i := 3) (k := 7) (by kernel_rfl) ((toArray_at _ _).trans rfl) ((toArray_at _ _).trans rfl) ?_ ?_
    all_goals
      intro K hK
      have HK := Lib.hid hK
      clear hK
    · go_simp
      refine (Of_any F _ _ _ (allL F) _ (HFW.out.below hW2) hO (hI2) (allL_ok F) hlen).mono ?_
      rintro e W3 ⟨s, rfl, hb3, hS3⟩
      have hW3 : Below W.heap.size W W3 := hW2.trans (hb3.mono hW2.size)
      refine HK.out _ _ (fun _ => hW3) (fun _ => ?_)
      clear HK K
      try simp only [puts]
      have hS0 := hW3
      refine WpK.take (i := 4) (v := ?_) ((toArray_at _ _).trans rfl) (by kernel_rfl) (by kernel_rfl) (by kernel_rfl) (by kernel_rfl) (by kernel_rfl) (fun _ _ _ h => h) (Or.inl ⟨by rfl, ?_⟩) hS0 ?_
      rotate_left
      · (intro x hx; clear hx; go_simp <;> with_reducible rfl)
      try simp only [Act.put, puts]
      refine WpK.take (i := 5) (v := ?_) ((toArray_at _ _).trans rfl) (by kernel_rfl) (by kernel_rfl) (by kernel_rfl) (by kernel_rfl) (by kernel_rfl) (fun _ _ _ h => h) (Or.inl ⟨by rfl, ?_⟩) hS0 ?_
      rotate_left
      · (intro x hx; clear hx; go_simp <;> with_reducible rfl)
      try simp only [Act.put, puts]
      refine WpK.take (i := 6) (v := ?_) ((toArray_at _ _).trans rfl) (by kernel_rfl) (by kernel_rfl) (by kernel_rfl) (by kernel_rfl) (by kernel_rfl) (fun _ _ _ h => h) (Or.inl ⟨by rfl, ?_⟩) hS0 ?_
      rotate_left
      · (intro x hx; clear hx; go_simp <;> with_reducible rfl)
      try simp only [Act.put, puts]
      clear hS0
      refine WpK.one (i := 7) (by kernel_rfl) ((toArray_at _ _).trans rfl) ?_
      intro K hK
      have HK := Lib.hid hK
      clear hK
      go_simp
      have hX : Below W.heap.size W (W3.alloc (Obj.cells z7L.toArray 129)) := hW3.alloc hW3.size _
      refine HK.out _ _ (fun _ => hX) (fun _ => ?_)
      clear HK K
      try simp only [puts]
      have hBx := Bk.new W3 129 z7L
      have hOx := owns_below hS3 (ballo W3 (Obj.cells z7L.toArray 129))
      have hne : s.ownBlock ≠ some W3.heap.size := fun e => by have := (World.ownsRow.lt hS3 _ e).2; omega
      have hbk : W.heap.size ≤ W3.heap.size := hW3.size
      refine WpK.one (i := 8) (by kernel_rfl) ((toArray_at _ _).trans rfl) ?_
      intro K hK
      have HK := Lib.hid hK
      clear hK
      go_simp
      refine HK.out _ _ (fun _ => hX) (fun _ => ?_)
      clear HK K
      try simp only [puts]
      refine WpK.one (i := 9) (by kernel_rfl) ((toArray_at _ _).trans rfl) ?_
      intro K hK
      have HK := Lib.hid hK
      clear hK
      refine step_st rfl rfl rfl (cs := inC (rnR F (allL F))) rfl hBx (by kernel_rfl) rfl rfl ?_
      intro WX hkk hsk
      refine HK.out _ _ (fun h => absurd h (by decide)) (fun _ => ?_)
      clear HK K
      try simp only [puts]
      refine WpK.done (by kernel_rfl) ?_
      have hOs := owns_base (base' := W.heap.size) (owns_bes' hOx hsk hne) ((by have := hW2.size; omega))
      have hWX := bes_then hX hsk hbk hX.size
      have HKK := Lib.hid hkk
      have HOS := Lib.hid hOs
      have HWX := Lib.hid hWX
      have HNE := Lib.hid hne
      have HBKK := Lib.hid hbk
      clear hkk hOs hWX hne hsk hX hBx hOx
      have hLX := HLW.out.below HWX.out
      have HLX := Lib.hid hLX
      have hLC : RnC (leftR (rnR F (allL F)) (linesL F (allL F) ++ [x])) := outR_bd HL.out HL.out HR.out
      have hsz := HWX.out.size
      clear hLX
      go_wp2_with fail
      refine WpK.begin (S := fun _ => True) (kp := fun _ => true) (f := 8) (up := #[false, false, false, false, false, false, false, false]) (by kernel_rfl) (by kernel_rfl) (by kernel_rfl) ?_
      refine WpK.take (i := 0) (v := ?_) ((toArray_at _ _).trans rfl) (by kernel_rfl) (by kernel_rfl) (by kernel_rfl) (by kernel_rfl) (by kernel_rfl) (fun _ _ _ h => h) (Or.inl ⟨by rfl, ?_⟩) trivial ?_
      rotate_left
      · (intro x hx; go_simp <;> with_reducible rfl)
      simp only [Act.put, puts]
      refine WpK.weaken (S := fun y => Bk y (W3.heap.size) 129 (inC (rnR F (allL F))) ∧ Bk y (w.heap.size + 1) 139 (rlC x)) (kp := (fun i => decide (i < 5))) (fun _ => trivial) _ ?_
      have hS0 := (show Bk WX.drew (W3.heap.size) 129 (inC (rnR F (allL F))) ∧ Bk WX.drew (w.heap.size + 1) 139 (rlC x) from ⟨HKK.out.drew, HLX.out.drew⟩)
      refine WpK.take (i := 1) (v := ?_) ((toArray_at _ _).trans rfl) (by kernel_rfl) (by kernel_rfl) (by kernel_rfl) (by kernel_rfl) (by kernel_rfl) (fun _ _ _ h => h) (Or.inl ⟨by rfl, ?_⟩) hS0 ?_
      rotate_left
      · (intro x hx; obtain ⟨hx1, hx2⟩ := hx; have q0 := hx2.cell 0; have q1 := hx2.cell 1; have q2 := hx2.cell 2; have q3 := hx2.cell 3; have q4 := hx2.cell 4; have ql := hx2.lt; simp only [rlC, List.getElem?_cons_zero, List.getElem?_cons_succ] at q0 q1 q2 q3 q4; go_simp <;> with_reducible rfl)
      try simp only [Act.put, puts]
      refine WpK.take (i := 4) (v := ?_) ((toArray_at _ _).trans rfl) (by kernel_rfl) (by kernel_rfl) (by kernel_rfl) (by kernel_rfl) (by kernel_rfl) (fun _ _ _ h => h) (Or.inl ⟨by rfl, ?_⟩) hS0 ?_
      rotate_left
      · (intro x hx; obtain ⟨hx1, hx2⟩ := hx; have q0 := hx1.cell 0; have q1 := hx1.cell 1; have q2 := hx1.cell 2; have q3 := hx1.cell 3; have q4 := hx1.cell 4; have q5 := hx1.cell 5; have q6 := hx1.cell 6; have ql := hx1.lt; simp only [inC, List.getElem?_cons_zero, List.getElem?_cons_succ] at q0 q1 q2 q3 q4 q5 q6; go_simp <;> with_reducible rfl)
      try simp only [Act.put, puts]
      clear hS0
      refine WpK.one (i := 2) (by kernel_rfl) ((toArray_at _ _).trans rfl) ?_
      intro K hK
      have HK := Lib.hid hK
      clear hK
      go_simp
      refine HK.out _ _ (fun _ => ⟨HKK.out.drew.alloc _, HLX.out.drew.alloc _⟩) (fun _ => ?_)
      clear HK K
      try simp only [puts]
      refine WpK.one (i := 3) (by kernel_rfl) ((toArray_at _ _).trans rfl) ?_
      intro K hK
      have HK := Lib.hid hK
      clear hK
      have hM : OwnRl (WX.drew.alloc (Obj.cells (rlC x).toArray 139)) 0 (.slice (some ⟨WX.drew.heap.size, 0, none⟩) 1 1) [x] := own_bk (Bk.new _ _ (rlC x)) (Nat.zero_le _) (by simp) (by unfold maxLen; omega)
      refine step_rl rfl (.tmp 14) (.tmp 16) rfl W.heap.size _ (linesL F (allL F)) [x] rfl (owns_below HOS.out ((Below.drew (Below.refl _ _)).alloc (Nat.le_refl _) _)) 0 _ rfl hM (by simp) (by simp; omega) (by simp; omega) ?_
      intro g cc q hO3 hP3 hG3 hN3
      have hP4 : Below W.heap.size W q := HWX.out.trans (Below.trans ((Below.drew (Below.refl _ _)).alloc hsz _) hP3)
      have hS3 : Bk q (W3.heap.size) 129 (inC (rnR F (allL F))) ∧ Bk q (w.heap.size + 1) 139 (rlC x) := ⟨(HKK.out.drew.alloc _).grown hG3 HNE.out, HLW.out.below hP4⟩
      refine HK.out _ _ (fun _ => hS3) (fun _ => ?_)
      clear HK K
      try simp only [puts]
      have hRow := OwnRl.row hO3
      refine WpK.one (i := 5) (by kernel_rfl) ((toArray_at _ _).trans rfl) ?_
      intro K hK
      have HK := Lib.hid hK
      clear hK
      go_simp
      refine (Left_any (linesL F (allL F) ++ [x]) (rnR F (allL F)) _ q hRow HL.out HR.out).mono ?_
      rintro e W4 ⟨rfl, hb4⟩
      refine HK.out _ _ (fun h => absurd h (by decide)) (fun _ => ?_)
      clear HK K
      try simp only [puts]
      refine WpK.one (i := 6) (by kernel_rfl) ((toArray_at _ _).trans rfl) ?_
      intro K hK
      have HK := Lib.hid hK
      clear hK
      go_simp
      refine (rSome_any (leftR (rnR F (allL F)) (linesL F (allL F) ++ [x])) W4 hLC.lo hLC.hi).mono ?_
      rintro e W5 ⟨rfl, hb5⟩
      rw [HC.out]
      refine HK.out _ _ (fun h => absurd h (by decide)) (fun _ => ?_)
      clear HK K
      try simp only [puts]
      refine WpK.one (i := 7) (by kernel_rfl) ((toArray_at _ _).trans rfl) ?_
      intro K hK
      have HK := Lib.hid hK
      clear hK
      go_simp
      refine HK.out _ _ (fun h => absurd h (by decide)) (fun _ => ?_)
      clear HK K
      try simp only [puts]
      refine WpK.done (by kernel_rfl) ?_
      go_wp2_with fail
      go_ret
      have h1 := HwW.out.trans (hP4.mono HwW.out.size)
      exact ⟨rfl, h1.trans ((bthen hb4 hb5).mono h1.size)⟩
    · go_simp
      have hX2 : Below W.heap.size W (W2.alloc (Obj.cells z7L.toArray 129)) := hW2.alloc hW2.size _
      refine HK.out _ _ (fun _ => hX2) (fun _ => ?_)
      clear HK K
      try simp only [puts]
      refine WpK.one (i := 3) (by kernel_rfl) ((toArray_at _ _).trans rfl) ?_
      intro K hK
      have HK := Lib.hid hK
      clear hK
      go_simp
      refine (Of_any F _ _ _ (allL F) _ (HFW.out.below hX2) hO (hI2.alloc _) (allL_ok F) hlen).mono ?_
      rintro e W3 ⟨s, rfl, hb3, hS3⟩
      have hW3 : Below W.heap.size W W3 := hX2.trans (hb3.mono hX2.size)
      refine HK.out _ _ (fun _ => hW3) (fun _ => ?_)
      clear HK K
      try simp only [puts]
      have hS0 := hW3
      refine WpK.take (i := 4) (v := ?_) ((toArray_at _ _).trans rfl) (by kernel_rfl) (by kernel_rfl) (by kernel_rfl) (by kernel_rfl) (by kernel_rfl) (fun _ _ _ h => h) (Or.inl ⟨by rfl, ?_⟩) hS0 ?_
      rotate_left
      · (intro x hx; clear hx; go_simp <;> with_reducible rfl)
      try simp only [Act.put, puts]
      refine WpK.take (i := 5) (v := ?_) ((toArray_at _ _).trans rfl) (by kernel_rfl) (by kernel_rfl) (by kernel_rfl) (by kernel_rfl) (by kernel_rfl) (fun _ _ _ h => h) (Or.inl ⟨by rfl, ?_⟩) hS0 ?_
      rotate_left
      · (intro x hx; clear hx; go_simp <;> with_reducible rfl)
      try simp only [Act.put, puts]
      refine WpK.take (i := 6) (v := ?_) ((toArray_at _ _).trans rfl) (by kernel_rfl) (by kernel_rfl) (by kernel_rfl) (by kernel_rfl) (by kernel_rfl) (fun _ _ _ h => h) (Or.inl ⟨by rfl, ?_⟩) hS0 ?_
      rotate_left
      · (intro x hx; clear hx; go_simp <;> with_reducible rfl)
      try simp only [Act.put, puts]
      clear hS0
      have hX := hW3
      have hBx := (Bk.new W2 129 z7L).below hb3
      have hOx := hS3
      have hne : s.ownBlock ≠ some W2.heap.size := fun e => by have := (World.ownsRow.lt hS3 _ e).1; simp at this; omega
      have hbk : W.heap.size ≤ W2.heap.size := hW2.size
      refine WpK.one (i := 8) (by kernel_rfl) ((toArray_at _ _).trans rfl) ?_
      intro K hK
      have HK := Lib.hid hK
      clear hK
      go_simp
      refine HK.out _ _ (fun _ => hX) (fun _ => ?_)
      clear HK K
      try simp only [puts]
      refine WpK.one (i := 9) (by kernel_rfl) ((toArray_at _ _).trans rfl) ?_
      intro K hK
      have HK := Lib.hid hK
      clear hK
      refine step_st rfl rfl rfl (cs := inC (rnR F (allL F))) rfl hBx (by kernel_rfl) rfl rfl ?_
      intro WX hkk hsk
      refine HK.out _ _ (fun h => absurd h (by decide)) (fun _ => ?_)
      clear HK K
      try simp only [puts]
      refine WpK.done (by kernel_rfl) ?_
      have hOs := owns_base (base' := W.heap.size) (owns_bes' hOx hsk hne) ((by have := hX2.size; omega))
      have hWX := bes_then hX hsk hbk hX.size
      have HKK := Lib.hid hkk
      have HOS := Lib.hid hOs
      have HWX := Lib.hid hWX
      have HNE := Lib.hid hne
      have HBKK := Lib.hid hbk
      clear hkk hOs hWX hne hsk hX hBx hOx
      have hLX := HLW.out.below HWX.out
      have HLX := Lib.hid hLX
      have hLC : RnC (leftR (rnR F (allL F)) (linesL F (allL F) ++ [x])) := outR_bd HL.out HL.out HR.out
      have hsz := HWX.out.size
      clear hLX
      go_wp2_with fail
      refine WpK.begin (S := fun _ => True) (kp := fun _ => true) (f := 8) (up := #[false, false, false, false, false, false, false, false]) (by kernel_rfl) (by kernel_rfl) (by kernel_rfl) ?_
      refine WpK.take (i := 0) (v := ?_) ((toArray_at _ _).trans rfl) (by kernel_rfl) (by kernel_rfl) (by kernel_rfl) (by kernel_rfl) (by kernel_rfl) (fun _ _ _ h => h) (Or.inl ⟨by rfl, ?_⟩) trivial ?_
      rotate_left
      · (intro x hx; go_simp <;> with_reducible rfl)
      simp only [Act.put, puts]
      refine WpK.weaken (S := fun y => Bk y (W2.heap.size) 129 (inC (rnR F (allL F))) ∧ Bk y (w.heap.size + 1) 139 (rlC x)) (kp := (fun i => decide (i < 5))) (fun _ => trivial) _ ?_
      have hS0 := (show Bk WX.drew (W2.heap.size) 129 (inC (rnR F (allL F))) ∧ Bk WX.drew (w.heap.size + 1) 139 (rlC x) from ⟨HKK.out.drew, HLX.out.drew⟩)
      refine WpK.take (i := 1) (v := ?_) ((toArray_at _ _).trans rfl) (by kernel_rfl) (by kernel_rfl) (by kernel_rfl) (by kernel_rfl) (by kernel_rfl) (fun _ _ _ h => h) (Or.inl ⟨by rfl, ?_⟩) hS0 ?_
      rotate_left
      · (intro x hx; obtain ⟨hx1, hx2⟩ := hx; have q0 := hx2.cell 0; have q1 := hx2.cell 1; have q2 := hx2.cell 2; have q3 := hx2.cell 3; have q4 := hx2.cell 4; have ql := hx2.lt; simp only [rlC, List.getElem?_cons_zero, List.getElem?_cons_succ] at q0 q1 q2 q3 q4; go_simp <;> with_reducible rfl)
      try simp only [Act.put, puts]
      refine WpK.take (i := 4) (v := ?_) ((toArray_at _ _).trans rfl) (by kernel_rfl) (by kernel_rfl) (by kernel_rfl) (by kernel_rfl) (by kernel_rfl) (fun _ _ _ h => h) (Or.inl ⟨by rfl, ?_⟩) hS0 ?_
      rotate_left
      · (intro x hx; obtain ⟨hx1, hx2⟩ := hx; have q0 := hx1.cell 0; have q1 := hx1.cell 1; have q2 := hx1.cell 2; have q3 := hx1.cell 3; have q4 := hx1.cell 4; have q5 := hx1.cell 5; have q6 := hx1.cell 6; have ql := hx1.lt; simp only [inC, List.getElem?_cons_zero, List.getElem?_cons_succ] at q0 q1 q2 q3 q4 q5 q6; go_simp <;> with_reducible rfl)
      try simp only [Act.put, puts]
      clear hS0
      refine WpK.one (i := 2) (by kernel_rfl) ((toArray_at _ _).trans rfl) ?_
      intro K hK
      have HK := Lib.hid hK
      clear hK
      go_simp
      refine HK.out _ _ (fun _ => ⟨HKK.out.drew.alloc _, HLX.out.drew.alloc _⟩) (fun _ => ?_)
      clear HK K
      try simp only [puts]
      refine WpK.one (i := 3) (by kernel_rfl) ((toArray_at _ _).trans rfl) ?_
      intro K hK
      have HK := Lib.hid hK
      clear hK
      have hM : OwnRl (WX.drew.alloc (Obj.cells (rlC x).toArray 139)) 0 (.slice (some ⟨WX.drew.heap.size, 0, none⟩) 1 1) [x] := own_bk (Bk.new _ _ (rlC x)) (Nat.zero_le _) (by simp) (by unfold maxLen; omega)
      refine step_rl rfl (.tmp 14) (.tmp 16) rfl W.heap.size _ (linesL F (allL F)) [x] rfl (owns_below HOS.out ((Below.drew (Below.refl _ _)).alloc (Nat.le_refl _) _)) 0 _ rfl hM (by simp) (by simp; omega) (by simp; omega) ?_
      intro g cc q hO3 hP3 hG3 hN3
      have hP4 : Below W.heap.size W q := HWX.out.trans (Below.trans ((Below.drew (Below.refl _ _)).alloc hsz _) hP3)
      have hS3 : Bk q (W2.heap.size) 129 (inC (rnR F (allL F))) ∧ Bk q (w.heap.size + 1) 139 (rlC x) := ⟨(HKK.out.drew.alloc _).grown hG3 HNE.out, HLW.out.below hP4⟩
      refine HK.out _ _ (fun _ => hS3) (fun _ => ?_)
      clear HK K
      try simp only [puts]
      have hRow := OwnRl.row hO3
      refine WpK.one (i := 5) (by kernel_rfl) ((toArray_at _ _).trans rfl) ?_
      intro K hK
      have HK := Lib.hid hK
      clear hK
      go_simp
      refine (Left_any (linesL F (allL F) ++ [x]) (rnR F (allL F)) _ q hRow HL.out HR.out).mono ?_
      rintro e W4 ⟨rfl, hb4⟩
      refine HK.out _ _ (fun h => absurd h (by decide)) (fun _ => ?_)
      clear HK K
      try simp only [puts]
      refine WpK.one (i := 6) (by kernel_rfl) ((toArray_at _ _).trans rfl) ?_
      intro K hK
      have HK := Lib.hid hK
      clear hK
      go_simp
      refine (rSome_any (leftR (rnR F (allL F)) (linesL F (allL F) ++ [x])) W4 hLC.lo hLC.hi).mono ?_
      rintro e W5 ⟨rfl, hb5⟩
      rw [HC.out]
      refine HK.out _ _ (fun h => absurd h (by decide)) (fun _ => ?_)
      clear HK K
      try simp only [puts]
      refine WpK.one (i := 7) (by kernel_rfl) ((toArray_at _ _).trans rfl) ?_
      intro K hK
      have HK := Lib.hid hK
      clear hK
      go_simp
      refine HK.out _ _ (fun h => absurd h (by decide)) (fun _ => ?_)
      clear HK K
      try simp only [puts]
      refine WpK.done (by kernel_rfl) ?_
      go_wp2_with fail
      go_ret
      have h1 := HwW.out.trans (hP4.mono HwW.out.size)
      exact ⟨rfl, h1.trans ((bthen hb4 hb5).mono h1.size)⟩
  · go_simp
    have hX1 : Below W.heap.size W (W.drew.alloc (Obj.cells z7L.toArray 129)) := (Below.drew (Below.refl _ _)).alloc (Nat.le_refl _) _
    refine HK.out _ _ (fun _ => hX1) (fun _ => ?_)
    clear HK K
    try simp only [puts]
    refine WpK.one (i := 2) (by kernel_rfl) ((toArray_at _ _).trans rfl) ?_
    intro K hK
    have HK := Lib.hid hK
    clear hK
    go_simp
    refine (rAll_any F _ _ _ (HFW.out.below (hX1)) hO.n).mono ?_
    rintro e W2 ⟨vI, rfl, hb2, hI2⟩
    have hW2 : Below W.heap.size W W2 := hX1.trans (hb2.mono hX1.size)
    refine HK.out _ _ (fun _ => hW2) (fun _ => ?_)
    clear HK K
    try simp only [puts]
    refine WpK.one (i := 3) (by kernel_rfl) ((toArray_at _ _).trans rfl) ?_
    intro K hK
    have HK := Lib.hid hK
    clear hK
    go_simp
    refine (Of_any F _ _ _ (allL F) _ (HFW.out.below hW2) hO (hI2) (allL_ok F) hlen).mono ?_
    rintro e W3 ⟨s, rfl, hb3, hS3⟩
    have hW3 : Below W.heap.size W W3 := hW2.trans (hb3.mono hW2.size)
    refine HK.out _ _ (fun _ => hW3) (fun _ => ?_)
    clear HK K
    try simp only [puts]
    have hS0 := hW3
    refine WpK.take (i := 4) (v := ?_) ((toArray_at _ _).trans rfl) (by kernel_rfl) (by kernel_rfl) (by kernel_rfl) (by kernel_rfl) (by kernel_rfl) (fun _ _ _ h => h) (Or.inl ⟨by rfl, ?_⟩) hS0 ?_
    rotate_left
    · (intro x hx; clear hx; go_simp <;> with_reducible rfl)
    try simp only [Act.put, puts]
    refine WpK.take (i := 5) (v := ?_) ((toArray_at _ _).trans rfl) (by kernel_rfl) (by kernel_rfl) (by kernel_rfl) (by kernel_rfl) (by kernel_rfl) (fun _ _ _ h => h) (Or.inl ⟨by rfl, ?_⟩) hS0 ?_
    rotate_left
    · (intro x hx; clear hx; go_simp <;> with_reducible rfl)
    try simp only [Act.put, puts]
    refine WpK.take (i := 6) (v := ?_) ((toArray_at _ _).trans rfl) (by kernel_rfl) (by kernel_rfl) (by kernel_rfl) (by kernel_rfl) (by kernel_rfl) (fun _ _ _ h => h) (Or.inl ⟨by rfl, ?_⟩) hS0 ?_
    rotate_left
    · (intro x hx; clear hx; go_simp <;> with_reducible rfl)
    try simp only [Act.put, puts]
    clear hS0
    have hX := hW3
    have hBx : Bk W3 W.heap.size 129 z7L := ((Bk.new W.drew 129 z7L).below hb2).below hb3
    have hOx := hS3
    have hne : s.ownBlock ≠ some W.heap.size := fun e => by have := (World.ownsRow.lt hS3 _ e).1; have := hb2.size; simp at this; omega
    have hbk : W.heap.size ≤ W.heap.size := Nat.le_refl _
    refine WpK.one (i := 8) (by kernel_rfl) ((toArray_at _ _).trans rfl) ?_
    intro K hK
    have HK := Lib.hid hK
    clear hK
    go_simp
    refine HK.out _ _ (fun _ => hX) (fun _ => ?_)
    clear HK K
    try simp only [puts]
    refine WpK.one (i := 9) (by kernel_rfl) ((toArray_at _ _).trans rfl) ?_
    intro K hK
    have HK := Lib.hid hK
    clear hK
    refine step_st rfl rfl rfl (cs := inC (rnR F (allL F))) rfl hBx (by kernel_rfl) rfl rfl ?_
    intro WX hkk hsk
    refine HK.out _ _ (fun h => absurd h (by decide)) (fun _ => ?_)
    clear HK K
    try simp only [puts]
    refine WpK.done (by kernel_rfl) ?_
    have hOs := owns_base (base' := W.heap.size) (owns_bes' hOx hsk hne) ((by have := hW2.size; omega))
    have hWX := bes_then hX hsk hbk hX.size
    have HKK := Lib.hid hkk
    have HOS := Lib.hid hOs
    have HWX := Lib.hid hWX
    have HNE := Lib.hid hne
    have HBKK := Lib.hid hbk
    clear hkk hOs hWX hne hsk hX hBx hOx
    have hLX := HLW.out.below HWX.out
    have HLX := Lib.hid hLX
    have hLC : RnC (leftR (rnR F (allL F)) (linesL F (allL F) ++ [x])) := outR_bd HL.out HL.out HR.out
    have hsz := HWX.out.size
    clear hLX
    go_wp2_with fail
    refine WpK.begin (S := fun _ => True) (kp := fun _ => true) (f := 8) (up := #[false, false, false, false, false, false, false, false]) (by kernel_rfl) (by kernel_rfl) (by kernel_rfl) ?_
    refine WpK.take (i := 0) (v := ?_) ((toArray_at _ _).trans rfl) (by kernel_rfl) (by kernel_rfl) (by kernel_rfl) (by kernel_rfl) (by kernel_rfl) (fun _ _ _ h => h) (Or.inl ⟨by rfl, ?_⟩) trivial ?_
    rotate_left
    · (intro x hx; go_simp <;> with_reducible rfl)
    simp only [Act.put, puts]
    refine WpK.weaken (S := fun y => Bk y (W.heap.size) 129 (inC (rnR F (allL F))) ∧ Bk y (w.heap.size + 1) 139 (rlC x)) (kp := (fun i => decide (i < 5))) (fun _ => trivial) _ ?_
    have hS0 := (show Bk WX.drew (W.heap.size) 129 (inC (rnR F (allL F))) ∧ Bk WX.drew (w.heap.size + 1) 139 (rlC x) from ⟨HKK.out.drew, HLX.out.drew⟩)
    refine WpK.take (i := 1) (v := ?_) ((toArray_at _ _).trans rfl) (by kernel_rfl) (by kernel_rfl) (by kernel_rfl) (by kernel_rfl) (by kernel_rfl) (fun _ _ _ h => h) (Or.inl ⟨by rfl, ?_⟩) hS0 ?_
    rotate_left
    · (intro x hx; obtain ⟨hx1, hx2⟩ := hx; have q0 := hx2.cell 0; have q1 := hx2.cell 1; have q2 := hx2.cell 2; have q3 := hx2.cell 3; have q4 := hx2.cell 4; have ql := hx2.lt; simp only [rlC, List.getElem?_cons_zero, List.getElem?_cons_succ] at q0 q1 q2 q3 q4; go_simp <;> with_reducible rfl)
    try simp only [Act.put, puts]
    refine WpK.take (i := 4) (v := ?_) ((toArray_at _ _).trans rfl) (by kernel_rfl) (by kernel_rfl) (by kernel_rfl) (by kernel_rfl) (by kernel_rfl) (fun _ _ _ h => h) (Or.inl ⟨by rfl, ?_⟩) hS0 ?_
    rotate_left
    · (intro x hx; obtain ⟨hx1, hx2⟩ := hx; have q0 := hx1.cell 0; have q1 := hx1.cell 1; have q2 := hx1.cell 2; have q3 := hx1.cell 3; have q4 := hx1.cell 4; have q5 := hx1.cell 5; have q6 := hx1.cell 6; have ql := hx1.lt; simp only [inC, List.getElem?_cons_zero, List.getElem?_cons_succ] at q0 q1 q2 q3 q4 q5 q6; go_simp <;> with_reducible rfl)
    try simp only [Act.put, puts]
    clear hS0
    refine WpK.one (i := 2) (by kernel_rfl) ((toArray_at _ _).trans rfl) ?_
    intro K hK
    have HK := Lib.hid hK
    clear hK
    go_simp
    refine HK.out _ _ (fun _ => ⟨HKK.out.drew.alloc _, HLX.out.drew.alloc _⟩) (fun _ => ?_)
    clear HK K
    try simp only [puts]
    refine WpK.one (i := 3) (by kernel_rfl) ((toArray_at _ _).trans rfl) ?_
    intro K hK
    have HK := Lib.hid hK
    clear hK
    have hM : OwnRl (WX.drew.alloc (Obj.cells (rlC x).toArray 139)) 0 (.slice (some ⟨WX.drew.heap.size, 0, none⟩) 1 1) [x] := own_bk (Bk.new _ _ (rlC x)) (Nat.zero_le _) (by simp) (by unfold maxLen; omega)
    refine step_rl rfl (.tmp 14) (.tmp 16) rfl W.heap.size _ (linesL F (allL F)) [x] rfl (owns_below HOS.out ((Below.drew (Below.refl _ _)).alloc (Nat.le_refl _) _)) 0 _ rfl hM (by simp) (by simp; omega) (by simp; omega) ?_
    intro g cc q hO3 hP3 hG3 hN3
    have hP4 : Below W.heap.size W q := HWX.out.trans (Below.trans ((Below.drew (Below.refl _ _)).alloc hsz _) hP3)
    have hS3 : Bk q (W.heap.size) 129 (inC (rnR F (allL F))) ∧ Bk q (w.heap.size + 1) 139 (rlC x) := ⟨(HKK.out.drew.alloc _).grown hG3 HNE.out, HLW.out.below hP4⟩
    refine HK.out _ _ (fun _ => hS3) (fun _ => ?_)
    clear HK K
    try simp only [puts]
    have hRow := OwnRl.row hO3
    refine WpK.one (i := 5) (by kernel_rfl) ((toArray_at _ _).trans rfl) ?_
    intro K hK
    have HK := Lib.hid hK
    clear hK
    go_simp
    refine (Left_any (linesL F (allL F) ++ [x]) (rnR F (allL F)) _ q hRow HL.out HR.out).mono ?_
    rintro e W4 ⟨rfl, hb4⟩
    refine HK.out _ _ (fun h => absurd h (by decide)) (fun _ => ?_)
    clear HK K
    try simp only [puts]
    refine WpK.one (i := 6) (by kernel_rfl) ((toArray_at _ _).trans rfl) ?_
    intro K hK
    have HK := Lib.hid hK
    clear hK
    go_simp
    refine (rSome_any (leftR (rnR F (allL F)) (linesL F (allL F) ++ [x])) W4 hLC.lo hLC.hi).mono ?_
    rintro e W5 ⟨rfl, hb5⟩
    rw [HC.out]
    refine HK.out _ _ (fun h => absurd h (by decide)) (fun _ => ?_)
    clear HK K
    try simp only [puts]
    refine WpK.one (i := 7) (by kernel_rfl) ((toArray_at _ _).trans rfl) ?_
    intro K hK
    have HK := Lib.hid hK
    clear hK
    go_simp
    refine HK.out _ _ (fun h => absurd h (by decide)) (fun _ => ?_)
    clear HK K
    try simp only [puts]
    refine WpK.done (by kernel_rfl) ?_
    go_wp2_with fail
    go_ret
    have h1 := HwW.out.trans (hP4.mono HwW.out.size)
    exact ⟨rfl, h1.trans ((bthen hb4 hb5).mono h1.size)⟩
end Go.Proofs.YtnfndiafabhhdaaGreat
