/- Walks of slices.Grow, slices.Concat at ints, but (Wear). -/
import Derived.Test.YtnfndiafabhhdaaGreatC1
import Derived.Lib.AppendZerosOnto
import Derived.Test.YtnfndiafabhhdaaGreatB1
namespace Go.Proofs.YtnfndiafabhhdaaGreat
open Go.ChangeShapes Go.WideShapes Go.ChangeAt Go.RowKit
set_option maxHeartbeats 2000000 in
theorem grow_any (n : Nat) (w : World) (hn : n ≤ 1000) : Calls Tryz.prog 120 #[.slice none 0 0, .int .i64 n] w fun e w' => ∃ v, e = .returned v ∧ Below w.heap.size w w' ∧ w'.ownsRow w.heap.size 3 1 v 0 [] := by
  rcases Nat.eq_zero_or_pos n with rfl | h0
  · go_enter Tryz.func120, Tryz.ntmps120
    go_wp2_with fail
    go_ret
    exact ⟨_, rfl, Below.refl _ _, World.ownsRow_nil _ _ _ _⟩
  · obtain ⟨i, z, hi, hz0, hz1, hz2, hz3⟩ := int_el
    have hold : (Builtin.firstCells i.size 0 (.slice none 0 0)).run Tryz.prog w.drew = .ok ([] : List Value).toArray w.drew := run_firstCells_none w.drew i.size 0 0 0
    have hr : ∀ ty, (Builtin.append_ #[51, 3] ty #[.slice none 0 0, .int .i64 (n : Int)]).run Tryz.prog w = _ := fun ty => Lib.run_append_grow_zeros w 51 3 ty 3 i z .i64 .i64 Tryz.underlying51 Tryz.underlying3 hi hz0 none 0 0 [] hold n h0 (by omega) (by omega) (by omega) (by rw [hz2]; omega)
      (by
        have := growslice_fits (need := 0 + n) (old := 0) (bytes := i.bytes) (by omega) (by rw [hz2]; omega)
        simpa using this)
    have hcap := grownCap_le_maxLen w (0 + n) 0 3 (by unfold maxLen; omega)
    have hge := grownCap_ge w (0 + n) 0 3
    obtain ⟨G, hG⟩ : ∃ G, grownCap w (0 + n) 0 3 = G := ⟨_, rfl⟩
    simp only [hG] at hr hcap hge
    have hm : maxLen ≤ 9223372036854775807 := by unfold maxLen; omega
    have hw0 : IntKind.i64.wrap (n : Int) = n := IntWalk.i64_in _ (by omega)
    have hsz : (#[] ++ Builtin.zeroCells z.cells n ++ Builtin.zeroCells z.cells (G - (0 + n)) : Array Value).size = G * 1 := by
      simp only [Array.size_append, size_zeroCells, hz3, List.size_toArray, List.length_nil]
      simp
      omega
    have hown := World.ownsRow_made w.drew (e := 3) (size := 1) (base := w.heap.size) (#[] ++ Builtin.zeroCells z.cells n ++ Builtin.zeroCells z.cells (G - (0 + n))) G (Nat.le_refl _) hcap hsz
    have hbl : Below w.heap.size w (w.drew.alloc (.cells (#[] ++ Builtin.zeroCells z.cells n ++ Builtin.zeroCells z.cells (G - (0 + n))) 3)) := (Below.drew (Below.refl _ _)).alloc (Nat.le_refl _) _
    simp only [Nat.zero_add] at hr hown hbl
    obtain ⟨W2, hW2⟩ : ∃ W2, w.drew.alloc (.cells (#[] ++ Builtin.zeroCells z.cells n ++ Builtin.zeroCells z.cells (G - n)) 3) = W2 := ⟨_, rfl⟩
    rw [hW2] at hown hbl
    simp only [hW2] at hr
    have HBL := Lib.hid hbl
    have HR := Lib.hid hr
    have HOWN := Lib.hid hown
    have hG1 : G ≤ 9223372036854775807 := Nat.le_trans hcap hm
    have hge' : n ≤ G := by omega
    clear hr hown hW2 hbl hG hsz hold hm hcap hge hi hz0 hz1 hz2 hz3
    go_enter Tryz.func120, Tryz.ntmps120
    go_wp2_with (at_builtin; refine Lib.wpList_append_run _ rfl _ _ _ _ rfl _ _ rfl rfl _ _ (HR.out _) ?_)
    go_ret
    exact ⟨_, rfl, HBL.out, HOWN.out⟩
def Str (w : World) (p o : Nat) (l : List Int) : Prop := p < w.heap.size ∧ ∀ j, j < l.length → w.cell? ⟨p, o + j, none⟩ = some (.int .i64 (l[j]?.getD 0))
theorem Str.below {w w' : World} {p o : Nat} {l : List Int} (h : Str w p o l) (hb : Below w.heap.size w w') : Str w' p o l :=
  ⟨Nat.lt_of_lt_of_le h.1 hb.size, fun j hj => (hb.cell (p := ⟨p, o + j, none⟩) h.1).trans (h.2 j hj)⟩
theorem Str.news {w : World} {p o : Nat} {l : List Int} (h : Str w p o l) : ∀ j u, (l.map (Value.int .i64))[j]? = some u → w.cell? ((⟨p, o, none⟩ : Addr).add j) = some u := fun j u hu => by
  have hj : j < l.length := by simpa using (List.getElem?_eq_some_iff.1 hu).1
  rw [add_off, h.2 j hj]
  rw [List.getElem?_map, List.getElem?_eq_getElem hj] at hu
  rw [List.getElem?_eq_getElem hj]
  exact hu
def nS (n1 n2 : Nat) : Nat → Nat
  | 0 => 0
  | 1 => n1
  | _ => n1 + n2
def lS (l1 l2 : List Int) : Nat → List Int
  | 0 => []
  | 1 => l1
  | _ => l1 ++ l2
set_option maxHeartbeats 2000000 in
theorem concat_any (b c p1 o1 c1 p2 o2 c2 : Nat) (l1 l2 : List Int) (w : World) (hb : b < w.heap.size) (h1 : Str w p1 o1 l1) (h2 : Str w p2 o2 l2) (n1 : l1.length ≤ 400) (n2 : l2.length ≤ 400)
    (d0 : w.cell? ⟨b, 0, none⟩ = some (.slice (some ⟨p1, o1, none⟩) l1.length c1)) (d1 : w.cell? ⟨b, 1, none⟩ = some (.slice (some ⟨p2, o2, none⟩) l2.length c2)) :
    Calls Tryz.prog 44 #[.slice (some ⟨b, 0, none⟩) 2 c] w fun e w' => ∃ v, e = .returned v ∧ Below w.heap.size w w' ∧ Ints w' v (l1 ++ l2) ∧ ∃ o m c, v = .slice o m c ∧ m ≤ c := by
  obtain ⟨i0, z, hi, hz0, hz1, hz2, hz3⟩ := int_el
  have H1 := Lib.hid h1
  have H2 := Lib.hid h2
  have N1 := Lib.hid n1
  have N2 := Lib.hid n2
  obtain ⟨m1, hm1⟩ : ∃ m, l1.length = m := ⟨_, rfl⟩
  obtain ⟨m2, hm2⟩ : ∃ m, l2.length = m := ⟨_, rfl⟩
  rw [hm1] at d0 n1
  rw [hm2] at d1 n2
  have HM1 := Lib.hid hm1
  have HM2 := Lib.hid hm2
  have HI := Lib.hid (show Tryz.prog.info? 3 = some i0 ∧ i0.zero = some z ∧ i0.size = 1 ∧ i0.bytes = 8 ∧ z.cells.size = 1 from ⟨hi, hz0, hz1, hz2, hz3⟩)
  clear h1 h2 hm1 hm2 hi hz0 hz1 hz2 hz3
  go_enter Tryz.func44, Tryz.ntmps44
  go_wp2_with fail
  go_loopw [3, 11] (fun s i wr => ∃ k : Nat, k ≤ 2 ∧ i = .int .i64 (k : Int) ∧ s = .int .i64 (nS m1 m2 k : Nat) ∧ wr = w) (fun _ i _ => 2 - (intOf i).toNat)
  case atStart => exact ⟨0, by omega, rfl, rfl, rfl⟩
  case round =>
    obtain ⟨k, hk, rfl, rfl, hw⟩ := hrel
    have hw := hw.symm
    subst hw
    rcases (by omega : k = 0 ∨ k = 1 ∨ k = 2) with rfl | rfl | rfl
    · have e0 : nS m1 m2 0 = 0 := rfl
      rw [e0]
      go_wp2_with fail
      refine ⟨⟨1, by omega, by go_num, by first | rfl | (simp [nS]; done), by first | rfl | trivial⟩, by simp [intOf]⟩
    · have e1 : nS m1 m2 1 = m1 := rfl
      rw [e1]
      go_wp2_with fail
      refine ⟨⟨2, by omega, by go_num, by simp [nS], by first | rfl | trivial⟩, by simp [intOf]⟩
    · have e2 : nS m1 m2 2 = m1 + m2 := rfl
      rw [e2]
      have hg := grow_any (m1 + m2) w (by omega)
      go_wp2_with fail
      refine hg.mono ?_
      rintro e w1 ⟨v0, rfl, hb1, hown⟩
      have HOWN := Lib.hid hown
      clear hown e2 hg
      go_wp2_with fail
      go_loopw [6, 27] (fun v i wx => ∃ k : Nat, k ≤ 2 ∧ i = .int .i64 (k : Int) ∧ Below w.heap.size w wx ∧ Hid (wx.ownsRow w.heap.size 3 1 v (lS l1 l2 k).length ((lS l1 l2 k).map (Value.int .i64)))) (fun _ i _ => 2 - (intOf i).toNat)
      case atStart => exact ⟨0, by omega, rfl, hb1, HOWN⟩
      case round =>
        obtain ⟨k, hk, rfl, hbl, hown⟩ := hrel
        have hsz := hbl.size
        have g0 := (hbl.cell (p := ⟨b, 0, none⟩) hb).trans d0
        have g1 := (hbl.cell (p := ⟨b, 1, none⟩) hb).trans d1
        have hb2 := Nat.lt_of_lt_of_le hb hsz
        rcases (by omega : k = 0 ∨ k = 1 ∨ k = 2) with rfl | rfl | rfl
        · have HO := Lib.hid (show wr.ownsRow w.heap.size 3 1 u6 0 [] from hown.out)
          have HN := Lib.hid (H1.out.below hbl).news
          have HBL := Lib.hid hbl
          have h1c : ∀ u ∈ l1.map (Value.int .i64), u.oneCell' = true := fun u hu => by obtain ⟨x, _, rfl⟩ := List.mem_map.1 hu; rfl
          have H1C := Lib.hid h1c
          clear hown hbl h1c
          go_wp2_with (at_builtin; refine wpList_append_own _ rfl _ _ 51 rfl w.heap.size 3 i0 z 1 8 Tryz.underlying51 HI.out.1 HI.out.2.1 HI.out.2.2.1 HI.out.2.2.2.1 HI.out.2.2.2.2 (by decide) _ _ _ rfl HO.out ⟨p1, o1, none⟩ m1 c1 (l1.map (Value.int .i64)) rfl (by simp; exact HM1.out) HN.out H1C.out (by unfold maxLen; omega) (by omega) (by omega) ?_; intro v' w3 hown' hgrow hnil)
          have hb3 : Below w.heap.size w w3 := HBL.out.grown hgrow (by omega) (fun j hj => (HO.out.lt j hj).1)
          refine ⟨⟨1, by omega, by go_num, hb3, ?_⟩, by simp [intOf]⟩
          refine Lib.hid ?_
          have e1 : lS l1 l2 1 = l1 := rfl
          rw [e1, HM1.out]
          simpa using hown'
        · have e1 : lS l1 l2 1 = l1 := rfl
          rw [e1] at hown
          have HO := Lib.hid (show wr.ownsRow w.heap.size 3 1 u6 m1 (l1.map (Value.int .i64)) by have := hown.out; rw [HM1.out] at this; exact this)
          have HN := Lib.hid (H2.out.below hbl).news
          have HBL := Lib.hid hbl
          have h1c : ∀ u ∈ l2.map (Value.int .i64), u.oneCell' = true := fun u hu => by obtain ⟨x, _, rfl⟩ := List.mem_map.1 hu; rfl
          have H1C := Lib.hid h1c
          clear hown hbl h1c e1
          go_wp2_with (at_builtin; refine wpList_append_own _ rfl _ _ 51 rfl w.heap.size 3 i0 z 1 8 Tryz.underlying51 HI.out.1 HI.out.2.1 HI.out.2.2.1 HI.out.2.2.2.1 HI.out.2.2.2.2 (by decide) _ _ _ rfl HO.out ⟨p2, o2, none⟩ m2 c2 (l2.map (Value.int .i64)) rfl (by simp; exact HM2.out) HN.out H1C.out (by unfold maxLen; omega) (by omega) (by omega) ?_; intro v' w3 hown' hgrow hnil)
          have hb3 : Below w.heap.size w w3 := HBL.out.grown hgrow (by omega) (fun j hj => (HO.out.lt j hj).1)
          refine ⟨⟨2, by omega, by go_num, hb3, ?_⟩, by simp [intOf]⟩
          refine Lib.hid ?_
          have e2 : lS l1 l2 2 = l1 ++ l2 := rfl
          rw [e2, List.map_append, List.length_append, HM1.out, HM2.out]
          exact hown'
        · have e2 : lS l1 l2 2 = l1 ++ l2 := rfl
          rw [e2] at hown
          have hcap := own_cap hown.out
          have hin := OwnI.ints hown.out
          have HIN := Lib.hid hin
          have HCAP := Lib.hid hcap
          have HBL := Lib.hid hbl
          clear hown hin hcap hbl e2
          go_wp2_with fail
          go_ret
          exact ⟨_, rfl, HBL.out, HIN.out, HCAP.out⟩
theorem Str.take {w : World} {p o : Nat} {l : List Int} (h : Str w p o l) (k : Nat) : Str w p o (l.take k) :=
  ⟨h.1, fun j hj => by
    rw [List.length_take] at hj
    rw [h.2 j (by omega), List.getElem?_take_of_lt (by omega)]⟩
theorem Str.drop {w : World} {p o : Nat} {l : List Int} (h : Str w p o l) (k : Nat) : Str w p (o + k) (l.drop k) :=
  ⟨h.1, fun j hj => by
    rw [List.length_drop] at hj
    rw [Nat.add_assoc, h.2 (k + j) (by omega), List.getElem?_drop]⟩
theorem Str.nil (w : World) {p : Nat} (o : Nat) (h : p < w.heap.size) : Str w p o [] := ⟨h, fun j hj => by simp at hj⟩
def butL (l : List Int) (k : Nat) : List Int := l.take k ++ l.drop (k + 1)
set_option maxHeartbeats 2000000 in
theorem but_any (p o n c k : Nat) (l : List Int) (w : World) (h : Str w p o l) (hn : l.length = n) (hk : k < n) (hc : n ≤ c) (h4 : n ≤ 400) :
    Calls Tryz.prog 118 #[.slice (some ⟨p, o, none⟩) n c, .int .i64 (k : Int)] w fun e w' => ∃ v, e = .returned v ∧ Below w.heap.size w w' ∧ Ints w' v (butL l k) ∧ ∃ o m c, v = .slice o m c ∧ m ≤ c := by
  have hlt := h.1
  have t1 := h.take k
  have t2 : ∃ o2, (if c = k + 1 then some (⟨p, o, none⟩ : Addr) else some ⟨p, o + (k + 1), none⟩) = some ⟨p, o2, none⟩ ∧ Str w p o2 (l.drop (k + 1)) := by
    by_cases hcc : c = k + 1
    · refine ⟨o, by rw [if_pos hcc], ?_⟩
      have : l.drop (k + 1) = [] := List.drop_eq_nil_of_le (by omega)
      rw [this]
      exact Str.nil w o hlt
    · exact ⟨o + (k + 1), by rw [if_neg hcc], h.drop (k + 1)⟩
  obtain ⟨o2, ho2, t2⟩ := t2
  have l1 : (l.take k).length = k := by rw [List.length_take]; omega
  have l2 : (l.drop (k + 1)).length = n - (k + 1) := by rw [List.length_drop]; omega
  have T1 := Lib.hid t1
  have T2 := Lib.hid t2
  have L1 := Lib.hid l1
  have L2 := Lib.hid l2
  have hkc : k ≤ c := by omega
  have hkn : k + 1 ≤ n := by omega
  have hw1 : IntKind.i64.wrap ((k : Int) + 1) = (k : Int) + 1 := IntWalk.i64_in _ (by omega)
  have hnn : (0 : Int) ≤ (k : Int) + 1 := by omega
  have hnm : (k : Int) + 1 ≤ (n : Int) := by omega
  have htn : ((k : Int) + 1).toNat = k + 1 := by omega
  clear t1 t2 l1 l2 h
  go_enter Tryz.func118, Tryz.ntmps118
  go_wp2_with fail
  refine WpK.begin (S := fun _ => True) (kp := fun _ => true) (f := 10) (up := #[false, false, false, false, false, false, false, false, false, false]) (by kernel_rfl) (by kernel_rfl) (by kernel_rfl) ?_
  refine WpK.take (i := 0) (v := ?_) ((toArray_at _ _).trans rfl) (by kernel_rfl) (by kernel_rfl) (by kernel_rfl) (by kernel_rfl) (by kernel_rfl) (fun _ _ _ h => h) (Or.inl ⟨by rfl, ?_⟩) trivial ?_
  rotate_left
  · (intro x hx; go_simp <;> with_reducible rfl)
  simp only [Act.put, puts]
  refine WpK.take (i := 1) (v := ?_) ((toArray_at _ _).trans rfl) (by kernel_rfl) (by kernel_rfl) (by kernel_rfl) (by kernel_rfl) (by kernel_rfl) (fun _ _ _ h => h) (Or.inl ⟨by rfl, ?_⟩) trivial ?_
  rotate_left
  · (intro x hx; go_simp <;> with_reducible rfl)
  simp only [Act.put, puts]
  refine WpK.take (i := 3) (v := ?_) ((toArray_at _ _).trans rfl) (by kernel_rfl) (by kernel_rfl) (by kernel_rfl) (by kernel_rfl) (by kernel_rfl) (fun _ _ _ h => h) (Or.inl ⟨by rfl, ?_⟩) trivial ?_
  rotate_left
  · (intro x hx; go_simp <;> with_reducible rfl)
  simp only [Act.put, puts]
  refine WpK.take (i := 4) (v := ?_) ((toArray_at _ _).trans rfl) (by kernel_rfl) (by kernel_rfl) (by kernel_rfl) (by kernel_rfl) (by kernel_rfl) (fun _ _ _ h => h) (Or.inl ⟨by rfl, ?_⟩) trivial ?_
  rotate_left
  · (intro x hx; go_simp <;> with_reducible rfl)
  simp only [Act.put, puts]
  refine WpK.take (i := 5) (v := ?_) ((toArray_at _ _).trans rfl) (by kernel_rfl) (by kernel_rfl) (by kernel_rfl) (by kernel_rfl) (by kernel_rfl) (fun _ _ _ h => h) (Or.inl ⟨by rfl, ?_⟩) trivial ?_
  rotate_left
  · (intro x hx; go_simp <;> with_reducible rfl)
  simp only [Act.put, puts]
  refine WpK.take (i := 2) (v := ?_) ((toArray_at _ _).trans rfl) (by kernel_rfl) (by kernel_rfl) (by kernel_rfl) (by kernel_rfl) (by kernel_rfl) (fun _ _ _ h => h) (Or.inl ⟨by rfl, ?_⟩) trivial ?_
  rotate_left
  · (intro x hx; go_simp <;> with_reducible rfl)
  simp only [Act.put, puts]
  refine WpK.take (i := 6) (v := ?_) ((toArray_at _ _).trans rfl) (by kernel_rfl) (by kernel_rfl) (by kernel_rfl) (by kernel_rfl) (by kernel_rfl) (fun _ _ _ h => h) (Or.inl ⟨by rfl, ?_⟩) trivial ?_
  rotate_left
  · (intro x hx; go_simp <;> with_reducible rfl)
  simp only [Act.put, puts]
  refine WpK.weaken (S := fun x => Below w.heap.size w x) (kp := (fun _ => true)) (fun _ => trivial) _ ?_
  have hS0 := (show Below w.heap.size w w.drew from (Below.refl _ _).drew)
  clear hS0
  refine WpK.one (i := 7) (by kernel_rfl) ((toArray_at _ _).trans rfl) ?_
  intro K hK
  have HK := Lib.hid hK
  clear hK
  go_simp
  refine HK.out _ _ (fun _ => (Below.drew (Below.refl _ _)).alloc (Nat.le_refl _) _) (fun _ => ?_)
  clear HK K
  try simp only [puts]
  refine WpK.one (i := 8) (by kernel_rfl) ((toArray_at _ _).trans rfl) ?_
  intro K hK
  have HK := Lib.hid hK
  clear hK
  go_simp
  have hb9 : Below w.heap.size w (w.alloc (Obj.cells #[.slice (some ⟨p, o, none⟩) k c, .slice (some ⟨p, o2, none⟩) (n - (k + 1)) (c - (k + 1))] 51)).drew := ((ballo _ _).drew)
  have hbk := (Bk.new w 51 [.slice (some ⟨p, o, none⟩) k c, .slice (some ⟨p, o2, none⟩) (n - (k + 1)) (c - (k + 1))]).drew
  have hcc := concat_any w.heap.size 2 p o c p o2 (c - (k + 1)) (l.take k) (l.drop (k + 1)) _ hbk.lt (T1.out.below hb9) (T2.out.below hb9) (by rw [L1.out]; omega) (by rw [L2.out]; omega) (by rw [L1.out]; exact hbk.cell 0) (by rw [L2.out]; exact hbk.cell 1)
  refine hcc.mono ?_
  rintro e w2 ⟨v, rfl, hb2, hin, hcap⟩
  have hbf := Lib.hid (bthen hb9 hb2)
  have HIN := Lib.hid hin
  have HCAP := Lib.hid hcap
  refine HK.out _ _ (fun _ => hbf.out) (fun _ => ?_)
  clear HK K hin hcap hcc hb2 hb9 hbk
  try simp only [puts]
  refine WpK.one (i := 9) (by kernel_rfl) ((toArray_at _ _).trans rfl) ?_
  intro K hK
  have HK := Lib.hid hK
  clear hK
  go_simp
  refine HK.out _ _ (fun _ => hbf.out) (fun _ => ?_)
  clear HK K
  try simp only [puts]
  refine WpK.done (by kernel_rfl) ?_
  go_wp2_with fail
  go_ret
  exact ⟨_, rfl, hbf.out, HIN.out, HCAP.out⟩
end Go.Proofs.YtnfndiafabhhdaaGreat
