/- Walk of under, over (Wear). -/
import Derived.Test.YtnfndiafabhhdaaGreatD3
import Derived.Test.YtnfndiafabhhdaaGreatC7
import Derived.Test.YtnfndiafabhhdaaGreatA1
import Derived.Test.YtnfndiafabhhdaaGreatB1
namespace Go.Proofs.YtnfndiafabhhdaaGreat
open Go.ChangeShapes Go.WideShapes Go.ChangeAt Go.RowKit
set_option maxRecDepth 100000 in
set_option maxHeartbeats 4000000 in
theorem kunder_any (F : Fl) (b : Nat) (vv vs pv : Value) (oa ob : Option Addr) (ca cb : Nat) (x m : Int) (w : World)
    (hK : Kn w F b vv vs pv (.slice oa (lows (linesL F (allL F))).length ca) (.slice ob (ups (linesL F (allL F))).length cb)) (x0 : 0 ≤ x) (xn : x ≤ hgt F.v) (m0 : 0 ≤ m) (m1 : m ≤ 2097152) :
    Calls Tryz.prog 139 #[knV b (knR F) (.slice oa (lows (linesL F (allL F))).length ca) (.slice ob (ups (linesL F (allL F))).length cb), .int .i64 x, .int .i64 m] w fun e w' => e = .returned (.bool (!(solW (knR F) (lows (linesL F (allL F))) (ups (linesL F (allL F)) ++ [⟨m, tmN F.v x, tmD F.v x, true⟩])).e)) ∧ Below w.heap.size w w' := by
  have hRB := knR_B hK.s.o
  have hL := lines_B hK.s.o (allL_ok F)
  have hlen : (linesL F (allL F)).length ≤ 3000 := by
    have := lines_len F (allL F)
    have h2 := all_len F
    have := hK.s.o.n
    omega
  have hnA : (lows (linesL F (allL F))).length ≤ 3000 := Nat.le_trans (lows_le _) hlen
  have hnB : (ups (linesL F (allL F))).length ≤ 3000 := Nat.le_trans (ups_le _) hlen
  have hlb := lnB_T hK.s.o (k := m) x0 xn m0 m1 true
  have hcA : (lows (linesL F (allL F))).length ≤ ca := hK.ca
  have hcB : (ups (linesL F (allL F))).length ≤ cb := hK.cb
  obtain ⟨kr, hkr⟩ : ∃ r, knR F = r := ⟨_, rfl⟩
  rw [hkr] at hRB ⊢
  clear hkr
  have hln : lnT F.v m x true = ⟨m, tmN F.v x, tmD F.v x, true⟩ := rfl
  rw [hln] at hlb
  have hk0 := hK.alloc (Obj.cells #[.pointer (some ⟨b, 0, none⟩), .int .i64 kr.lo.n, .int .i64 kr.lo.d, .bool kr.lo.s, .int .i64 kr.hi.n, .int .i64 kr.hi.d, .bool kr.hi.s, .slice oa (lows (linesL F (allL F))).length ca, .slice ob (ups (linesL F (allL F))).length cb, .bool kr.e] 102)
  have hB0 := Bk.new w 102 [.pointer (some ⟨b, 0, none⟩), .int .i64 kr.lo.n, .int .i64 kr.lo.d, .bool kr.lo.s, .int .i64 kr.hi.n, .int .i64 kr.hi.d, .bool kr.hi.s, .slice oa (lows (linesL F (allL F))).length ca, .slice ob (ups (linesL F (allL F))).length cb, .bool kr.e]
  have hbW0 : Below w.heap.size w (w.alloc (Obj.cells #[.pointer (some ⟨b, 0, none⟩), .int .i64 kr.lo.n, .int .i64 kr.lo.d, .bool kr.lo.s, .int .i64 kr.hi.n, .int .i64 kr.hi.d, .bool kr.hi.s, .slice oa (lows (linesL F (allL F))).length ca, .slice ob (ups (linesL F (allL F))).length cb, .bool kr.e] 102)) := Below.alloc (Below.refl _ _) (Nat.le_refl _) _
  obtain ⟨tn, htn⟩ : ∃ n, tmN F.v x = n := ⟨_, rfl⟩
  obtain ⟨td, htd⟩ : ∃ n, tmD F.v x = n := ⟨_, rfl⟩
  rw [htn, htd] at hlb ⊢
  have HTN := Lib.hid htn
  have HTD := Lib.hid htd
  have HKn := Lib.hid hk0
  have HL := Lib.hid hL
  clear hK hk0 hL htn htd hln
  go_enter Tryz.func139, Tryz.ntmps139
  go_wp2_with fail
  generalize hWW : w.alloc (Obj.cells #[.pointer (some ⟨b, 0, none⟩), .int .i64 kr.lo.n, .int .i64 kr.lo.d, .bool kr.lo.s, .int .i64 kr.hi.n, .int .i64 kr.hi.d, .bool kr.hi.s, .slice oa (lows (linesL F (allL F))).length ca, .slice ob (ups (linesL F (allL F))).length cb, .bool kr.e] 102) = W at *
  have y0 := hB0.cell 0
  have y1 := hB0.cell 1
  have y2 := hB0.cell 2
  have y3 := hB0.cell 3
  have y4 := hB0.cell 4
  have y5 := hB0.cell 5
  have y6 := hB0.cell 6
  have y7 := hB0.cell 7
  have y8 := hB0.cell 8
  have y9 := hB0.cell 9
  have yl := hB0.lt
  simp only [List.getElem?_cons_zero, List.getElem?_cons_succ] at y0 y1 y2 y3 y4 y5 y6 y7 y8 y9
  clear hWW
  refine WpK.begin (S := fun _ => True) (kp := fun _ => true) (f := 11) (up := #[false, false, false, false, false, false, false, false, false, false, false]) (by kernel_rfl) (by kernel_rfl) (by kernel_rfl) ?_
  refine WpK.take (i := 0) (v := ?_) ((toArray_at _ _).trans rfl) (by kernel_rfl) (by kernel_rfl) (by kernel_rfl) (by kernel_rfl) (by kernel_rfl) (fun _ _ _ h => h) (Or.inl ⟨by rfl, ?_⟩) trivial ?_
  rotate_left
  · (intro x hx; go_simp <;> with_reducible rfl)
  simp only [Act.put, puts]
  refine WpK.take (i := 2) (v := ?_) ((toArray_at _ _).trans rfl) (by kernel_rfl) (by kernel_rfl) (by kernel_rfl) (by kernel_rfl) (by kernel_rfl) (fun _ _ _ h => h) (Or.inl ⟨by rfl, ?_⟩) trivial ?_
  rotate_left
  · (intro x hx; go_simp <;> with_reducible rfl)
  simp only [Act.put, puts]
  refine WpK.take (i := 3) (v := ?_) ((toArray_at _ _).trans rfl) (by kernel_rfl) (by kernel_rfl) (by kernel_rfl) (by kernel_rfl) (by kernel_rfl) (fun _ _ _ h => h) (Or.inl ⟨by rfl, ?_⟩) trivial ?_
  rotate_left
  · (intro x hx; go_simp <;> with_reducible rfl)
  simp only [Act.put, puts]
  refine WpK.take (i := 5) (v := ?_) ((toArray_at _ _).trans rfl) (by kernel_rfl) (by kernel_rfl) (by kernel_rfl) (by kernel_rfl) (by kernel_rfl) (fun _ _ _ h => h) (Or.inl ⟨by rfl, ?_⟩) trivial ?_
  rotate_left
  · (intro x hx; go_simp <;> with_reducible rfl)
  simp only [Act.put, puts]
  refine WpK.weaken (S := fun x => Below W.heap.size W x) (kp := (fun i => decide (i < 9))) (fun _ => trivial) _ ?_
  have hS0 := (show Below W.heap.size W W.drew from (Below.refl _ _).drew)
  refine WpK.take (i := 1) (v := ?_) ((toArray_at _ _).trans rfl) (by kernel_rfl) (by kernel_rfl) (by kernel_rfl) (by kernel_rfl) (by kernel_rfl) (fun _ _ _ h => h) (Or.inl ⟨by rfl, ?_⟩) hS0 ?_
  rotate_left
  · (intro x hx; obtain ⟨hcx, hfx⟩ := bcell hx; go_simp <;> with_reducible rfl)
  try simp only [Act.put, puts]
  refine WpK.take (i := 4) (v := ?_) ((toArray_at _ _).trans rfl) (by kernel_rfl) (by kernel_rfl) (by kernel_rfl) (by kernel_rfl) (by kernel_rfl) (fun _ _ _ h => h) (Or.inl ⟨by rfl, ?_⟩) hS0 ?_
  rotate_left
  · (intro x hx; obtain ⟨hcx, hfx⟩ := bcell hx; go_simp <;> with_reducible rfl)
  try simp only [Act.put, puts]
  clear hS0
  refine WpK.one (i := 6) (by kernel_rfl) ((toArray_at _ _).trans rfl) ?_
  intro K hK
  have HK := Lib.hid hK
  clear hK
  go_simp
  refine (time_any F b vv vs pv x _ (HKn.out.s.below (Below.drew (Below.refl _ _))) x0 xn).mono ?_
  rintro e W2 ⟨rfl, hbq⟩
  rw [HTN.out, HTD.out]
  have hW2 : Below W.heap.size W W2 := Below.trans (Below.drew (Below.refl _ _)) hbq
  clear hbq
  refine HK.out _ _ (fun _ => hW2) (fun _ => ?_)
  clear HK K
  try simp only [puts]
  refine WpK.one (i := 7) (by kernel_rfl) ((toArray_at _ _).trans rfl) ?_
  intro K hK
  have HK := Lib.hid hK
  clear hK
  go_simp
  refine HK.out _ _ (fun _ => hW2) (fun _ => ?_)
  clear HK K
  try simp only [puts]
  refine WpK.one (i := 8) (by kernel_rfl) ((toArray_at _ _).trans rfl) ?_
  intro K hK
  have HK := Lib.hid hK
  clear hK
  go_simp
  refine HK.out _ _ (fun _ => hW2.alloc hW2.size _) (fun _ => ?_)
  clear HK K
  try simp only [puts]
  refine WpK.one (i := 9) (by kernel_rfl) ((toArray_at _ _).trans rfl) ?_
  intro K hK
  have HK := Lib.hid hK
  clear hK
  have hkn := (HKn.out.below hW2).alloc (Obj.cells #[.int .i64 m, .int .i64 tn, .int .i64 td, .bool true] 142)
  have HW2 := Lib.hid hW2
  go_simp
  refine (can_under kr oa ob ca cb _ _ ⟨m, tn, td, true⟩ W2.heap.size _ hkn.a hkn.b hcA hcB hRB HL.out.1 HL.out.2 hlb (Bk.new _ _ _) hnA hnB).mono ?_
  rintro e w2 ⟨rfl, hb2⟩
  have hbw2 := Lib.hid (bthen hbW0 ((HW2.out.alloc HW2.out.size _).trans (hb2.mono (by have := HW2.out.size; simp; omega))))
  refine HK.out _ _ (fun h => absurd h (by decide)) (fun _ => ?_)
  clear HK K
  try simp only [puts]
  refine WpK.one (i := 10) (by kernel_rfl) ((toArray_at _ _).trans rfl) ?_
  intro K hK
  have HK := Lib.hid hK
  clear hK
  go_simp
  refine HK.out _ _ (fun h => absurd h (by decide)) (fun _ => ?_)
  clear HK K
  try simp only [puts]
  refine WpK.done (by kernel_rfl) ?_
  go_wp2_with fail
  go_ret
  exact ⟨rfl, hbw2.out⟩
set_option maxRecDepth 100000 in
set_option maxHeartbeats 4000000 in
theorem kover_any (F : Fl) (b : Nat) (vv vs pv : Value) (oa ob : Option Addr) (ca cb : Nat) (x m : Int) (w : World)
    (hK : Kn w F b vv vs pv (.slice oa (lows (linesL F (allL F))).length ca) (.slice ob (ups (linesL F (allL F))).length cb)) (x0 : 0 ≤ x) (xn : x ≤ hgt F.v) (m0 : 0 ≤ m) (m1 : m ≤ 2097152) :
    Calls Tryz.prog 97 #[knV b (knR F) (.slice oa (lows (linesL F (allL F))).length ca) (.slice ob (ups (linesL F (allL F))).length cb), .int .i64 x, .int .i64 m] w fun e w' => e = .returned (.bool (!(solW (knR F) (lows (linesL F (allL F)) ++ [⟨m, tmN F.v x, tmD F.v x, true⟩]) (ups (linesL F (allL F)))).e)) ∧ Below w.heap.size w w' := by
  have hRB := knR_B hK.s.o
  have hL := lines_B hK.s.o (allL_ok F)
  have hlen : (linesL F (allL F)).length ≤ 3000 := by
    have := lines_len F (allL F)
    have h2 := all_len F
    have := hK.s.o.n
    omega
  have hnA : (lows (linesL F (allL F))).length ≤ 3000 := Nat.le_trans (lows_le _) hlen
  have hnB : (ups (linesL F (allL F))).length ≤ 3000 := Nat.le_trans (ups_le _) hlen
  have hlb := lnB_T hK.s.o (k := m) x0 xn m0 m1 true
  have hcA : (lows (linesL F (allL F))).length ≤ ca := hK.ca
  have hcB : (ups (linesL F (allL F))).length ≤ cb := hK.cb
  obtain ⟨kr, hkr⟩ : ∃ r, knR F = r := ⟨_, rfl⟩
  rw [hkr] at hRB ⊢
  clear hkr
  have hln : lnT F.v m x true = ⟨m, tmN F.v x, tmD F.v x, true⟩ := rfl
  rw [hln] at hlb
  have hk0 := hK.alloc (Obj.cells #[.pointer (some ⟨b, 0, none⟩), .int .i64 kr.lo.n, .int .i64 kr.lo.d, .bool kr.lo.s, .int .i64 kr.hi.n, .int .i64 kr.hi.d, .bool kr.hi.s, .slice oa (lows (linesL F (allL F))).length ca, .slice ob (ups (linesL F (allL F))).length cb, .bool kr.e] 102)
  have hB0 := Bk.new w 102 [.pointer (some ⟨b, 0, none⟩), .int .i64 kr.lo.n, .int .i64 kr.lo.d, .bool kr.lo.s, .int .i64 kr.hi.n, .int .i64 kr.hi.d, .bool kr.hi.s, .slice oa (lows (linesL F (allL F))).length ca, .slice ob (ups (linesL F (allL F))).length cb, .bool kr.e]
  have hbW0 : Below w.heap.size w (w.alloc (Obj.cells #[.pointer (some ⟨b, 0, none⟩), .int .i64 kr.lo.n, .int .i64 kr.lo.d, .bool kr.lo.s, .int .i64 kr.hi.n, .int .i64 kr.hi.d, .bool kr.hi.s, .slice oa (lows (linesL F (allL F))).length ca, .slice ob (ups (linesL F (allL F))).length cb, .bool kr.e] 102)) := Below.alloc (Below.refl _ _) (Nat.le_refl _) _
  obtain ⟨tn, htn⟩ : ∃ n, tmN F.v x = n := ⟨_, rfl⟩
  obtain ⟨td, htd⟩ : ∃ n, tmD F.v x = n := ⟨_, rfl⟩
  rw [htn, htd] at hlb ⊢
  have HTN := Lib.hid htn
  have HTD := Lib.hid htd
  have HKn := Lib.hid hk0
  have HL := Lib.hid hL
  clear hK hk0 hL htn htd hln
  go_enter Tryz.func97, Tryz.ntmps97
  go_wp2_with fail
  generalize hWW : w.alloc (Obj.cells #[.pointer (some ⟨b, 0, none⟩), .int .i64 kr.lo.n, .int .i64 kr.lo.d, .bool kr.lo.s, .int .i64 kr.hi.n, .int .i64 kr.hi.d, .bool kr.hi.s, .slice oa (lows (linesL F (allL F))).length ca, .slice ob (ups (linesL F (allL F))).length cb, .bool kr.e] 102) = W at *
  have y0 := hB0.cell 0
  have y1 := hB0.cell 1
  have y2 := hB0.cell 2
  have y3 := hB0.cell 3
  have y4 := hB0.cell 4
  have y5 := hB0.cell 5
  have y6 := hB0.cell 6
  have y7 := hB0.cell 7
  have y8 := hB0.cell 8
  have y9 := hB0.cell 9
  have yl := hB0.lt
  simp only [List.getElem?_cons_zero, List.getElem?_cons_succ] at y0 y1 y2 y3 y4 y5 y6 y7 y8 y9
  clear hWW
  refine WpK.begin (S := fun _ => True) (kp := fun _ => true) (f := 11) (up := #[false, false, false, false, false, false, false, false, false, false, false]) (by kernel_rfl) (by kernel_rfl) (by kernel_rfl) ?_
  refine WpK.take (i := 0) (v := ?_) ((toArray_at _ _).trans rfl) (by kernel_rfl) (by kernel_rfl) (by kernel_rfl) (by kernel_rfl) (by kernel_rfl) (fun _ _ _ h => h) (Or.inl ⟨by rfl, ?_⟩) trivial ?_
  rotate_left
  · (intro x hx; go_simp <;> with_reducible rfl)
  simp only [Act.put, puts]
  refine WpK.take (i := 2) (v := ?_) ((toArray_at _ _).trans rfl) (by kernel_rfl) (by kernel_rfl) (by kernel_rfl) (by kernel_rfl) (by kernel_rfl) (fun _ _ _ h => h) (Or.inl ⟨by rfl, ?_⟩) trivial ?_
  rotate_left
  · (intro x hx; go_simp <;> with_reducible rfl)
  simp only [Act.put, puts]
  refine WpK.take (i := 3) (v := ?_) ((toArray_at _ _).trans rfl) (by kernel_rfl) (by kernel_rfl) (by kernel_rfl) (by kernel_rfl) (by kernel_rfl) (fun _ _ _ h => h) (Or.inl ⟨by rfl, ?_⟩) trivial ?_
  rotate_left
  · (intro x hx; go_simp <;> with_reducible rfl)
  simp only [Act.put, puts]
  refine WpK.take (i := 5) (v := ?_) ((toArray_at _ _).trans rfl) (by kernel_rfl) (by kernel_rfl) (by kernel_rfl) (by kernel_rfl) (by kernel_rfl) (fun _ _ _ h => h) (Or.inl ⟨by rfl, ?_⟩) trivial ?_
  rotate_left
  · (intro x hx; go_simp <;> with_reducible rfl)
  simp only [Act.put, puts]
  refine WpK.weaken (S := fun x => Below W.heap.size W x) (kp := (fun i => decide (i < 9))) (fun _ => trivial) _ ?_
  have hS0 := (show Below W.heap.size W W.drew from (Below.refl _ _).drew)
  refine WpK.take (i := 1) (v := ?_) ((toArray_at _ _).trans rfl) (by kernel_rfl) (by kernel_rfl) (by kernel_rfl) (by kernel_rfl) (by kernel_rfl) (fun _ _ _ h => h) (Or.inl ⟨by rfl, ?_⟩) hS0 ?_
  rotate_left
  · (intro x hx; obtain ⟨hcx, hfx⟩ := bcell hx; go_simp <;> with_reducible rfl)
  try simp only [Act.put, puts]
  refine WpK.take (i := 4) (v := ?_) ((toArray_at _ _).trans rfl) (by kernel_rfl) (by kernel_rfl) (by kernel_rfl) (by kernel_rfl) (by kernel_rfl) (fun _ _ _ h => h) (Or.inl ⟨by rfl, ?_⟩) hS0 ?_
  rotate_left
  · (intro x hx; obtain ⟨hcx, hfx⟩ := bcell hx; go_simp <;> with_reducible rfl)
  try simp only [Act.put, puts]
  clear hS0
  refine WpK.one (i := 6) (by kernel_rfl) ((toArray_at _ _).trans rfl) ?_
  intro K hK
  have HK := Lib.hid hK
  clear hK
  go_simp
  refine (time_any F b vv vs pv x _ (HKn.out.s.below (Below.drew (Below.refl _ _))) x0 xn).mono ?_
  rintro e W2 ⟨rfl, hbq⟩
  rw [HTN.out, HTD.out]
  have hW2 : Below W.heap.size W W2 := Below.trans (Below.drew (Below.refl _ _)) hbq
  clear hbq
  refine HK.out _ _ (fun _ => hW2) (fun _ => ?_)
  clear HK K
  try simp only [puts]
  refine WpK.one (i := 7) (by kernel_rfl) ((toArray_at _ _).trans rfl) ?_
  intro K hK
  have HK := Lib.hid hK
  clear hK
  go_simp
  refine HK.out _ _ (fun _ => hW2) (fun _ => ?_)
  clear HK K
  try simp only [puts]
  refine WpK.one (i := 8) (by kernel_rfl) ((toArray_at _ _).trans rfl) ?_
  intro K hK
  have HK := Lib.hid hK
  clear hK
  go_simp
  refine HK.out _ _ (fun _ => hW2.alloc hW2.size _) (fun _ => ?_)
  clear HK K
  try simp only [puts]
  refine WpK.one (i := 9) (by kernel_rfl) ((toArray_at _ _).trans rfl) ?_
  intro K hK
  have HK := Lib.hid hK
  clear hK
  have hkn := (HKn.out.below hW2).alloc (Obj.cells #[.int .i64 m, .int .i64 tn, .int .i64 td, .bool true] 142)
  have HW2 := Lib.hid hW2
  go_simp
  refine (can_over kr oa ob ca cb _ _ ⟨m, tn, td, true⟩ W2.heap.size _ hkn.a hkn.b hcA hcB hRB HL.out.1 HL.out.2 hlb (Bk.new _ _ _) hnA hnB).mono ?_
  rintro e w2 ⟨rfl, hb2⟩
  have hbw2 := Lib.hid (bthen hbW0 ((HW2.out.alloc HW2.out.size _).trans (hb2.mono (by have := HW2.out.size; simp; omega))))
  refine HK.out _ _ (fun h => absurd h (by decide)) (fun _ => ?_)
  clear HK K
  try simp only [puts]
  refine WpK.one (i := 10) (by kernel_rfl) ((toArray_at _ _).trans rfl) ?_
  intro K hK
  have HK := Lib.hid hK
  clear hK
  go_simp
  refine HK.out _ _ (fun h => absurd h (by decide)) (fun _ => ?_)
  clear HK K
  try simp only [puts]
  refine WpK.done (by kernel_rfl) ?_
  go_wp2_with fail
  go_ret
  exact ⟨rfl, hbw2.out⟩
set_option maxRecDepth 100000 in
set_option maxHeartbeats 2000000 in
theorem outward_any (most : Int) (n1 n2 : Nat) (c1 c2 : Array Value) (P Q : Int → Bool) (w : World) (m0 : 0 ≤ most) (m1 : most ≤ 16000000)
    (r1 : ∀ (args : Array Value) (W : World), Sem.run Tryz.prog (callFunc n1 args) W = .ok (.enter n1 args) W) (r2 : ∀ (args : Array Value) (W : World), Sem.run Tryz.prog (callFunc n2 args) W = .ok (.enter n2 args) W)
    (h1 : ∀ (m : Int) (W : World), 0 ≤ m → m ≤ most → Below w.heap.size w W → Calls Tryz.prog n1 (#[.int .i64 m] ++ c1) W fun e W' => e = .returned (.bool (P m)) ∧ Below W.heap.size W W')
    (h2 : ∀ (m : Int) (W : World), 0 ≤ m → m ≤ most → Below w.heap.size w W → Calls Tryz.prog n2 (#[.int .i64 m] ++ c2) W fun e W' => e = .returned (.bool (Q m)) ∧ Below W.heap.size W W') :
    Calls Tryz.prog 137 #[.int .i64 most, .func (.func n1) #[] c1, .func (.func n2) #[] c2] w fun e w' => e = .returned (.agg #[.int .i64 (lastNot P 24 0 most), .int .i64 (firstNot Q 24 0 most)]) ∧ Below w.heap.size w w' := by
  obtain ⟨X, hX⟩ : ∃ x, lastNot P 24 0 most = x := ⟨_, rfl⟩
  obtain ⟨Y, hY⟩ : ∃ x, firstNot Q 24 0 most = x := ⟨_, rfl⟩
  rw [hX, hY]
  have HX := Lib.hid hX
  have HY := Lib.hid hY
  have H1 := Lib.hid h1
  have H2 := Lib.hid h2
  have hz := Bk.new w 27 [.int .i64 0, .int .i64 0]
  have HZ := Lib.hid hz
  clear hX hY h1 h2 hz
  go_enter Tryz.func137, Tryz.ntmps137
  go_wp2_with fail
  go_loopw [7, 8, 9] (fun a b _ wr => ∃ (lo hi : Int) (f : Nat), 0 ≤ lo ∧ lo ≤ hi ∧ hi ≤ most ∧ a = .int .i64 lo ∧ b = .int .i64 hi ∧ Hid (lastNot P f lo hi = X) ∧ Hid ((hi - lo).toNat < 2 ^ f) ∧ Below (w.heap.size + 1) (w.alloc (Obj.cells #[.int .i64 0, .int .i64 0] 27)) wr) (fun a b _ _ => (intOf b - intOf a).toNat)
  case atStart => exact ⟨0, most, 24, by omega, by omega, by omega, rfl, rfl, HX, Lib.hid (by omega), by rw [← World.size_alloc w (Obj.cells #[.int .i64 0, .int .i64 0] 27)]; exact Below.refl _ _⟩
  case round =>
    obtain ⟨lo, hi, f, l0, l1, l2, rfl, rfl, hf, hp, hbl⟩ := hrel
    by_cases hlt : lo < hi
    · go_wp2_with fail
      have hbw : Below w.heap.size w wr := Below.trans (Below.alloc (Below.refl _ _) (Nat.le_refl _) _) (hbl.mono (Nat.le_succ _))
      refine (H1.out (lo + (hi - lo + 1) / 2) wr (by omega) (by omega) hbw).mono ?_
      rintro e w2 ⟨rfl, hb2⟩
      have hz2 := hbl.size
      simp only [World.size_alloc] at hz2
      have hb3 : Below (w.heap.size + 1) (w.alloc (Obj.cells #[.int .i64 0, .int .i64 0] 27)) w2 := hbl.trans (hb2.mono hz2)
      obtain ⟨f, rfl⟩ : ∃ f', f = f' + 1 := by
        cases f with
        | zero => have := hp.out; simp at this; omega
        | succ f => exact ⟨f, rfl⟩
      have hf2 := hf.out
      have hp2 := hp.out
      rw [Nat.pow_succ] at hp2
      rw [lastNot, if_pos hlt, ← half_up] at hf2
      cases hP : P (lo + (hi - lo + 1) / 2) with
      | true =>
        rw [hP, if_pos rfl] at hf2
        have HF := Lib.hid hf2
        have HP := Lib.hid hp2
        clear hf2 hp2 hf hp hP
        go_wp2_with fail
        refine ⟨⟨lo, (lo + (hi - lo + 1) / 2) - 1, f, by omega, by omega, by omega, rfl, by first | rfl | go_num, HF, Lib.hid (by have := HP.out; omega), hb3⟩, by simp [intOf]; omega⟩
      | false =>
        rw [hP, if_neg (by decide)] at hf2
        have HF := Lib.hid hf2
        have HP := Lib.hid hp2
        clear hf2 hp2 hf hp hP
        go_wp2_with fail
        refine ⟨⟨(lo + (hi - lo + 1) / 2), hi, f, by omega, by omega, by omega, by first | rfl | go_num, by first | rfl | go_num, HF, Lib.hid (by have := HP.out; omega), hb3⟩, by simp [intOf]; omega⟩
    · have hX : lo = X := by
        have := lastNot_in P f lo hi l1
        have := hf.out
        omega
      subst hX
      clear hf hp
      go_wp2_with fail
      go_loopw [7, 8, 11] (fun a b _ wr => ∃ (lo hi : Int) (f : Nat), 0 ≤ lo ∧ lo ≤ hi ∧ hi ≤ most ∧ a = .int .i64 lo ∧ b = .int .i64 hi ∧ Hid (firstNot Q f lo hi = Y) ∧ Hid ((hi - lo).toNat < 2 ^ f) ∧ Below (w.heap.size + 1) (w.alloc (Obj.cells #[.int .i64 0, .int .i64 0] 27)) wr) (fun a b _ _ => (intOf b - intOf a).toNat)
      case atStart => exact ⟨0, most, 24, by omega, by omega, by omega, rfl, rfl, HY, Lib.hid (by omega), hbl⟩
      case round =>
        obtain ⟨lo2, hi, f, l0, l1, l2, rfl, rfl, hf, hp, hbl⟩ := hrel
        by_cases hlt : lo2 < hi
        · go_wp2_with fail
          have hbw : Below w.heap.size w wr := Below.trans (Below.alloc (Below.refl _ _) (Nat.le_refl _) _) (hbl.mono (Nat.le_succ _))
          refine (H2.out (lo2 + (hi - lo2) / 2) wr (by omega) (by omega) hbw).mono ?_
          rintro e w2 ⟨rfl, hb2⟩
          have hz2 := hbl.size
          simp only [World.size_alloc] at hz2
          have hb3 : Below (w.heap.size + 1) (w.alloc (Obj.cells #[.int .i64 0, .int .i64 0] 27)) w2 := hbl.trans (hb2.mono hz2)
          obtain ⟨f, rfl⟩ : ∃ f', f = f' + 1 := by
            cases f with
            | zero => have := hp.out; simp at this; omega
            | succ f => exact ⟨f, rfl⟩
          have hf2 := hf.out
          have hp2 := hp.out
          rw [Nat.pow_succ] at hp2
          rw [firstNot, if_pos hlt, ← half_dn] at hf2
          cases hP : Q (lo2 + (hi - lo2) / 2) with
          | true =>
            rw [hP, if_pos rfl] at hf2
            have HF := Lib.hid hf2
            have HP := Lib.hid hp2
            clear hf2 hp2 hf hp hP
            go_wp2_with fail
            refine ⟨⟨(lo2 + (hi - lo2) / 2) + 1, hi, f, by omega, by omega, by omega, rfl, by first | rfl | go_num, HF, Lib.hid (by have := HP.out; omega), hb3⟩, by simp [intOf]; omega⟩
          | false =>
            rw [hP, if_neg (by decide)] at hf2
            have HF := Lib.hid hf2
            have HP := Lib.hid hp2
            clear hf2 hp2 hf hp hP
            go_wp2_with fail
            refine ⟨⟨lo2, (lo2 + (hi - lo2) / 2), f, by omega, by omega, by omega, by first | rfl | go_num, by first | rfl | go_num, HF, Lib.hid (by have := HP.out; omega), hb3⟩, by simp [intOf]; omega⟩
        · have hY : lo2 = Y := by
            have := firstNot_in Q f lo2 hi l1
            have := hf.out
            omega
          subst hY
          clear hf hp
          have hz3 := HZ.out.below (Below.mono hbl (by simp))
          have z0 := hz3.cell 0
          have z1 := hz3.cell 1
          have z2 := hz3.frozen 0
          have z3 := hz3.frozen 1
          simp only [List.getElem?_cons_zero, List.getElem?_cons_succ] at z0 z1
          have HZ3 := Lib.hid hz3
          clear hz3
          go_wp2_with fail
          refine bodyPost_ret (results_cell_row rfl _ _ w.heap.size _ _ (0, 0) _ rfl ((HZ3.out.set 0 (.int .i64 lo)).set 1 (.int .i64 lo2)) Tryz.underlying27 rfl (by kernel_rfl)) rfl ⟨rfl, ?_⟩
          exact ((Below.trans (Below.alloc (Below.refl _ _) (Nat.le_refl _) _) (hbl.mono (Nat.le_succ _))).setCell (Nat.le_refl _) _).setCell (Nat.le_refl _) _
end Go.Proofs.YtnfndiafabhhdaaGreat
