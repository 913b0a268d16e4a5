/- Walks of Surely, Ever (Wear). -/
import Derived.Test.YtnfndiafabhhdaaGreatE4
namespace Go.Proofs.YtnfndiafabhhdaaGreat
open Go.ChangeShapes Go.WideShapes Go.ChangeAt Go.RowKit
def suV (F : Fl) (x m : Int) : Value := if rdE F (asR F x m) = 0 then .tuple #[.bool (!ovB F x m), .int .i64 0] else .tuple #[.bool false, .int .i64 (rdE F (asR F x m))]
def evB (F : Fl) (x m : Int) : Bool := !(solW (knR F) (lows (linesL F (allL F))) (ups (linesL F (allL F)) ++ [⟨m, tmN F.v x, tmD F.v x, false⟩])).e
def evV (F : Fl) (x m : Int) : Value := if rdE F (asR F x m) = 0 then .tuple #[.bool (evB F x m), .int .i64 0] else .tuple #[.bool false, .int .i64 (rdE F (asR F x m))]
set_option maxRecDepth 100000 in
set_option maxHeartbeats 4000000 in
theorem Surely_any (F : Fl) (vv vs : Value) (x m : Int) (w : World) (hF : FlIn w F vv vs) : Calls Tryz.prog 28 #[flV F vv vs, .int .i64 x, .int .i64 m] w fun e w' => e = .returned (suV F x m) ∧ Below w.heap.size w w' := by
  have hO := wasked_any F vv vs x m _ (hF.alloc (flO F vv vs))
  obtain ⟨os, cs, rfl, ms⟩ := hF.s.parts
  obtain ⟨ov, cv, rfl, mv⟩ := hF.v.parts
  have HO := Lib.hid hO
  obtain ⟨rq, hrq⟩ : ∃ q, asR F x m = q := ⟨_, rfl⟩
  rw [hrq] at HO
  have HRQ := Lib.hid hrq
  clear hO hF hrq
  go_enter Tryz.func28, Tryz.ntmps28
  go_wp2_with fail
  refine HO.out.mono ?_
  rintro e w1 (⟨h0, rfl, hb1⟩ | ⟨h0, b, pv, va, vb, rfl, hb1, hK⟩)
  · have hbd := rdE_bd F rq
    have hwe : suV F x m = .tuple #[.bool false, .int .i64 (rdE F rq)] := by unfold suV; rw [HRQ.out, if_neg h0]
    obtain ⟨er, her⟩ : ∃ x, rdE F rq = x := ⟨_, rfl⟩
    rw [her] at h0 hbd hwe ⊢
    have hne : (er == 0) = false := by simpa using h0
    have HWE := Lib.hid hwe
    have hbw := Lib.hid (bafter hb1)
    clear her hwe hb1
    go_wp2_with fail
    go_ret2
    exact ⟨by rw [HWE.out]; rfl, hbw.out.alloc hbw.out.size _⟩
  · have hR : rq = true := by
      rcases bool_ft rq with hf | hf
      · rw [hf] at h0
        unfold rdE at h0
        cases ho : okFl F <;> simp [ho] at h0
      · exact hf
    obtain ⟨x0, xn, m0, m1⟩ : 0 ≤ x ∧ x ≤ hgt F.v ∧ 0 ≤ m ∧ m ≤ 2097152 := by
      have := HRQ.out.trans hR
      simp only [asR, inB, Bool.and_eq_true, decide_eq_true_eq] at this
      omega
    obtain ⟨oa, ca, rfl, _⟩ := hK.a.parts
    obtain ⟨ob, cb, rfl, _⟩ := hK.b.parts
    have hbw := Lib.hid (bafter hb1)
    have hwe : suV F x m = .tuple #[.bool (!ovB F x m), .int .i64 0] := by unfold suV; rw [HRQ.out, if_pos h0]
    have hO := kover_any F b _ _ pv oa ob ca cb x m _ (hK.alloc (Obj.cells (knL b (knR F) (.slice oa (lows (linesL F (allL F))).length ca) (.slice ob (ups (linesL F (allL F))).length cb)).toArray 102)) x0 xn m0 m1
    obtain ⟨q, hq⟩ : ∃ q, ovB F x m = q := ⟨_, rfl⟩
    rw [show (!(solW (knR F) (lows (linesL F (allL F)) ++ [⟨m, tmN F.v x, tmD F.v x, true⟩]) (ups (linesL F (allL F)))).e) = q from hq] at hO
    rw [hq] at hwe
    have HWE := Lib.hid hwe
    have HOV := Lib.hid hO
    have hb4 := Bk.new w1 102 (knL b (knR F) (.slice oa (lows (linesL F (allL F))).length ca) (.slice ob (ups (linesL F (allL F))).length cb))
    have HB4 := Lib.hid hb4
    clear hq hwe hO hb4 hK hb1 h0 hR HO
    generalize knR F = kr at *
    generalize (lows (linesL F (allL F))).length = la at *
    generalize (ups (linesL F (allL F))).length = lb at *
    go_wp2_with (first | (refine ld_at rfl (T := 102) rfl rfl HB4.out Tryz.underlying102 rfl (by kernel_rfl) ?_) | (go_at_call 97; refine HOV.out.mono ?_; rintro e w2 ⟨rfl, hb2⟩))
    go_ret2
    exact ⟨by rw [HWE.out]; rfl, bthen (bthen hbw.out (ballo _ _)) (by assumption)⟩
set_option maxRecDepth 100000 in
set_option maxHeartbeats 4000000 in
theorem Ever_any (F : Fl) (vv vs : Value) (x m : Int) (w : World) (hF : FlIn w F vv vs) : Calls Tryz.prog 30 #[flV F vv vs, .int .i64 x, .int .i64 m] w fun e w' => e = .returned (evV F x m) ∧ Below w.heap.size w w' := by
  have hO := wasked_any F vv vs x m _ (hF.alloc (flO F vv vs))
  obtain ⟨os, cs, rfl, ms⟩ := hF.s.parts
  obtain ⟨ov, cv, rfl, mv⟩ := hF.v.parts
  have HO := Lib.hid hO
  obtain ⟨rq, hrq⟩ : ∃ q, asR F x m = q := ⟨_, rfl⟩
  rw [hrq] at HO
  have HRQ := Lib.hid hrq
  clear hO hF hrq
  go_enter Tryz.func30, Tryz.ntmps30
  go_wp2_with fail
  refine HO.out.mono ?_
  rintro e w1 (⟨h0, rfl, hb1⟩ | ⟨h0, b, pv, va, vb, rfl, hb1, hK⟩)
  · have hbd := rdE_bd F rq
    have hwe : evV F x m = .tuple #[.bool false, .int .i64 (rdE F rq)] := by unfold evV; rw [HRQ.out, if_neg h0]
    obtain ⟨er, her⟩ : ∃ x, rdE F rq = x := ⟨_, rfl⟩
    rw [her] at h0 hbd hwe ⊢
    have hne : (er == 0) = false := by simpa using h0
    have HWE := Lib.hid hwe
    have hbw := Lib.hid (bafter hb1)
    clear her hwe hb1
    go_wp2_with fail
    go_region
    go_wp2_with fail
    go_ret2
    exact ⟨by rw [HWE.out]; rfl, (hbw.out.alloc hbw.out.size _).drew⟩
  · have hR : rq = true := by
      rcases bool_ft rq with hf | hf
      · rw [hf] at h0
        unfold rdE at h0
        cases ho : okFl F <;> simp [ho] at h0
      · exact hf
    obtain ⟨x0, xn, m0, m1⟩ : 0 ≤ x ∧ x ≤ hgt F.v ∧ 0 ≤ m ∧ m ≤ 2097152 := by
      have := HRQ.out.trans hR
      simp only [asR, inB, Bool.and_eq_true, decide_eq_true_eq] at this
      omega
    obtain ⟨oa, ca, rfl, _⟩ := hK.a.parts
    obtain ⟨ob, cb, rfl, _⟩ := hK.b.parts
    have hbw := Lib.hid (bafter hb1)
    have hwe : evV F x m = .tuple #[.bool (evB F x m), .int .i64 0] := by unfold evV; rw [HRQ.out, if_pos h0]
    have hRB := knR_B hK.s.o
    have hL := lines_B hK.s.o (allL_ok F)
    have hlen : (linesL F (allL F)).length ≤ 3000 := by
      have := lines_len F (allL F)
      have h2 := all_len F
      have := hK.s.o.n
      omega
    have hnA : (lows (linesL F (allL F))).length ≤ 3000 := Nat.le_trans (lows_le _) hlen
    have hnB : (ups (linesL F (allL F))).length ≤ 3000 := Nat.le_trans (ups_le _) hlen
    have hlb := lnB_T hK.s.o (k := m) x0 xn m0 m1 false
    have hcA : (lows (linesL F (allL F))).length ≤ ca := hK.ca
    have hcB : (ups (linesL F (allL F))).length ≤ cb := hK.cb
    unfold evB at hwe
    obtain ⟨kr, hkr⟩ : ∃ r, knR F = r := ⟨_, rfl⟩
    rw [hkr] at hRB hwe ⊢
    clear hkr
    have hln : lnT F.v m x false = ⟨m, tmN F.v x, tmD F.v x, false⟩ := rfl
    rw [hln] at hlb
    have hk0 := hK.alloc (Obj.cells #[.pointer (some ⟨b, 0, none⟩), .int .i64 kr.lo.n, .int .i64 kr.lo.d, .bool kr.lo.s, .int .i64 kr.hi.n, .int .i64 kr.hi.d, .bool kr.hi.s, .slice oa (lows (linesL F (allL F))).length ca, .slice ob (ups (linesL F (allL F))).length cb, .bool kr.e] 102)
    have hB0 := Bk.new w1 102 [.pointer (some ⟨b, 0, none⟩), .int .i64 kr.lo.n, .int .i64 kr.lo.d, .bool kr.lo.s, .int .i64 kr.hi.n, .int .i64 kr.hi.d, .bool kr.hi.s, .slice oa (lows (linesL F (allL F))).length ca, .slice ob (ups (linesL F (allL F))).length cb, .bool kr.e]
    have hbW0 := hbw.out.alloc hbw.out.size (Obj.cells #[.pointer (some ⟨b, 0, none⟩), .int .i64 kr.lo.n, .int .i64 kr.lo.d, .bool kr.lo.s, .int .i64 kr.hi.n, .int .i64 kr.hi.d, .bool kr.hi.s, .slice oa (lows (linesL F (allL F))).length ca, .slice ob (ups (linesL F (allL F))).length cb, .bool kr.e] 102)
    obtain ⟨tn, htn⟩ : ∃ n, tmN F.v x = n := ⟨_, rfl⟩
    obtain ⟨td, htd⟩ : ∃ n, tmD F.v x = n := ⟨_, rfl⟩
    rw [htn, htd] at hlb hwe
    have HTN := Lib.hid htn
    have HTD := Lib.hid htd
    have HKn := Lib.hid hk0
    have HL := Lib.hid hL
    have HWE := Lib.hid hwe
    clear hK hk0 hL htn htd hln hwe HO hb1 h0 hR
    go_wp2_with fail
    generalize hWW : w1.alloc (Obj.cells #[.pointer (some ⟨b, 0, none⟩), .int .i64 kr.lo.n, .int .i64 kr.lo.d, .bool kr.lo.s, .int .i64 kr.hi.n, .int .i64 kr.hi.d, .bool kr.hi.s, .slice oa (lows (linesL F (allL F))).length ca, .slice ob (ups (linesL F (allL F))).length cb, .bool kr.e] 102) = W at *
    have y0 := hB0.cell 0
    have y1 := hB0.cell 1
    have y2 := hB0.cell 2
    have y3 := hB0.cell 3
    have y4 := hB0.cell 4
    have y5 := hB0.cell 5
    have y6 := hB0.cell 6
    have y7 := hB0.cell 7
    have y8 := hB0.cell 8
    have y9 := hB0.cell 9
    have yl := hB0.lt
    simp only [List.getElem?_cons_zero, List.getElem?_cons_succ] at y0 y1 y2 y3 y4 y5 y6 y7 y8 y9
    clear hWW
    refine WpK.begin (S := fun _ => True) (kp := fun _ => true) (f := 17) (up := #[false, false, false, false, false, false, false, false, false, false, false, false, false, false, false, false, false]) (by kernel_rfl) (by kernel_rfl) (by kernel_rfl) ?_
    refine WpK.take (i := 0) (v := ?_) ((toArray_at _ _).trans rfl) (by kernel_rfl) (by kernel_rfl) (by kernel_rfl) (by kernel_rfl) (by kernel_rfl) (fun _ _ _ h => h) (Or.inl ⟨by rfl, ?_⟩) trivial ?_
    rotate_left
    · (intro x hx; go_simp <;> with_reducible rfl)
    simp only [Act.put, puts]
    refine WpK.take (i := 1) (v := ?_) ((toArray_at _ _).trans rfl) (by kernel_rfl) (by kernel_rfl) (by kernel_rfl) (by kernel_rfl) (by kernel_rfl) (fun _ _ _ h => h) (Or.inl ⟨by rfl, ?_⟩) trivial ?_
    rotate_left
    · (intro x hx; go_simp <;> with_reducible rfl)
    simp only [Act.put, puts]
    refine WpK.take (i := 2) (v := ?_) ((toArray_at _ _).trans rfl) (by kernel_rfl) (by kernel_rfl) (by kernel_rfl) (by kernel_rfl) (by kernel_rfl) (fun _ _ _ h => h) (Or.inl ⟨by rfl, ?_⟩) trivial ?_
    rotate_left
    · (intro x hx; go_simp <;> with_reducible rfl)
    simp only [Act.put, puts]
    refine WpK.take (i := 3) (v := ?_) ((toArray_at _ _).trans rfl) (by kernel_rfl) (by kernel_rfl) (by kernel_rfl) (by kernel_rfl) (by kernel_rfl) (fun _ _ _ h => h) (Or.inl ⟨by rfl, ?_⟩) trivial ?_
    rotate_left
    · (intro x hx; go_simp <;> with_reducible rfl)
    simp only [Act.put, puts]
    refine WpK.take (i := 5) (v := ?_) ((toArray_at _ _).trans rfl) (by kernel_rfl) (by kernel_rfl) (by kernel_rfl) (by kernel_rfl) (by kernel_rfl) (fun _ _ _ h => h) (Or.inl ⟨by rfl, ?_⟩) trivial ?_
    rotate_left
    · (intro x hx; go_simp <;> with_reducible rfl)
    simp only [Act.put, puts]
    refine WpK.take (i := 6) (v := ?_) ((toArray_at _ _).trans rfl) (by kernel_rfl) (by kernel_rfl) (by kernel_rfl) (by kernel_rfl) (by kernel_rfl) (fun _ _ _ h => h) (Or.inl ⟨by rfl, ?_⟩) trivial ?_
    rotate_left
    · (intro x hx; go_simp <;> with_reducible rfl)
    simp only [Act.put, puts]
    refine WpK.take (i := 8) (v := ?_) ((toArray_at _ _).trans rfl) (by kernel_rfl) (by kernel_rfl) (by kernel_rfl) (by kernel_rfl) (by kernel_rfl) (fun _ _ _ h => h) (Or.inl ⟨by rfl, ?_⟩) trivial ?_
    rotate_left
    · (intro x hx; go_simp <;> with_reducible rfl)
    simp only [Act.put, puts]
    refine WpK.take (i := 14) (v := ?_) ((toArray_at _ _).trans rfl) (by kernel_rfl) (by kernel_rfl) (by kernel_rfl) (by kernel_rfl) (by kernel_rfl) (fun _ _ _ h => h) (Or.inl ⟨by rfl, ?_⟩) trivial ?_
    rotate_left
    · (intro x hx; go_simp <;> with_reducible rfl)
    simp only [Act.put, puts]
    refine WpK.weaken (S := fun x => Below W.heap.size W x) (kp := (fun _ => true)) (fun _ => trivial) _ ?_
    have hS0 := (show Below W.heap.size W W.drew from (Below.refl _ _).drew)
    refine WpK.take (i := 4) (v := ?_) ((toArray_at _ _).trans rfl) (by kernel_rfl) (by kernel_rfl) (by kernel_rfl) (by kernel_rfl) (by kernel_rfl) (fun _ _ _ h => h) (Or.inl ⟨by rfl, ?_⟩) hS0 ?_
    rotate_left
    · (intro x hx; obtain ⟨hcx, hfx⟩ := bcell hx; go_simp <;> with_reducible rfl)
    try simp only [Act.put, puts]
    refine WpK.take (i := 7) (v := ?_) ((toArray_at _ _).trans rfl) (by kernel_rfl) (by kernel_rfl) (by kernel_rfl) (by kernel_rfl) (by kernel_rfl) (fun _ _ _ h => h) (Or.inl ⟨by rfl, ?_⟩) hS0 ?_
    rotate_left
    · (intro x hx; obtain ⟨hcx, hfx⟩ := bcell hx; go_simp <;> with_reducible rfl)
    try simp only [Act.put, puts]
    clear hS0
    refine WpK.one (i := 9) (by kernel_rfl) ((toArray_at _ _).trans rfl) ?_
    intro K hK
    have HK := Lib.hid hK
    clear hK
    go_simp
    refine (time_any F b _ _ pv x _ (HKn.out.s.below (Below.drew (Below.refl _ _))) x0 xn).mono ?_
    rintro e W2 ⟨rfl, hbq⟩
    rw [HTN.out, HTD.out]
    have hW2 : Below W.heap.size W W2 := Below.trans (Below.drew (Below.refl _ _)) hbq
    clear hbq
    refine HK.out _ _ (fun _ => hW2) (fun _ => ?_)
    clear HK K
    try simp only [puts]
    refine WpK.one (i := 10) (by kernel_rfl) ((toArray_at _ _).trans rfl) ?_
    intro K hK
    have HK := Lib.hid hK
    clear hK
    go_simp
    refine HK.out _ _ (fun _ => hW2) (fun _ => ?_)
    clear HK K
    try simp only [puts]
    refine WpK.one (i := 11) (by kernel_rfl) ((toArray_at _ _).trans rfl) ?_
    intro K hK
    have HK := Lib.hid hK
    clear hK
    go_simp
    refine HK.out _ _ (fun _ => hW2.alloc hW2.size _) (fun _ => ?_)
    clear HK K
    try simp only [puts]
    refine WpK.one (i := 12) (by kernel_rfl) ((toArray_at _ _).trans rfl) ?_
    intro K hK
    have HK := Lib.hid hK
    clear hK
    have hkn := (HKn.out.below hW2).alloc (Obj.cells #[.int .i64 m, .int .i64 tn, .int .i64 td, .bool false] 142)
    have HW2 := Lib.hid hW2
    go_simp
    refine (can_under kr oa ob ca cb _ _ ⟨m, tn, td, false⟩ W2.heap.size _ hkn.a hkn.b hcA hcB hRB HL.out.1 HL.out.2 hlb (Bk.new _ _ _) hnA hnB).mono ?_
    rintro e w2 ⟨rfl, hb2⟩
    have hW3 := (HW2.out.alloc HW2.out.size (Obj.cells #[.int .i64 m, .int .i64 tn, .int .i64 td, .bool false] 142)).trans (hb2.mono (by have := HW2.out.size; simp; omega))
    have HBF := Lib.hid (hbW0.trans (hW3.mono hbW0.size))
    refine HK.out _ _ (fun _ => hW3) (fun _ => ?_)
    clear HK K
    try simp only [puts]
    refine WpK.one (i := 13) (by kernel_rfl) ((toArray_at _ _).trans rfl) ?_
    intro K hK
    have HK := Lib.hid hK
    clear hK
    go_simp
    refine HK.out _ _ (fun _ => hW3) (fun _ => ?_)
    clear HK K
    try simp only [puts]
    refine WpK.one (i := 15) (by kernel_rfl) ((toArray_at _ _).trans rfl) ?_
    intro K hK
    have HK := Lib.hid hK
    clear hK
    go_simp
    refine HK.out _ _ (fun _ => hW3) (fun _ => ?_)
    clear HK K
    try simp only [puts]
    refine WpK.one (i := 16) (by kernel_rfl) ((toArray_at _ _).trans rfl) ?_
    intro K hK
    have HK := Lib.hid hK
    clear hK
    go_simp
    refine HK.out _ _ (fun _ => hW3) (fun _ => ?_)
    clear HK K
    try simp only [puts]
    refine WpK.done (by kernel_rfl) ?_
    go_wp2_with fail
    go_ret2
    exact ⟨by rw [HWE.out]; rfl, HBF.out⟩
end Go.Proofs.YtnfndiafabhhdaaGreat
