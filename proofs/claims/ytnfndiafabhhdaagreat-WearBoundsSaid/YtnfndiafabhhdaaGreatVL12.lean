/- Bounds, Wear and Start match the specification (WearBounds): the walk. -/
import Derived.Test.YtnfndiafabhhdaaGreatF3
import Derived.Test.YtnfndiafabhhdaaGreatG8
import Derived.Test.YtnfndiafabhhdaaGreatH2
namespace Go.Proofs.YtnfndiafabhhdaaGreat
open Go.ChangeShapes Go.WideShapes Go.ChangeAt Go.RowKit
set_option maxRecDepth 100000 in
set_option maxHeartbeats 4000000 in
theorem law_bounds (F : Fl) (vv vs : Value) (w : World) (hF : FlIn w F vv vs) : Calls Tryz.prog 12 #[flV F vv vs] w fun e w' => e = .returned (.bool true) ∧ Below w.heap.size w w' := by
  obtain ⟨a, b, c, d, be, hbo⟩ : ∃ a b c d e, boV F = .tuple #[.agg #[.int .i64 a, .int .i64 b], .agg #[.int .i64 c, .int .i64 d], .int .i64 e] := ⟨_, _, _, _, _, boV_Q F⟩
  obtain ⟨wa, wb, we, hwe⟩ : ∃ a b e, weE F = .tuple #[.agg #[.int .i64 a, .int .i64 b], .int .i64 e] := by
    unfold weE
    split <;> exact ⟨_, _, _, rfl⟩
  obtain ⟨la, hla⟩ : ∃ k, lvA F 0 = k := ⟨_, rfl⟩
  obtain ⟨lb, hlb⟩ : ∃ k, lvB F 0 = k := ⟨_, rfl⟩
  obtain ⟨le, hle⟩ : ∃ k, rdE F (asR F 0 0) = k := ⟨_, rfl⟩
  have K1 : ∀ vv vs W, FlIn W F vv vs → Calls Tryz.prog 32 #[flV F vv vs] W fun e w' => e = .returned (.tuple #[.agg #[.int .i64 a, .int .i64 b], .agg #[.int .i64 c, .int .i64 d], .int .i64 be]) ∧ Below W.heap.size W w' := fun vv vs W h => by
    rw [← hbo]; exact Bounds_any F vv vs W h
  have K2 : ∀ vv vs W, FlIn W F vv vs → Calls Tryz.prog 48 #[flV F vv vs] W fun e w' => e = .returned (.tuple #[.agg #[.int .i64 a, .int .i64 b], .agg #[.int .i64 c, .int .i64 d], .int .i64 be]) ∧ Below W.heap.size W w' := fun vv vs W h => by
    rw [← hbo]; exact rBounds_any F vv vs W h
  have K3 : ∀ vv vs W, FlIn W F vv vs → Calls Tryz.prog 49 #[flV F vv vs] W fun e w' => e = .returned (.tuple #[.agg #[.int .i64 wa, .int .i64 wb], .int .i64 we]) ∧ Below W.heap.size W w' := fun vv vs W h => by
    rw [← hwe]; exact Wear_any F vv vs W h
  have K4 : ∀ vv vs W, FlIn W F vv vs → Calls Tryz.prog 50 #[flV F vv vs] W fun e w' => e = .returned (.tuple #[.agg #[.int .i64 wa, .int .i64 wb], .int .i64 we]) ∧ Below W.heap.size W w' := fun vv vs W h => by
    rw [← hwe]; exact rWear_any F vv vs W h
  have K5 : ∀ vv vs W, FlIn W F vv vs → Calls Tryz.prog 46 #[flV F vv vs] W fun e w' => e = .returned (.tuple #[.agg #[.int .i64 la, .int .i64 lb], .int .i64 le]) ∧ Below W.heap.size W w' := fun vv vs W h => by
    rw [← hla, ← hlb, ← hle, ← leV_c]; exact Start_any F vv vs W h
  have K6 : ∀ vv vs W, FlIn W F vv vs → Calls Tryz.prog 51 #[flV F vv vs] W fun e w' => e = .returned (.tuple #[.agg #[.int .i64 la, .int .i64 lb], .int .i64 le]) ∧ Below W.heap.size W w' := fun vv vs W h => by
    rw [← hla, ← hlb, ← hle]; exact rStart_any F vv vs W h
  have K1 := Lib.hid K1
  have K2 := Lib.hid K2
  have K3 := Lib.hid K3
  have K4 := Lib.hid K4
  have K5 := Lib.hid K5
  have K6 := Lib.hid K6
  clear hbo hwe hla hlb hle
  obtain ⟨os, cs, rfl, ms⟩ := hF.s.parts
  obtain ⟨ov, cv, rfl, mv⟩ := hF.v.parts
  obtain ⟨sl, hsl⟩ : ∃ k, F.s.length = k := ⟨_, rfl⟩
  obtain ⟨vl, hvl⟩ : ∃ k, F.v.length = k := ⟨_, rfl⟩
  rw [hsl] at hF ms ⊢
  rw [hvl] at hF mv ⊢
  have HSL := Lib.hid hsl
  have HVL := Lib.hid hvl
  clear hsl hvl
  have HF := Lib.hid (hF.alloc (flO F (.slice ov vl cv) (.slice os sl cs)))
  have BP := Lib.hid (Bk.new w 30 (flL F (.slice ov vl cv) (.slice os sl cs)))
  clear hF
  go_enter Tryz.func12, Tryz.ntmps12
  go_wp2_with fail
  refine (sane_any _).mono ?_
  rintro e w1 ⟨rfl, hb⟩
  have HF1 := Lib.hid (HF.out.below hb)
  have BP1 := Lib.hid (BP.out.below hb)
  have HB1 := Lib.hid (bafter hb)
  clear hb HF BP
  go_wp2_with (first | (refine ld_at rfl (T := 30) rfl rfl BP1.out Tryz.underlying30 rfl (by kernel_rfl) ?_) | fail)
  obtain ⟨f, hf⟩ : ∃ f, fewB F = f := ⟨_, rfl⟩
  have HFEW := Lib.hid hf
  clear hf
  refine (few_any F _ _ _ HF1.out).mono ?_
  rw [HFEW.out]
  rintro e w2 ⟨rfl, hb⟩
  have HF2 := Lib.hid (HF1.out.below hb)
  have BP2 := Lib.hid (BP1.out.below hb)
  have HB2 := Lib.hid (bthen HB1.out hb)
  clear HF1 BP1 HB1
  clear hb
  cases f
  · go_wp2_with fail
    go_ret
    exact ⟨rfl, HB2.out⟩
  · go_wp2_with (first | (refine ld_at rfl (T := 30) rfl rfl BP2.out Tryz.underlying30 rfl (by kernel_rfl) ?_) | fail)
    refine (K1.out _ _ _ HF2.out).mono ?_
    rintro e w3 ⟨rfl, hb⟩
    have HF3 := Lib.hid (((HF2.out.below hb).alloc (Obj.cells #[.int .i64 a, .int .i64 b] 41)).alloc (Obj.cells #[.int .i64 c, .int .i64 d] 41))
    have BP3 := Lib.hid (((BP2.out.below hb).alloc (Obj.cells #[.int .i64 a, .int .i64 b] 41)).alloc (Obj.cells #[.int .i64 c, .int .i64 d] 41))
    have HB3 := Lib.hid (((bthen HB2.out hb).alloc (bthen HB2.out hb).size (Obj.cells #[.int .i64 a, .int .i64 b] 41)).alloc (by have := (bthen HB2.out hb).size; simp; omega) (Obj.cells #[.int .i64 c, .int .i64 d] 41))
    have HN3 := Lib.hid ((Bk.new w3 41 [.int .i64 a, .int .i64 b]).alloc (Obj.cells #[.int .i64 c, .int .i64 d] 41))
    have HM3 := Lib.hid (Bk.new (w3.alloc (Obj.cells #[.int .i64 a, .int .i64 b] 41)) 41 [.int .i64 c, .int .i64 d])
    clear HF2 BP2 HB2
    clear hb
    go_wp2_with (first | (refine ld_at rfl (T := 30) rfl rfl BP3.out Tryz.underlying30 rfl (by kernel_rfl) ?_) | fail)
    refine (K2.out _ _ _ HF3.out).mono ?_
    rintro e w4 ⟨rfl, hb⟩
    have HF4 := Lib.hid (((HF3.out.below hb).alloc (Obj.cells #[.int .i64 a, .int .i64 b] 41)).alloc (Obj.cells #[.int .i64 c, .int .i64 d] 41))
    have BP4 := Lib.hid (((BP3.out.below hb).alloc (Obj.cells #[.int .i64 a, .int .i64 b] 41)).alloc (Obj.cells #[.int .i64 c, .int .i64 d] 41))
    have HB4 := Lib.hid (((bthen HB3.out hb).alloc (bthen HB3.out hb).size (Obj.cells #[.int .i64 a, .int .i64 b] 41)).alloc (by have := (bthen HB3.out hb).size; simp; omega) (Obj.cells #[.int .i64 c, .int .i64 d] 41))
    have HN3 := Lib.hid (((HN3.out.below hb).alloc (Obj.cells #[.int .i64 a, .int .i64 b] 41)).alloc (Obj.cells #[.int .i64 c, .int .i64 d] 41))
    have HM3 := Lib.hid (((HM3.out.below hb).alloc (Obj.cells #[.int .i64 a, .int .i64 b] 41)).alloc (Obj.cells #[.int .i64 c, .int .i64 d] 41))
    have HN4 := Lib.hid ((Bk.new w4 41 [.int .i64 a, .int .i64 b]).alloc (Obj.cells #[.int .i64 c, .int .i64 d] 41))
    have HM4 := Lib.hid (Bk.new (w4.alloc (Obj.cells #[.int .i64 a, .int .i64 b] 41)) 41 [.int .i64 c, .int .i64 d])
    clear HF3 BP3 HB3
    clear hb
    go_wp2_with (first | (refine ld_at rfl (T := 30) rfl rfl BP4.out Tryz.underlying30 rfl (by kernel_rfl) ?_) | fail)
    refine (K3.out _ _ _ HF4.out).mono ?_
    rintro e w5 ⟨rfl, hb⟩
    have HF5 := Lib.hid ((HF4.out.below hb).alloc (Obj.cells #[.int .i64 wa, .int .i64 wb] 27))
    have BP5 := Lib.hid ((BP4.out.below hb).alloc (Obj.cells #[.int .i64 wa, .int .i64 wb] 27))
    have HB5 := Lib.hid ((bthen HB4.out hb).alloc (bthen HB4.out hb).size (Obj.cells #[.int .i64 wa, .int .i64 wb] 27))
    have HN5 := Lib.hid (Bk.new w5 27 [.int .i64 wa, .int .i64 wb])
    clear HF4 BP4 HB4
    have HN3 := Lib.hid ((HN3.out.below hb).alloc (Obj.cells #[.int .i64 wa, .int .i64 wb] 27))
    have HM3 := Lib.hid ((HM3.out.below hb).alloc (Obj.cells #[.int .i64 wa, .int .i64 wb] 27))
    have HN4 := Lib.hid ((HN4.out.below hb).alloc (Obj.cells #[.int .i64 wa, .int .i64 wb] 27))
    have HM4 := Lib.hid ((HM4.out.below hb).alloc (Obj.cells #[.int .i64 wa, .int .i64 wb] 27))
    clear hb
    go_wp2_with (first | (refine ld_at rfl (T := 30) rfl rfl BP5.out Tryz.underlying30 rfl (by kernel_rfl) ?_) | fail)
    refine (K4.out _ _ _ HF5.out).mono ?_
    rintro e w6 ⟨rfl, hb⟩
    have HF6 := Lib.hid ((HF5.out.below hb).alloc (Obj.cells #[.int .i64 wa, .int .i64 wb] 27))
    have BP6 := Lib.hid ((BP5.out.below hb).alloc (Obj.cells #[.int .i64 wa, .int .i64 wb] 27))
    have HB6 := Lib.hid ((bthen HB5.out hb).alloc (bthen HB5.out hb).size (Obj.cells #[.int .i64 wa, .int .i64 wb] 27))
    have HN6 := Lib.hid (Bk.new w6 27 [.int .i64 wa, .int .i64 wb])
    clear HF5 BP5 HB5
    have HN3 := Lib.hid ((HN3.out.below hb).alloc (Obj.cells #[.int .i64 wa, .int .i64 wb] 27))
    have HM3 := Lib.hid ((HM3.out.below hb).alloc (Obj.cells #[.int .i64 wa, .int .i64 wb] 27))
    have HN4 := Lib.hid ((HN4.out.below hb).alloc (Obj.cells #[.int .i64 wa, .int .i64 wb] 27))
    have HM4 := Lib.hid ((HM4.out.below hb).alloc (Obj.cells #[.int .i64 wa, .int .i64 wb] 27))
    have HN5 := Lib.hid ((HN5.out.below hb).alloc (Obj.cells #[.int .i64 wa, .int .i64 wb] 27))
    clear hb
    go_wp2_with (first | (refine ld_at rfl (T := 30) rfl rfl BP6.out Tryz.underlying30 rfl (by kernel_rfl) ?_) | fail)
    refine (K5.out _ _ _ HF6.out).mono ?_
    rintro e w7 ⟨rfl, hb⟩
    have HF7 := Lib.hid ((HF6.out.below hb).alloc (Obj.cells #[.int .i64 la, .int .i64 lb] 27))
    have BP7 := Lib.hid ((BP6.out.below hb).alloc (Obj.cells #[.int .i64 la, .int .i64 lb] 27))
    have HB7 := Lib.hid ((bthen HB6.out hb).alloc (bthen HB6.out hb).size (Obj.cells #[.int .i64 la, .int .i64 lb] 27))
    have HN7 := Lib.hid (Bk.new w7 27 [.int .i64 la, .int .i64 lb])
    clear HF6 BP6 HB6
    have HN3 := Lib.hid ((HN3.out.below hb).alloc (Obj.cells #[.int .i64 la, .int .i64 lb] 27))
    have HM3 := Lib.hid ((HM3.out.below hb).alloc (Obj.cells #[.int .i64 la, .int .i64 lb] 27))
    have HN4 := Lib.hid ((HN4.out.below hb).alloc (Obj.cells #[.int .i64 la, .int .i64 lb] 27))
    have HM4 := Lib.hid ((HM4.out.below hb).alloc (Obj.cells #[.int .i64 la, .int .i64 lb] 27))
    have HN5 := Lib.hid ((HN5.out.below hb).alloc (Obj.cells #[.int .i64 la, .int .i64 lb] 27))
    have HN6 := Lib.hid ((HN6.out.below hb).alloc (Obj.cells #[.int .i64 la, .int .i64 lb] 27))
    clear hb
    go_wp2_with (first | (refine ld_at rfl (T := 30) rfl rfl BP7.out Tryz.underlying30 rfl (by kernel_rfl) ?_) | fail)
    refine (K6.out _ _ _ HF7.out).mono ?_
    rintro e w8 ⟨rfl, hb⟩
    have HF8 := Lib.hid ((HF7.out.below hb).alloc (Obj.cells #[.int .i64 la, .int .i64 lb] 27))
    have BP8 := Lib.hid ((BP7.out.below hb).alloc (Obj.cells #[.int .i64 la, .int .i64 lb] 27))
    have HB8 := Lib.hid ((bthen HB7.out hb).alloc (bthen HB7.out hb).size (Obj.cells #[.int .i64 la, .int .i64 lb] 27))
    have HN8 := Lib.hid (Bk.new w8 27 [.int .i64 la, .int .i64 lb])
    clear HF7 BP7 HB7
    have HN3 := Lib.hid ((HN3.out.below hb).alloc (Obj.cells #[.int .i64 la, .int .i64 lb] 27))
    have HM3 := Lib.hid ((HM3.out.below hb).alloc (Obj.cells #[.int .i64 la, .int .i64 lb] 27))
    have HN4 := Lib.hid ((HN4.out.below hb).alloc (Obj.cells #[.int .i64 la, .int .i64 lb] 27))
    have HM4 := Lib.hid ((HM4.out.below hb).alloc (Obj.cells #[.int .i64 la, .int .i64 lb] 27))
    have HN5 := Lib.hid ((HN5.out.below hb).alloc (Obj.cells #[.int .i64 la, .int .i64 lb] 27))
    have HN6 := Lib.hid ((HN6.out.below hb).alloc (Obj.cells #[.int .i64 la, .int .i64 lb] 27))
    have HN7 := Lib.hid ((HN7.out.below hb).alloc (Obj.cells #[.int .i64 la, .int .i64 lb] 27))
    clear hb
    have c00 := HN3.out.cell 0
    have c01 := HN3.out.cell 1
    have c10 := HM3.out.cell 0
    have c11 := HM3.out.cell 1
    have c20 := HN4.out.cell 0
    have c21 := HN4.out.cell 1
    have c30 := HM4.out.cell 0
    have c31 := HM4.out.cell 1
    have c40 := HN5.out.cell 0
    have c41 := HN5.out.cell 1
    have c50 := HN6.out.cell 0
    have c51 := HN6.out.cell 1
    have c60 := HN7.out.cell 0
    have c61 := HN7.out.cell 1
    have c70 := HN8.out.cell 0
    have c71 := HN8.out.cell 1
    simp only [List.getElem?_cons_zero, List.getElem?_cons_succ, World.size_alloc] at c00 c01 c10 c11 c20 c21 c30 c31 c40 c41 c50 c51 c60 c61 c70 c71
    go_wp2_with fail
    go_ret
    exact ⟨by simp, HB8.out⟩
end Go.Proofs.YtnfndiafabhhdaaGreat
