/- Sinks, Surely and Ever match the specification (WearSinks): the walk. -/
import Derived.Test.YtnfndiafabhhdaaGreatF3
import Derived.Test.YtnfndiafabhhdaaGreatH4
namespace Go.Proofs.YtnfndiafabhhdaaGreat
open Go.ChangeShapes Go.WideShapes Go.ChangeAt Go.RowKit
set_option maxRecDepth 100000 in
set_option maxHeartbeats 4000000 in
theorem law_sinks (F : Fl) (vv vs : Value) (x y m : Int) (w : World) (hF : FlIn w F vv vs) (_ : -9223372036854775808 ≤ x) (_ : x ≤ 9223372036854775807) (_ : -9223372036854775808 ≤ y) (_ : y ≤ 9223372036854775807) (_ : -9223372036854775808 ≤ m) (_ : m ≤ 9223372036854775807) : Calls Tryz.prog 4 #[flV F vv vs, .int .i64 x, .int .i64 y, .int .i64 m] w fun e w' => e = .returned (.bool true) ∧ Below w.heap.size w w' := by
  obtain ⟨ka, hka⟩ : ∃ k, skA F x y = k := ⟨_, rfl⟩
  obtain ⟨kb, hkb⟩ : ∃ k, skB F x y = k := ⟨_, rfl⟩
  obtain ⟨ke, hke⟩ : ∃ k, rdE F (skR F x y) = k := ⟨_, rfl⟩
  obtain ⟨sa, hsa⟩ : ∃ k, suA F y m = k := ⟨_, rfl⟩
  obtain ⟨ea, hea⟩ : ∃ k, evA F y m = k := ⟨_, rfl⟩
  obtain ⟨se, hse⟩ : ∃ k, rdE F (asR F y m) = k := ⟨_, rfl⟩
  have K1 : ∀ vv vs W, FlIn W F vv vs → Calls Tryz.prog 26 #[flV F vv vs, .int .i64 x, .int .i64 y] W fun e w' => e = .returned (.tuple #[.agg #[.int .i64 ka, .int .i64 kb], .int .i64 ke]) ∧ Below W.heap.size W w' := fun vv vs W h => by
    rw [← hka, ← hkb, ← hke, ← skV_c]; exact Sinks_any F vv vs x y W h
  have K2 : ∀ vv vs W, FlIn W F vv vs → Calls Tryz.prog 27 #[flV F vv vs, .int .i64 x, .int .i64 y] W fun e w' => e = .returned (.tuple #[.agg #[.int .i64 ka, .int .i64 kb], .int .i64 ke]) ∧ Below W.heap.size W w' := fun vv vs W h => by
    rw [← hka, ← hkb, ← hke]; exact rSinks_any F vv vs x y W h
  have K3 : ∀ vv vs W, FlIn W F vv vs → Calls Tryz.prog 28 #[flV F vv vs, .int .i64 y, .int .i64 m] W fun e w' => e = .returned (.tuple #[.bool sa, .int .i64 se]) ∧ Below W.heap.size W w' := fun vv vs W h => by
    rw [← hsa, ← hse, ← suV_c]; exact Surely_any F vv vs y m W h
  have K4 : ∀ vv vs W, FlIn W F vv vs → Calls Tryz.prog 29 #[flV F vv vs, .int .i64 y, .int .i64 m] W fun e w' => e = .returned (.tuple #[.bool sa, .int .i64 se]) ∧ Below W.heap.size W w' := fun vv vs W h => by
    rw [← hsa, ← hse]; exact rSurely_any F vv vs y m W h
  have K5 : ∀ vv vs W, FlIn W F vv vs → Calls Tryz.prog 30 #[flV F vv vs, .int .i64 y, .int .i64 m] W fun e w' => e = .returned (.tuple #[.bool ea, .int .i64 se]) ∧ Below W.heap.size W w' := fun vv vs W h => by
    rw [← hea, ← hse, ← evV_c]; exact Ever_any F vv vs y m W h
  have K6 : ∀ vv vs W, FlIn W F vv vs → Calls Tryz.prog 31 #[flV F vv vs, .int .i64 y, .int .i64 m] W fun e w' => e = .returned (.tuple #[.bool ea, .int .i64 se]) ∧ Below W.heap.size W w' := fun vv vs W h => by
    rw [← hea, ← hse]; exact rEver_any F vv vs y m W h
  have K1 := Lib.hid K1
  have K2 := Lib.hid K2
  have K3 := Lib.hid K3
  have K4 := Lib.hid K4
  have K5 := Lib.hid K5
  have K6 := Lib.hid K6
  clear hka hkb hke hsa hea hse
  obtain ⟨os, cs, rfl, ms⟩ := hF.s.parts
  obtain ⟨ov, cv, rfl, mv⟩ := hF.v.parts
  obtain ⟨sl, hsl⟩ : ∃ k, F.s.length = k := ⟨_, rfl⟩
  obtain ⟨vl, hvl⟩ : ∃ k, F.v.length = k := ⟨_, rfl⟩
  rw [hsl] at hF ms ⊢
  rw [hvl] at hF mv ⊢
  have HSL := Lib.hid hsl
  have HVL := Lib.hid hvl
  clear hsl hvl
  have HF := Lib.hid (hF.alloc (flO F (.slice ov vl cv) (.slice os sl cs)))
  have BP := Lib.hid (Bk.new w 30 (flL F (.slice ov vl cv) (.slice os sl cs)))
  clear hF
  go_enter Tryz.func4, Tryz.ntmps4
  go_wp2_with fail
  refine (sane_any _).mono ?_
  rintro e w1 ⟨rfl, hb⟩
  have HF1 := Lib.hid (HF.out.below hb)
  have BP1 := Lib.hid (BP.out.below hb)
  have HB1 := Lib.hid (bafter hb)
  clear hb HF BP
  go_wp2_with (first | (refine ld_at rfl (T := 30) rfl rfl BP1.out Tryz.underlying30 rfl (by kernel_rfl) ?_) | fail)
  obtain ⟨f, hf⟩ : ∃ f, fewB F = f := ⟨_, rfl⟩
  have HFEW := Lib.hid hf
  clear hf
  refine (few_any F _ _ _ HF1.out).mono ?_
  rw [HFEW.out]
  rintro e w2 ⟨rfl, hb⟩
  have HF2 := Lib.hid (HF1.out.below hb)
  have BP2 := Lib.hid (BP1.out.below hb)
  have HB2 := Lib.hid (bthen HB1.out hb)
  clear HF1 BP1 HB1
  clear hb
  cases f
  · go_wp2_with fail
    go_ret
    exact ⟨rfl, HB2.out⟩
  · go_wp2_with (first | (refine ld_at rfl (T := 30) rfl rfl BP2.out Tryz.underlying30 rfl (by kernel_rfl) ?_) | fail)
    refine (K1.out _ _ _ HF2.out).mono ?_
    rintro e w3 ⟨rfl, hb⟩
    have HF3 := Lib.hid ((HF2.out.below hb).alloc (Obj.cells #[.int .i64 ka, .int .i64 kb] 27))
    have BP3 := Lib.hid ((BP2.out.below hb).alloc (Obj.cells #[.int .i64 ka, .int .i64 kb] 27))
    have HB3 := Lib.hid ((bthen HB2.out hb).alloc (bthen HB2.out hb).size (Obj.cells #[.int .i64 ka, .int .i64 kb] 27))
    have HN3 := Lib.hid (Bk.new w3 27 [.int .i64 ka, .int .i64 kb])
    clear HF2 BP2 HB2
    clear hb
    go_wp2_with (first | (refine ld_at rfl (T := 30) rfl rfl BP3.out Tryz.underlying30 rfl (by kernel_rfl) ?_) | fail)
    refine (K2.out _ _ _ HF3.out).mono ?_
    rintro e w4 ⟨rfl, hb⟩
    have HF4 := Lib.hid ((HF3.out.below hb).alloc (Obj.cells #[.int .i64 ka, .int .i64 kb] 27))
    have BP4 := Lib.hid ((BP3.out.below hb).alloc (Obj.cells #[.int .i64 ka, .int .i64 kb] 27))
    have HB4 := Lib.hid ((bthen HB3.out hb).alloc (bthen HB3.out hb).size (Obj.cells #[.int .i64 ka, .int .i64 kb] 27))
    have HN4 := Lib.hid (Bk.new w4 27 [.int .i64 ka, .int .i64 kb])
    clear HF3 BP3 HB3
    have HN3 := Lib.hid ((HN3.out.below hb).alloc (Obj.cells #[.int .i64 ka, .int .i64 kb] 27))
    clear hb
    go_wp2_with (first | (refine ld_at rfl (T := 30) rfl rfl BP4.out Tryz.underlying30 rfl (by kernel_rfl) ?_) | fail)
    refine (K3.out _ _ _ HF4.out).mono ?_
    rintro e w5 ⟨rfl, hb⟩
    have HF5 := Lib.hid (HF4.out.below hb)
    have BP5 := Lib.hid (BP4.out.below hb)
    have HB5 := Lib.hid (bthen HB4.out hb)
    clear HF4 BP4 HB4
    have HN3 := Lib.hid (HN3.out.below hb)
    have HN4 := Lib.hid (HN4.out.below hb)
    clear hb
    go_wp2_with (first | (refine ld_at rfl (T := 30) rfl rfl BP5.out Tryz.underlying30 rfl (by kernel_rfl) ?_) | fail)
    refine (K4.out _ _ _ HF5.out).mono ?_
    rintro e w6 ⟨rfl, hb⟩
    have HF6 := Lib.hid (HF5.out.below hb)
    have BP6 := Lib.hid (BP5.out.below hb)
    have HB6 := Lib.hid (bthen HB5.out hb)
    clear HF5 BP5 HB5
    have HN3 := Lib.hid (HN3.out.below hb)
    have HN4 := Lib.hid (HN4.out.below hb)
    clear hb
    go_wp2_with (first | (refine ld_at rfl (T := 30) rfl rfl BP6.out Tryz.underlying30 rfl (by kernel_rfl) ?_) | fail)
    refine (K5.out _ _ _ HF6.out).mono ?_
    rintro e w7 ⟨rfl, hb⟩
    have HF7 := Lib.hid (HF6.out.below hb)
    have BP7 := Lib.hid (BP6.out.below hb)
    have HB7 := Lib.hid (bthen HB6.out hb)
    clear HF6 BP6 HB6
    have HN3 := Lib.hid (HN3.out.below hb)
    have HN4 := Lib.hid (HN4.out.below hb)
    clear hb
    go_wp2_with (first | (refine ld_at rfl (T := 30) rfl rfl BP7.out Tryz.underlying30 rfl (by kernel_rfl) ?_) | fail)
    refine (K6.out _ _ _ HF7.out).mono ?_
    rintro e w8 ⟨rfl, hb⟩
    have HF8 := Lib.hid (HF7.out.below hb)
    have BP8 := Lib.hid (BP7.out.below hb)
    have HB8 := Lib.hid (bthen HB7.out hb)
    clear HF7 BP7 HB7
    have HN3 := Lib.hid (HN3.out.below hb)
    have HN4 := Lib.hid (HN4.out.below hb)
    clear hb
    have c30 := HN3.out.cell 0
    have c31 := HN3.out.cell 1
    have c40 := HN4.out.cell 0
    have c41 := HN4.out.cell 1
    simp only [List.getElem?_cons_zero, List.getElem?_cons_succ] at c30 c31 c40 c41
    go_wp2_with fail
    go_ret
    exact ⟨by simp, HB8.out⟩
end Go.Proofs.YtnfndiafabhhdaaGreat
