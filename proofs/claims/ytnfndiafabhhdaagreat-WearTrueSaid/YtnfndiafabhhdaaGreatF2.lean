/- The walk of 'sane' (Wear). -/
import Derived.Test.YtnfndiafabhhdaaGreatF1
namespace Go.Proofs.YtnfndiafabhhdaaGreat
open Go.ChangeShapes Go.WideShapes Go.ChangeAt Go.RowKit
theorem c_pos {vv vs : Value} {w : World} (h : FlIn w exF vv vs) : Calls Tryz.prog 35 #[flV exF vv vs] w fun e w' => e = .returned (.tuple #[.bool true, .int .i64 0]) ∧ Below w.heap.size w w' := by
  have := Possible_any exF vv vs w h
  rwa [exP1, exP2] at this
theorem c_bou {vv vs : Value} {w : World} (h : FlIn w exF vv vs) : Calls Tryz.prog 32 #[flV exF vv vs] w fun e w' => e = .returned (.tuple #[.agg #[.int .i64 900, .int .i64 1], .agg #[.int .i64 1000, .int .i64 1], .int .i64 0]) ∧ Below w.heap.size w w' := by
  have := Bounds_any exF vv vs w h
  rwa [exBo] at this
theorem c_rea {vv vs : Value} {w : World} (h : FlIn w exF vv vs) : Calls Tryz.prog 20 #[flV exF vv vs, .int .i64 25] w fun e w' => e = .returned (.tuple #[.agg #[.int .i64 135, .int .i64 150], .int .i64 0]) ∧ Below w.heap.size w w' := by
  have := Reached_any exF vv vs 25 w h
  rwa [exRe] at this
theorem c_lev {vv vs : Value} {w : World} (h : FlIn w exF vv vs) : Calls Tryz.prog 22 #[flV exF vv vs, .int .i64 90] w fun e w' => e = .returned (.tuple #[.agg #[.int .i64 50, .int .i64 55], .int .i64 0]) ∧ Below w.heap.size w w' := by
  have := Level_any exF vv vs 90 w h
  rwa [exLe] at this
theorem c_see {vv vs : Value} {w : World} (h : FlIn w exF vv vs) : Calls Tryz.prog 24 #[flV exF vv vs, .int .i64 0] w fun e w' => e = .returned (.tuple #[.agg #[.int .i64 90, .int .i64 100], .int .i64 0]) ∧ Below w.heap.size w w' := by
  have := Seen_any exF vv vs 0 w h
  rwa [exSe] at this
theorem c_sin {vv vs : Value} {w : World} (h : FlIn w exF vv vs) : Calls Tryz.prog 26 #[flV exF vv vs, .int .i64 60, .int .i64 50] w fun e w' => e = .returned (.tuple #[.agg #[.int .i64 18, .int .i64 20], .int .i64 0]) ∧ Below w.heap.size w w' := by
  have := Sinks_any exF vv vs 60 50 w h
  rwa [exSk] at this
theorem c_sur {vv vs : Value} {w : World} (h : FlIn w exF vv vs) : Calls Tryz.prog 28 #[flV exF vv vs, .int .i64 0, .int .i64 199] w fun e w' => e = .returned (.tuple #[.bool false, .int .i64 0]) ∧ Below w.heap.size w w' := by
  have := Surely_any exF vv vs 0 199 w h
  rwa [exSu] at this
theorem c_eve {vv vs : Value} {w : World} (h : FlIn w exF vv vs) : Calls Tryz.prog 30 #[flV exF vv vs, .int .i64 0, .int .i64 180] w fun e w' => e = .returned (.tuple #[.bool true, .int .i64 0]) ∧ Below w.heap.size w w' := by
  have := Ever_any exF vv vs 0 180 w h
  rwa [exEv] at this
theorem c_chc {vv vs : Value} {w : World} (h : FlIn w exF vv vs) : Calls Tryz.prog 33 #[flV exF vv vs, .agg #[.int .i64 950, .int .i64 1], .int .i64 (-1)] w fun e w' => e = .returned (.int .i64 0) ∧ Below w.heap.size w w' := by
  have := CheckCase_any exF vv vs 950 1 (-1) w h
  rwa [exCc] at this
theorem c_res {vv vs : Value} {w : World} (h : FlIn w exF vv vs) : Calls Tryz.prog 55 #[flV exF vv vs] w fun e w' => (∃ o n c, e = .returned (.tuple #[.slice o n c, .int .i64 0]) ∧ Own w' w.heap.size (.slice o n c) [0]) ∧ Below w.heap.size w w' := by
  refine (Rests_any exF vv vs w h).mono ?_
  rintro e w' ⟨h | ⟨_, v, rfl, hI⟩, hb⟩
  · exact absurd exRd h.1
  · rw [show exF.s.length = 1 from rfl, exRs] at hI
    obtain ⟨o, n, c, rfl, _, _⟩ := hI.ints.parts
    exact ⟨⟨o, n, c, rfl, hI⟩, hb⟩
theorem c_cla {vv vs : Value} {w : World} (h : FlIn w exG vv vs) : Calls Tryz.prog 40 #[flV exG vv vs] w fun e w' => (∃ o n c, e = .returned (.tuple #[.slice o n c, .bool true, .int .i64 0]) ∧ Ints w' (.slice o n c) [0, 1]) ∧ Below w.heap.size w w' := by
  refine (Clash_any exG vv vs w h).mono ?_
  rintro e w' ⟨h | ⟨_, h, _⟩ | ⟨_, _, v, L, rfl, hI, ⟨o, m, c, rfl, _⟩, hL⟩, hb⟩
  · exact absurd exGo (by rw [h.1]; decide)
  · exact absurd exGc (by rw [h]; decide)
  · rw [exGl hL] at hI
    exact ⟨⟨o, m, c, rfl, hI⟩, hb⟩
theorem c_ck1 {vv vs : Value} {w : World} {b : Nat} (h : FlIn w exG vv vs) (hl : Ints w (.slice (some ⟨b, 0, none⟩) 2 2) [0, 1]) : Calls Tryz.prog 41 #[flV exG vv vs, .slice (some ⟨b, 0, none⟩) 2 2] w fun e w' => e = .returned (.int .i64 0) ∧ Below w.heap.size w w' := by
  have := CheckClash_any exG vv vs [0, 1] _ 2 2 w h hl (by decide) (by decide)
  rwa [exCk] at this
theorem c_ck2 {vv vs : Value} {w : World} {b : Nat} (h : FlIn w exG vv vs) (hl : Ints w (.slice (some ⟨b, 0, none⟩) 3 3) [-1, 0, 1]) : Calls Tryz.prog 41 #[flV exG vv vs, .slice (some ⟨b, 0, none⟩) 3 3] w fun e w' => e = .returned (.int .i64 32) ∧ Below w.heap.size w w' := by
  have := CheckClash_any exG vv vs [-1, 0, 1] _ 3 3 w h hl (by decide) (by decide)
  rwa [exCl] at this
theorem wp_grow {T E : TypeId} {k by_ : Nat} (hT : Tryz.prog.underlying T = some (.slice E)) (hE : ElI E k by_) (hk : 0 < k) (hby : by_ ≤ 1000)
    {o : Oper} {a : Act} {w : World} {K : Act → World → Prop} {Q : Exit → Act → World → Prop} (s x : Operand)
    (ho : o.op = .call { callee := .builtin .append, args := #[s, x], argTypes := #[T, T] })
    (b : Addr) (n cap : Nat) (olds : List Value) (hs : a.eval s = .slice (some b) n cap) (hlo : olds.length = n * k) (holds : ∀ j u, olds[j]? = some u → w.cell? (b.add j) = some u)
    (ad : Addr) (c : Nat) (news : List Value) (hx : a.eval x = .slice (some ad) 1 c) (hl : news.length = k) (hnews : ∀ j u, news[j]? = some u → w.cell? (ad.add j) = some u)
    (hg : cap < n + 1) (hn : n ≤ 100000000)
    (h : ∀ (g c' : Nat) w', w'.ownsRow w.heap.size E k (.slice (some ⟨g, 0, none⟩) (n + 1) c') (n + 1) (olds ++ news) → Below w.heap.size w w' → K (a.put o.dst (.slice (some ⟨g, 0, none⟩) (n + 1) c')) w') : Oper.wp Tryz.prog o a w K Q := by
  obtain ⟨i, z, hi, hz0, hz1, hz2, hz3⟩ := hE
  have hmul : (n + 1) * by_ ≤ (n + 1) * 1000 := Nat.mul_le_mul_left _ hby
  obtain ⟨v', w', hrun, r1, r2⟩ := run_append_arg_grows (P := Tryz.prog) w T o.type E i z k by_ hT hi hz0 hz1 hz2 hz3 hk b n cap olds hlo holds ad 1 c news (by rw [hl, Nat.one_mul]) hnews hg (by unfold maxLen; omega) (by omega)
  obtain ⟨g, c', rfl⟩ := ownsRow_succ r1
  have := h g c' w' r1 ((Below.refl _ w).grown r2 (Nat.le_refl _) (fun j hj => by cases hj))
  unfold Oper.wp
  simp [execOp, ho, resolve, invoke, builtin, hs, hx, hrun, Result.andThen]
  exact this
theorem step_grow {T E : TypeId} {k by_ : Nat} (hT : Tryz.prog.underlying T = some (.slice E)) (hE : ElI E k by_) (hk : 0 < k) (hby : by_ ≤ 1000)
    {ops : Array Oper} {o : Oper} {a : Act} {w : World} {K : Act → World → Prop} {Q : Exit → Act → World → Prop} {X : Prop} (hgd : o.guard = none) (s x : Operand)
    (ho : o.op = .call { callee := .builtin .append, args := #[s, x], argTypes := #[T, T] })
    (b : Addr) (n cap : Nat) (olds : List Value) (hs : a.eval s = .slice (some b) n cap) (hlo : olds.length = n * k) (holds : ∀ j u, olds[j]? = some u → w.cell? (b.add j) = some u)
    (ad : Addr) (c : Nat) (news : List Value) (hx : a.eval x = .slice (some ad) 1 c) (hl : news.length = k) (hnews : ∀ j u, news[j]? = some u → w.cell? (ad.add j) = some u)
    (hg : cap < n + 1) (hn : n ≤ 100000000)
    (h : ∀ (g c' : Nat) w', w'.ownsRow w.heap.size E k (.slice (some ⟨g, 0, none⟩) (n + 1) c') (n + 1) (olds ++ news) → Below w.heap.size w w' → K (a.put o.dst (.slice (some ⟨g, 0, none⟩) (n + 1) c')) w') : if Region.wanted o (yielded ops a.tmps) = true then Oper.wp Tryz.prog o a w K Q else X := by
  have hw : Region.wanted o (yielded ops a.tmps) = true := by simp [Region.wanted, hgd]
  rw [if_pos hw]
  exact wp_grow hT hE hk hby s x ho b n cap olds hs hlo holds ad c news hx hl hnews hg hn h
theorem ints_new (w : World) (x : Int) (T : TypeId) : Ints (w.alloc (.cells #[.int .i64 x] T)) (.slice (some ⟨w.heap.size, 0, none⟩) 1 1) [x] :=
  .inr ⟨_, 0, 1, rfl, by simp, by simp, (Bk.new w T [_]).lt, fun j hj => by
    obtain rfl : j = 0 := by simp at hj; omega
    rw [(Bk.new w T [.int .i64 x]).cell]; rfl⟩
theorem ints_new2 (w : World) (x y : Int) (T : TypeId) : Ints (w.alloc (.cells #[.int .i64 x, .int .i64 y] T)) (.slice (some ⟨w.heap.size, 0, none⟩) 2 2) [x, y] :=
  .inr ⟨_, 0, 2, rfl, by simp, by simp, (Bk.new w T [_, _]).lt, fun j hj => by
    rw [(Bk.new w T [.int .i64 x, .int .i64 y]).cell]
    have : j = 0 ∨ j = 1 := by simp at hj; omega
    rcases this with rfl | rfl <;> rfl⟩
theorem ints_new3 (w : World) (x y z : Int) (T : TypeId) : Ints (w.alloc (.cells #[.int .i64 x, .int .i64 y, .int .i64 z] T)) (.slice (some ⟨w.heap.size, 0, none⟩) 3 3) [x, y, z] :=
  .inr ⟨_, 0, 3, rfl, by simp, by simp, (Bk.new w T [_, _, _]).lt, fun j hj => by
    rw [(Bk.new w T [.int .i64 x, .int .i64 y, .int .i64 z]).cell]
    have : j = 0 ∨ j = 1 ∨ j = 2 := by simp at hj; omega
    rcases this with rfl | rfl | rfl <;> rfl⟩
abbrev flL (F : Fl) (vv vs : Value) : List Value := [vv, .int .i64 F.f.lv, .int .i64 F.f.er, .int .i64 F.wlo, .int .i64 F.whi, vs]
set_option maxRecDepth 100000 in
set_option maxHeartbeats 4000000 in
theorem sane_any (w : World) : Calls Tryz.prog 18 #[] w fun e w' => e = .returned (.bool true) ∧ Below w.heap.size w w' := by
  go_enter Tryz.func18, Tryz.ntmps18
  go_wp2_with fail
  refine (example_any w).mono ?_
  rintro e w1 ⟨vv, sb, rfl, hF1, hB1, hsb, hbs⟩
  obtain ⟨ov, cv, rfl, _⟩ := hF1.v.parts
  have HSB := Lib.hid hbs
  have HSN := Lib.hid hsb
  have HQ1 := Lib.hid (hF1.alloc (flO exF (.slice ov exF.v.length cv) (.slice (some ⟨sb, 0, none⟩) 1 1)))
  have HC1 := Lib.hid (ballo w1 (flO exF (.slice ov exF.v.length cv) (.slice (some ⟨sb, 0, none⟩) 1 1)))
  have HBE := Lib.hid hB1
  have HFE := Lib.hid hF1
  have HP1 := Lib.hid (Bk.new w1 30 (flL exF (.slice ov exF.v.length cv) (.slice (some ⟨sb, 0, none⟩) 1 1)))
  have HS1 := Lib.hid (HSB.out.alloc (flO exF (.slice ov exF.v.length cv) (.slice (some ⟨sb, 0, none⟩) 1 1)))
  clear hF1 hB1 hbs hsb HSB
  go_wp2_with fail
  -- GEN
  refine (c_pos HQ1.out).mono ?_
  rintro e w2 ⟨rfl, hb⟩
  have HQ2 := Lib.hid (HQ1.out.below hb)
  have HP2 := Lib.hid (HP1.out.below hb)
  have hc := bthen HC1.out hb
  have HC2 := Lib.hid hc
  have HS2 := Lib.hid (HS1.out.below hb)
  clear hb hc  HQ1 HP1 HC1 HS1 
  go_wp2_with (first | (refine ld_at rfl (T := 30) rfl rfl HP2.out Tryz.underlying30 rfl (by kernel_rfl) ?_) | fail)
  refine (c_bou HQ2.out).mono ?_
  rintro e w3 ⟨rfl, hb⟩
  have HQ3 := Lib.hid (((HQ2.out.below hb).alloc (Obj.cells #[.int .i64 900, .int .i64 1] 41)).alloc (Obj.cells #[.int .i64 1000, .int .i64 1] 41))
  have HP3 := Lib.hid (((HP2.out.below hb).alloc (Obj.cells #[.int .i64 900, .int .i64 1] 41)).alloc (Obj.cells #[.int .i64 1000, .int .i64 1] 41))
  have hc := bthen HC2.out hb
  have hcx := hc.alloc hc.size (Obj.cells #[.int .i64 900, .int .i64 1] 41)
  have hcxx := hcx.alloc hcx.size (Obj.cells #[.int .i64 1000, .int .i64 1] 41)
  have HC3 := Lib.hid hcxx
  have HS3 := Lib.hid (((HS2.out.below hb).alloc (Obj.cells #[.int .i64 900, .int .i64 1] 41)).alloc (Obj.cells #[.int .i64 1000, .int .i64 1] 41))
  have HXA3 := Lib.hid ((Bk.new w3 41 [.int .i64 900, .int .i64 1]).alloc (Obj.cells #[.int .i64 1000, .int .i64 1] 41))
  have HXB3 := Lib.hid (Bk.new1 w3 (Obj.cells #[.int .i64 900, .int .i64 1] 41) 41 [.int .i64 1000, .int .i64 1])
  clear hb hc hcx hcxx HQ2 HP2 HC2 HS2 
  go_wp2_with (first | (refine ld_at rfl (T := 30) rfl rfl HP3.out Tryz.underlying30 rfl (by kernel_rfl) ?_) | fail)
  refine (c_rea HQ3.out).mono ?_
  rintro e w4 ⟨rfl, hb⟩
  have HQ4 := Lib.hid ((HQ3.out.below hb).alloc (Obj.cells #[.int .i64 135, .int .i64 150] 27))
  have HP4 := Lib.hid ((HP3.out.below hb).alloc (Obj.cells #[.int .i64 135, .int .i64 150] 27))
  have hc := bthen HC3.out hb
  have hcx := hc.alloc hc.size (Obj.cells #[.int .i64 135, .int .i64 150] 27)
  have HC4 := Lib.hid hcx
  have HS4 := Lib.hid ((HS3.out.below hb).alloc (Obj.cells #[.int .i64 135, .int .i64 150] 27))
  have HXA4 := Lib.hid ((HXA3.out.below hb).alloc (Obj.cells #[.int .i64 135, .int .i64 150] 27))
  have HXB4 := Lib.hid ((HXB3.out.below hb).alloc (Obj.cells #[.int .i64 135, .int .i64 150] 27))
  have HXC4 := Lib.hid (Bk.new w4 27 [.int .i64 135, .int .i64 150])
  clear hb hc hcx HQ3 HP3 HC3 HS3 HXA3 HXB3
  go_wp2_with (first | (refine ld_at rfl (T := 30) rfl rfl HP4.out Tryz.underlying30 rfl (by kernel_rfl) ?_) | fail)
  refine (c_lev HQ4.out).mono ?_
  rintro e w5 ⟨rfl, hb⟩
  have HQ5 := Lib.hid ((HQ4.out.below hb).alloc (Obj.cells #[.int .i64 50, .int .i64 55] 27))
  have HP5 := Lib.hid ((HP4.out.below hb).alloc (Obj.cells #[.int .i64 50, .int .i64 55] 27))
  have hc := bthen HC4.out hb
  have hcx := hc.alloc hc.size (Obj.cells #[.int .i64 50, .int .i64 55] 27)
  have HC5 := Lib.hid hcx
  have HS5 := Lib.hid ((HS4.out.below hb).alloc (Obj.cells #[.int .i64 50, .int .i64 55] 27))
  have HXA5 := Lib.hid ((HXA4.out.below hb).alloc (Obj.cells #[.int .i64 50, .int .i64 55] 27))
  have HXB5 := Lib.hid ((HXB4.out.below hb).alloc (Obj.cells #[.int .i64 50, .int .i64 55] 27))
  have HXC5 := Lib.hid ((HXC4.out.below hb).alloc (Obj.cells #[.int .i64 50, .int .i64 55] 27))
  have HXD5 := Lib.hid (Bk.new w5 27 [.int .i64 50, .int .i64 55])
  clear hb hc hcx HQ4 HP4 HC4 HS4 HXA4 HXB4 HXC4
  go_wp2_with (first | (refine ld_at rfl (T := 30) rfl rfl HP5.out Tryz.underlying30 rfl (by kernel_rfl) ?_) | fail)
  refine (c_see HQ5.out).mono ?_
  rintro e w6 ⟨rfl, hb⟩
  have HQ6 := Lib.hid ((HQ5.out.below hb).alloc (Obj.cells #[.int .i64 90, .int .i64 100] 27))
  have HP6 := Lib.hid ((HP5.out.below hb).alloc (Obj.cells #[.int .i64 90, .int .i64 100] 27))
  have hc := bthen HC5.out hb
  have hcx := hc.alloc hc.size (Obj.cells #[.int .i64 90, .int .i64 100] 27)
  have HC6 := Lib.hid hcx
  have HS6 := Lib.hid ((HS5.out.below hb).alloc (Obj.cells #[.int .i64 90, .int .i64 100] 27))
  have HXA6 := Lib.hid ((HXA5.out.below hb).alloc (Obj.cells #[.int .i64 90, .int .i64 100] 27))
  have HXB6 := Lib.hid ((HXB5.out.below hb).alloc (Obj.cells #[.int .i64 90, .int .i64 100] 27))
  have HXC6 := Lib.hid ((HXC5.out.below hb).alloc (Obj.cells #[.int .i64 90, .int .i64 100] 27))
  have HXD6 := Lib.hid ((HXD5.out.below hb).alloc (Obj.cells #[.int .i64 90, .int .i64 100] 27))
  have HXE6 := Lib.hid (Bk.new w6 27 [.int .i64 90, .int .i64 100])
  clear hb hc hcx HQ5 HP5 HC5 HS5 HXA5 HXB5 HXC5 HXD5
  go_wp2_with (first | (refine ld_at rfl (T := 30) rfl rfl HP6.out Tryz.underlying30 rfl (by kernel_rfl) ?_) | fail)
  refine (c_sin HQ6.out).mono ?_
  rintro e w7 ⟨rfl, hb⟩
  have HQ7 := Lib.hid ((HQ6.out.below hb).alloc (Obj.cells #[.int .i64 18, .int .i64 20] 27))
  have HP7 := Lib.hid ((HP6.out.below hb).alloc (Obj.cells #[.int .i64 18, .int .i64 20] 27))
  have hc := bthen HC6.out hb
  have hcx := hc.alloc hc.size (Obj.cells #[.int .i64 18, .int .i64 20] 27)
  have HC7 := Lib.hid hcx
  have HS7 := Lib.hid ((HS6.out.below hb).alloc (Obj.cells #[.int .i64 18, .int .i64 20] 27))
  have HXA7 := Lib.hid ((HXA6.out.below hb).alloc (Obj.cells #[.int .i64 18, .int .i64 20] 27))
  have HXB7 := Lib.hid ((HXB6.out.below hb).alloc (Obj.cells #[.int .i64 18, .int .i64 20] 27))
  have HXC7 := Lib.hid ((HXC6.out.below hb).alloc (Obj.cells #[.int .i64 18, .int .i64 20] 27))
  have HXD7 := Lib.hid ((HXD6.out.below hb).alloc (Obj.cells #[.int .i64 18, .int .i64 20] 27))
  have HXE7 := Lib.hid ((HXE6.out.below hb).alloc (Obj.cells #[.int .i64 18, .int .i64 20] 27))
  have HXG7 := Lib.hid (Bk.new w7 27 [.int .i64 18, .int .i64 20])
  clear hb hc hcx HQ6 HP6 HC6 HS6 HXA6 HXB6 HXC6 HXD6 HXE6
  go_wp2_with (first | (refine ld_at rfl (T := 30) rfl rfl HP7.out Tryz.underlying30 rfl (by kernel_rfl) ?_) | fail)
  refine (c_sur HQ7.out).mono ?_
  rintro e w8 ⟨rfl, hb⟩
  have HQ8 := Lib.hid (HQ7.out.below hb)
  have HP8 := Lib.hid (HP7.out.below hb)
  have hc := bthen HC7.out hb
  have HC8 := Lib.hid hc
  have HS8 := Lib.hid (HS7.out.below hb)
  have HXA8 := Lib.hid (HXA7.out.below hb)
  have HXB8 := Lib.hid (HXB7.out.below hb)
  have HXC8 := Lib.hid (HXC7.out.below hb)
  have HXD8 := Lib.hid (HXD7.out.below hb)
  have HXE8 := Lib.hid (HXE7.out.below hb)
  have HXG8 := Lib.hid (HXG7.out.below hb)
  clear hb hc  HQ7 HP7 HC7 HS7 HXA7 HXB7 HXC7 HXD7 HXE7 HXG7
  go_wp2_with (first | (refine ld_at rfl (T := 30) rfl rfl HP8.out Tryz.underlying30 rfl (by kernel_rfl) ?_) | fail)
  refine (c_eve HQ8.out).mono ?_
  rintro e w9 ⟨rfl, hb⟩
  have HQ9 := Lib.hid (HQ8.out.below hb)
  have HP9 := Lib.hid (HP8.out.below hb)
  have hc := bthen HC8.out hb
  have HC9 := Lib.hid hc
  have HS9 := Lib.hid (HS8.out.below hb)
  have HXA9 := Lib.hid (HXA8.out.below hb)
  have HXB9 := Lib.hid (HXB8.out.below hb)
  have HXC9 := Lib.hid (HXC8.out.below hb)
  have HXD9 := Lib.hid (HXD8.out.below hb)
  have HXE9 := Lib.hid (HXE8.out.below hb)
  have HXG9 := Lib.hid (HXG8.out.below hb)
  clear hb hc  HQ8 HP8 HC8 HS8 HXA8 HXB8 HXC8 HXD8 HXE8 HXG8
  have a0 := HXA9.out.cell 0
  have a1 := HXA9.out.cell 1
  have b0 := HXB9.out.cell 0
  have b1 := HXB9.out.cell 1
  have c0 := HXC9.out.cell 0
  have c1 := HXC9.out.cell 1
  have d0 := HXD9.out.cell 0
  have d1 := HXD9.out.cell 1
  have e0 := HXE9.out.cell 0
  have e1 := HXE9.out.cell 1
  have g0 := HXG9.out.cell 0
  have g1 := HXG9.out.cell 1
  simp only [List.getElem?_cons_zero, List.getElem?_cons_succ] at a0 a1 b0 b1 c0 c1 d0 d1 e0 e1 g0 g1
  clear HXA9 HXB9 HXC9 HXD9 HXE9 HXG9
  go_wp2_with (first | (refine ld_at rfl (T := 30) rfl rfl HP9.out Tryz.underlying30 rfl (by kernel_rfl) ?_) | fail)
  clear a0 a1 b0 b1 c0 c1 d0 d1 e0 e1 g0 g1
  -- NEG
  refine (c_chc HQ9.out).mono ?_
  rintro e w10 ⟨rfl, hb⟩
  have HQ10 := Lib.hid (HQ9.out.below hb)
  have HP10 := Lib.hid (HP9.out.below hb)
  have HC10 := Lib.hid (bthen HC9.out hb)
  have HS10 := Lib.hid (HS9.out.below hb)
  clear hb HS9 HQ9 HP9 HC9
  obtain ⟨W, hW⟩ : ∃ W, w10.alloc (Obj.cells #[.int .i64 0, .int .i64 0, .int .i64 0, .int .i64 0, .int .i64 0, .int .i64 0, .int .i64 0, .int .i64 0, .int .i64 0] 33) = W := ⟨_, rfl⟩
  have HQW := Lib.hid (show FlIn W exF _ _ by rw [← hW]; exact HQ10.out.alloc _)
  have HPW := Lib.hid (show Bk W w1.heap.size 30 _ by rw [← hW]; exact HP10.out.alloc _)
  have HCW := Lib.hid (show Below w1.heap.size w1 W by rw [← hW]; exact HC10.out.alloc HC10.out.size _)
  have HZ := Lib.hid (show Bk W w10.heap.size 33 [.int .i64 0, .int .i64 0, .int .i64 0, .int .i64 0, .int .i64 0, .int .i64 0, .int .i64 0, .int .i64 0, .int .i64 0] by rw [← hW]; exact Bk.new _ _ _)
  have HSW := Lib.hid (show Bk W sb 88 [.int .i64 90, .int .i64 100, .int .i64 50, .int .i64 0] by rw [← hW]; exact HS10.out.alloc _)
  clear HQ10 HP10 HC10 HS10
  go_wp2_with fail
  try rw [hW]
  clear hW
  go_loopw [118] (fun i wr => ∃ k : Nat, k ≤ 9 ∧ i = .int .i64 (k : Int) ∧ wr = W) (fun i _ => 9 - (intOf i).toNat)
  case atStart => exact ⟨0, by omega, rfl, rfl⟩
  case round =>
    obtain ⟨k, hk, rfl, rfl⟩ := hrel
    by_cases hk9 : k < 9
    · have hc : wr.cell? ⟨w10.heap.size, k, none⟩ = some (.int .i64 0) := by
        rw [HZ.out.cell]
        have : k = 0 ∨ k = 1 ∨ k = 2 ∨ k = 3 ∨ k = 4 ∨ k = 5 ∨ k = 6 ∨ k = 7 ∨ k = 8 := by omega
        rcases this with rfl | rfl | rfl | rfl | rfl | rfl | rfl | rfl | rfl <;> rfl
      go_wp2_with fail
      exact ⟨⟨k + 1, by omega, by go_num, trivial⟩, by simp [intOf]; omega⟩
    · clear HZ
      go_wp2_with (first | (refine ld_at rfl (T := 30) rfl rfl HPW.out Tryz.underlying30 rfl (by kernel_rfl) ?_) | fail)
      refine (c_res HQW.out).mono ?_
      rintro e w11 ⟨⟨ro, rn, rc, rfl, hri⟩, hb⟩
      have HQ11 := Lib.hid (HQW.out.below hb)
      have HP11 := Lib.hid (HPW.out.below hb)
      have HC11 := Lib.hid (bthen HCW.out hb)
      have HRI := Lib.hid hri
      have HLW := Lib.hid HPW.out.lt
      have HS11 := Lib.hid (HSW.out.below hb)
      have y5 := HP11.out.cell 5
      have yl := HP11.out.lt
      simp only [List.getElem?_cons_zero, List.getElem?_cons_succ] at y5
      clear hb hri HQW HPW HCW HSW
      go_wp2_with fail
      refine WpK.begin (S := fun _ => True) (kp := fun _ => true) (f := 7) (up := #[false, false, false, false, false, false, false]) (by kernel_rfl) (by kernel_rfl) (by kernel_rfl) ?_
      refine WpK.take (i := 0) (v := ?_) ((toArray_at _ _).trans rfl) (by kernel_rfl) (by kernel_rfl) (by kernel_rfl) (by kernel_rfl) (by kernel_rfl) (fun _ _ _ h => h) (Or.inl ⟨by rfl, ?_⟩) trivial ?_
      rotate_left
      · (intro x hx; go_simp <;> with_reducible rfl)
      simp only [Act.put, puts]
      refine WpK.weaken (S := fun x => Below w11.heap.size w11 x) (kp := (fun i => decide (i < 6))) (fun _ => trivial) _ ?_
      have hS0 := (show Below w11.heap.size w11 w11.drew from (Below.refl _ _).drew)
      refine WpK.take (i := 1) (v := ?_) ((toArray_at _ _).trans rfl) (by kernel_rfl) (by kernel_rfl) (by kernel_rfl) (by kernel_rfl) (by kernel_rfl) (fun _ _ _ h => h) (Or.inl ⟨by rfl, ?_⟩) hS0 ?_
      rotate_left
      · (intro x hx; obtain ⟨hcx, hfx⟩ := bcell hx; go_simp <;> with_reducible rfl)
      try simp only [Act.put, puts]
      clear hS0
      refine WpK.one (i := 2) (by kernel_rfl) ((toArray_at _ _).trans rfl) ?_
      intro K hK
      have HK := Lib.hid hK
      clear hK
      go_simp
      refine (seen_any _ _ _ _ _).mono ?_
      rintro e w12 ⟨rfl, hbq⟩
      have hb12 : Below w11.heap.size w11 w12 := (Below.drew (Below.refl _ _)).trans hbq
      refine HK.out _ _ (fun _ => hb12) (fun _ => ?_)
      clear HK K
      try simp only [puts]
      refine WpK.one (i := 3) (by kernel_rfl) ((toArray_at _ _).trans rfl) ?_
      intro K hK
      have HK := Lib.hid hK
      clear hK
      go_simp
      refine HK.out _ _ (fun _ => hb12.alloc hb12.size _) (fun _ => ?_)
      clear HK K
      try simp only [puts]
      have hb13 : Below w11.heap.size w11 (w12.alloc (Obj.cells #[.int .i64 100, .int .i64 100, .int .i64 60, .int .i64 1] 88)) := hb12.alloc hb12.size _
      have HN := Lib.hid (Bk.new w12 88 [.int .i64 100, .int .i64 100, .int .i64 60, .int .i64 1])
      obtain ⟨w13, h13⟩ : ∃ V, w12.alloc (Obj.cells #[.int .i64 100, .int .i64 100, .int .i64 60, .int .i64 1] 88) = V := ⟨_, rfl⟩
      have HN : Hid (Bk w13 w12.heap.size 88 [.int .i64 100, .int .i64 100, .int .i64 60, .int .i64 1]) := by rw [← h13]; exact HN
      rw [h13] at hb13 ⊢
      clear h13 hb12 hbq
      refine WpK.one (i := 4) (by kernel_rfl) ((toArray_at _ _).trans rfl) ?_
      intro K hK
      have HK := Lib.hid hK
      clear hK
      refine step_grow (T := 28) (E := 88) (k := 4) (by_ := 32) Tryz.underlying28 seen_el (by decide) (by decide) rfl (.tmp 131) (.tmp 133) rfl ⟨sb, 0, none⟩ 1 1 [.int .i64 90, .int .i64 100, .int .i64 50, .int .i64 0] rfl rfl (news_bk (HS11.out.below hb13)) ⟨w12.heap.size, 0, none⟩ 1 [.int .i64 100, .int .i64 100, .int .i64 60, .int .i64 1] rfl rfl (news_bk HN.out) (by decide) (by decide) ?_
      intro g c14 w14 hown hbq
      have hb14 := hb13.trans (hbq.mono hb13.size)
      refine HK.out _ _ (fun _ => hb14) (fun _ => ?_)
      clear HK K
      try simp only [Act.put, puts]
      refine WpK.one (i := 5) (by kernel_rfl) ((toArray_at _ _).trans rfl) ?_
      intro K hK
      have HK := Lib.hid hK
      clear hK
      go_simp
      refine HK.out _ _ (fun _ => hb14) (fun _ => ?_)
      clear HK K
      try simp only [puts]
      have HP14 := HP11.out.below hb14
      have c5 := HP14.cell 5
      have f5 := HP14.frozen 5
      simp only [List.getElem?_cons_zero, List.getElem?_cons_succ] at c5
      refine WpK.one (i := 6) (by kernel_rfl) ((toArray_at _ _).trans rfl) ?_
      intro K hK
      have HK := Lib.hid hK
      clear hK
      go_simp
      refine HK.out _ _ (fun h => absurd h (by decide)) (fun _ => ?_)
      clear HK K
      try simp only [puts]
      refine WpK.done (by kernel_rfl) ?_
      have hs14 := Bes.setCell (Bes.refl w1.heap.size w14) 5 (.slice (some ⟨g, 0, none⟩) (1 + 1) c14)
      have hp14 := HP14.set 5 (.slice (some ⟨g, 0, none⟩) (1 + 1) c14)
      have hc14 := bes_then (bthen HC11.out hb14) hs14 (Nat.le_refl _) (bthen HC11.out hb14).size
      have hbas : w1.heap.size < w13.heap.size := Nat.lt_of_lt_of_le HP11.out.lt hb13.size
      have ho14 : OwnR _ _ 88 4 (.slice (some ⟨g, 0, none⟩) 2 c14) 2 (snF exG.s) := owns_bes hown hs14 hbas
      have hr14 := ho14.row
      obtain ⟨V, hV⟩ : ∃ V, w14.setCell ⟨w1.heap.size, 5, none⟩ (.slice (some ⟨g, 0, none⟩) (1 + 1) c14) = V := ⟨_, rfl⟩
      rw [hV] at hp14 hc14 hr14
      have HPV : Hid (Bk V w1.heap.size 30 (flL exG (.slice ov exF.v.length cv) (.slice (some ⟨g, 0, none⟩) 2 c14))) := Lib.hid hp14
      have HQV : Hid (FlIn V exG (.slice ov exF.v.length cv) (.slice (some ⟨g, 0, none⟩) 2 c14)) := Lib.hid ⟨HFE.out.v.below hc14, hr14⟩
      have HCV := Lib.hid (bthen HBE.out hc14)
      have HRV : Hid (Ints V (.slice ro rn rc) [0]) := Lib.hid (by
        have h1 : Own _ _ (.slice ro rn rc) [0] := owns_bes (HRI.out.below hb14) hs14 HLW.out
        rw [hV] at h1
        exact h1.ints)
      clear hs14 hp14 hc14 ho14 hr14 hown hbq hb14 hb13 HN HP14 c5 f5 hbas y5 yl HQ11 HP11 HC11 HRI HS11 HFE HBE HSN HLW
      try rw [hV]
      clear hV
      go_wp2_with (first | (refine ld_at rfl (T := 30) rfl rfl HPV.out Tryz.underlying30 rfl (by kernel_rfl) ?_) | fail)
      refine (c_cla HQV.out).mono ?_
      rintro e w16 ⟨⟨qo, qn, qc, rfl, hqi⟩, hb⟩
      have HQG := Lib.hid (HQV.out.below hb)
      have HPG := Lib.hid (HPV.out.below hb)
      have HCG := Lib.hid (bthen HCV.out hb)
      have HRG := Lib.hid (HRV.out.below hb)
      have HIG := Lib.hid hqi
      clear hb hqi HQV HPV HCV HRV
      go_wp2_with (first | (refine ld_at rfl (T := 30) rfl rfl HPG.out Tryz.underlying30 rfl (by kernel_rfl) ?_) | fail)
      refine (equal_any _ _ _ _ _ (HRG.out.alloc _) (ints_new w16 0 _) (by decide) (by decide)).mono ?_
      rintro e w17 ⟨rfl, hb⟩
      have HQ17 := Lib.hid ((HQG.out.alloc _).below hb)
      have HP17 := Lib.hid ((HPG.out.alloc _).below hb)
      have HC17 := Lib.hid (bthen (HCG.out.alloc HCG.out.size _) hb)
      have HI17 := Lib.hid ((HIG.out.alloc _).below hb)
      have r17 : ([0] == ([0] : List Int)) = true := rfl
      rw [r17]
      clear r17 hb HQG HPG HCG HRG HIG
      go_wp2_with (first | (refine ld_at rfl (T := 30) rfl rfl HP17.out Tryz.underlying30 rfl (by kernel_rfl) ?_) | fail)
      refine (equal_any _ _ _ _ _ (HI17.out.alloc _) (ints_new2 w17 0 1 _) (by decide) (by decide)).mono ?_
      rintro e w18 ⟨rfl, hb⟩
      have HQ18 := Lib.hid ((HQ17.out.alloc _).below hb)
      have HP18 := Lib.hid ((HP17.out.alloc _).below hb)
      have HC18 := Lib.hid (bthen (HC17.out.alloc HC17.out.size _) hb)
      have r18 : ([0, 1] == ([0, 1] : List Int)) = true := rfl
      rw [r18]
      clear r18 hb HQ17 HP17 HC17 HI17
      have y0 := HP18.out.cell 0
      have y1 := HP18.out.cell 1
      have y2 := HP18.out.cell 2
      have y3 := HP18.out.cell 3
      have y4 := HP18.out.cell 4
      have y5 := HP18.out.cell 5
      simp only [List.getElem?_cons_zero, List.getElem?_cons_succ] at y0 y1 y2 y3 y4 y5
      go_wp2_with fail
      clear y0 y1 y2 y3 y4 y5
      refine (c_ck1 (HQ18.out.alloc _) (ints_new2 w18 0 1 _)).mono ?_
      rintro e w19 ⟨rfl, hb⟩
      have HQ19 := Lib.hid ((HQ18.out.alloc _).below hb)
      have HP19 := Lib.hid ((HP18.out.alloc _).below hb)
      have HC19 := Lib.hid (bthen (HC18.out.alloc HC18.out.size _) hb)
      clear hb HQ18 HP18 HC18
      have y0 := HP19.out.cell 0
      have y1 := HP19.out.cell 1
      have y2 := HP19.out.cell 2
      have y3 := HP19.out.cell 3
      have y4 := HP19.out.cell 4
      have y5 := HP19.out.cell 5
      simp only [List.getElem?_cons_zero, List.getElem?_cons_succ] at y0 y1 y2 y3 y4 y5
      go_wp2_with fail
      clear y0 y1 y2 y3 y4 y5
      refine (c_ck2 (HQ19.out.alloc _) (ints_new3 w19 (-1) 0 1 _)).mono ?_
      rintro e w20 ⟨rfl, hb⟩
      have HC20 := Lib.hid (bthen (HC19.out.alloc HC19.out.size _) hb)
      clear hb HQ19 HP19 HC19
      go_wp2_with fail
      go_ret
      exact ⟨rfl, HC20.out⟩
end Go.Proofs.YtnfndiafabhhdaaGreat
