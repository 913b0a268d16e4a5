/- Walks of what asks for a season, of Rise and Set. -/
import Derived.Test.YtpjnlcdmbkbfcaaDoorH3
import Derived.Test.YtpjnlcdmbkbfcaaDoorHS2
namespace Go.Proofs.YtpjnlcdmbkbfcaaDoor
open Go.ChangeShapes Go.WideShapes Go.ChangeAt Go.RowKit

structure SeaIn (w : World) (vd vr vs : Value) (S : Sea) : Prop where
  d : Ints w vd S.d
  r : Ints w vr S.r
  s : Ints w vs S.s
theorem SeaIn.below {w w' : World} {vd vr vs : Value} {S : Sea} (h : SeaIn w vd vr vs S) (hb : Below w.heap.size w w') : SeaIn w' vd vr vs S := ⟨h.d.below hb, h.r.below hb, h.s.below hb⟩
theorem SeaIn.alloc {w : World} {vd vr vs : Value} {S : Sea} (h : SeaIn w vd vr vs S) (o : Obj) : SeaIn (w.alloc o) vd vr vs S := ⟨h.d.alloc o, h.r.alloc o, h.s.alloc o⟩


theorem allB_wide {l : List Int} {lo hi lo' hi' : Int} (h : allB l lo hi = true) (h1 : lo' ≤ lo) (h2 : hi ≤ hi') : allB l lo' hi' = true :=
  allB_of fun k hk => by have := allB_el h hk; omega

theorem at_r (S : Sea) (vd vr vs : Value) (day : Int) (w : World) (hv : vld S = true) (hI : SeaIn w vd vr vs S) (hd : 0 ≤ day) (hd' : day ≤ 1000000) :
    Calls Tryd.prog 69 #[.agg #[.int .i64 S.L, vd, vr, vs], vr, .int .i64 day] w fun e w' => e = .returned (.int .i64 (lnR S day)) ∧ Below w.heap.size w w' := by
  have v := (vld_iff S).1 hv
  obtain ⟨b, off, c, rfl, _, hb, hc⟩ := hI.d.pos v.n1
  obtain ⟨b2, off2, c2, e2, _, hb2, hc2⟩ := hI.r.pos (by have := v.n1; have := v.nr; omega)
  rw [v.nr] at e2
  subst e2
  exact at_core S.L day _ _ b off b2 off2 c c2 S.d S.r w v.L1 v.L2 hd hd' v.n1 v.n2 v.ad v.up (allB_wide v.ar (by omega) (by omega)) v.nr hc (fun j hj => hc2 j (by rw [v.nr]; exact hj)) hb hb2
theorem at_s (S : Sea) (vd vr vs : Value) (day : Int) (w : World) (hv : vld S = true) (hI : SeaIn w vd vr vs S) (hd : 0 ≤ day) (hd' : day ≤ 1000000) :
    Calls Tryd.prog 69 #[.agg #[.int .i64 S.L, vd, vr, vs], vs, .int .i64 day] w fun e w' => e = .returned (.int .i64 (lnS S day)) ∧ Below w.heap.size w w' := by
  have v := (vld_iff S).1 hv
  obtain ⟨b, off, c, rfl, _, hb, hc⟩ := hI.d.pos v.n1
  obtain ⟨b2, off2, c2, e2, _, hb2, hc2⟩ := hI.s.pos (by have := v.n1; have := v.ns; omega)
  rw [v.ns] at e2
  subst e2
  exact at_core S.L day _ _ b off b2 off2 c c2 S.d S.s w v.L1 v.L2 hd hd' v.n1 v.n2 v.ad v.up (allB_wide v.at_ (by omega) (by omega)) v.ns hc (fun j hj => hc2 j (by rw [v.ns]; exact hj)) hb hb2
theorem rline_r (S : Sea) (vd vr vs : Value) (p : Int) (w : World) (hv : vld S = true) (hI : SeaIn w vd vr vs S) (hd : 0 ≤ p) (hd' : p < S.L) :
    Calls Tryd.prog 107 #[.agg #[.int .i64 S.L, vd, vr, vs], vr, .int .i64 p] w fun e w' => e = .returned (.int .i64 (lineV S.L S.d S.r p)) ∧ Below w.heap.size w w' := by
  have v := (vld_iff S).1 hv
  obtain ⟨b, off, c, rfl, _, hb, hc⟩ := hI.d.pos v.n1
  obtain ⟨b2, off2, c2, e2, _, hb2, hc2⟩ := hI.r.pos (by have := v.n1; have := v.nr; omega)
  rw [v.nr] at e2
  subst e2
  exact rline_core S.L p _ _ b off b2 off2 c c2 S.d S.r w v.L1 v.L2 hd hd' v.n1 v.n2 v.ad v.up (allB_wide v.ar (by omega) (by omega)) v.nr hc (fun j hj => hc2 j (by rw [v.nr]; exact hj)) hb hb2
theorem rline_s (S : Sea) (vd vr vs : Value) (p : Int) (w : World) (hv : vld S = true) (hI : SeaIn w vd vr vs S) (hd : 0 ≤ p) (hd' : p < S.L) :
    Calls Tryd.prog 107 #[.agg #[.int .i64 S.L, vd, vr, vs], vs, .int .i64 p] w fun e w' => e = .returned (.int .i64 (lineV S.L S.d S.s p)) ∧ Below w.heap.size w w' := by
  have v := (vld_iff S).1 hv
  obtain ⟨b, off, c, rfl, _, hb, hc⟩ := hI.d.pos v.n1
  obtain ⟨b2, off2, c2, e2, _, hb2, hc2⟩ := hI.s.pos (by have := v.n1; have := v.ns; omega)
  rw [v.ns] at e2
  subst e2
  exact rline_core S.L p _ _ b off b2 off2 c c2 S.d S.s w v.L1 v.L2 hd hd' v.n1 v.n2 v.ad v.up (allB_wide v.at_ (by omega) (by omega)) v.ns hc (fun j hj => hc2 j (by rw [v.ns]; exact hj)) hb hb2

/-- What the functions that ask for a season answer. -/
def askE (S : Sea) (b : Bool) : Int := if vld S then (if b then 0 else 1) else 50
theorem askE_no {S : Sea} (b : Bool) (h : vld S = false) : askE S b = 50 := by simp [askE, h]
theorem askE_arg {S : Sea} {b : Bool} (h : vld S = true) (hb : b = false) : askE S b = 1 := by simp [askE, h, hb]
theorem askE_ok {S : Sea} {b : Bool} (h : vld S = true) (hb : b = true) : askE S b = 0 := by simp [askE, h, hb]
theorem chk_no {S : Sea} (h : vld S = false) : chk S = 50 := by simp [chk, h]
theorem chk_ok {S : Sea} (h : vld S = true) : chk S = 0 := by simp [chk, h]

theorem asked_any (S : Sea) (vd vr vs : Value) (o : Option Addr) (n c : Nat) (l : List Int) (w : World) (hI : SeaIn w vd vr vs S) (hl : Ints w (.slice o n c) l) (hn : n ≤ 24) :
    Calls Tryd.prog 68 #[.agg #[.int .i64 S.L, vd, vr, vs], .slice o n c] w fun e w' => e = .returned (.int .i64 (askE S (allB l 0 11000))) ∧ Below w.heap.size w w' := by
  have hI1 := hI.alloc (Obj.cells #[.int .i64 S.L, vd, vr, vs] 24)
  have hl1 := hl.alloc (Obj.cells #[.int .i64 S.L, vd, vr, vs] 24)
  have HL := Lib.hid hl1; clear hl1
  cases hv : vld S
  · have hE := Lib.hid (askE_no (allB l 0 11000) hv)
    have hc := chk_no hv
    clear hv
    go_enter Tryd.func68, Tryd.ntmps68
    go_wp2_with (go_at_call 26; (with_reducible refine (Check_any S _ _ _ _ hI1.d hI1.r hI1.s).mono ?_); rintro e w1 ⟨rfl, hb⟩)
    go_ret
    exact ⟨ret_int hE.out.symm, bafter hb⟩
  · cases ha : allB l 0 11000
    · have hE := Lib.hid (askE_arg (b := false) hv rfl)
      have hc := chk_ok hv
      clear hv
      go_enter Tryd.func68, Tryd.ntmps68
      go_wp2_with (go_at_call 26; (with_reducible refine (Check_any S _ _ _ _ hI1.d hI1.r hI1.s).mono ?_); rintro e w1 ⟨rfl, hb⟩)
      go_wp2_with (go_at_call 78; (with_reducible refine (all_any _ _ _ l _ _ _ (HL.out.below hb) (by omega)).mono ?_); rintro e w' ⟨rfl, rfl⟩)
      go_ret
      exact ⟨ret_int hE.out.symm, bafter hb⟩
    · have hE := Lib.hid (askE_ok (b := true) hv rfl)
      have hc := chk_ok hv
      clear hv
      go_enter Tryd.func68, Tryd.ntmps68
      go_wp2_with (go_at_call 26; (with_reducible refine (Check_any S _ _ _ _ hI1.d hI1.r hI1.s).mono ?_); rintro e w1 ⟨rfl, hb⟩)
      go_wp2_with (go_at_call 78; (with_reducible refine (all_any _ _ _ l _ _ _ (HL.out.below hb) (by omega)).mono ?_); rintro e w' ⟨rfl, rfl⟩)
      go_ret
      exact ⟨ret_int hE.out.symm, bafter hb⟩

theorem allB1 (n lo hi : Int) : allB [n] lo hi = inB n lo hi := by simp [allB, inB]
/-- 'hours.asked' at one day. -/
theorem asked1 (S : Sea) (vd vr vs : Value) (b c : Nat) (day : Int) (w : World) (hI : SeaIn w vd vr vs S) (hb : b < w.heap.size) (hc : w.cell? ⟨b, 0, none⟩ = some (.int .i64 day)) :
    Calls Tryd.prog 68 #[.agg #[.int .i64 S.L, vd, vr, vs], .slice (some ⟨b, 0, none⟩) 1 c] w fun e w' => e = .returned (.int .i64 (askE S (inB day 0 11000))) ∧ Below w.heap.size w w' := by
  rw [← allB1]
  exact asked_any S vd vr vs _ 1 c [day] w hI (.inr ⟨b, 0, c, rfl, by simp, by simp, hb, fun j hj => by simp at hj; subst hj; simpa using hc⟩) (by omega)

def gd (S : Sea) (b : Bool) (x : Int) : Int := if vld S && b then x else 0
theorem gd_ok {S : Sea} {b : Bool} (x : Int) (h : vld S = true) (hb : b = true) : gd S b x = x := by simp [gd, h, hb]
theorem gd_no {S : Sea} {b : Bool} (x : Int) (h : vld S = false) : gd S b x = 0 := by simp [gd, h]
theorem gd_arg {S : Sea} {b : Bool} (x : Int) (hb : b = false) : gd S b x = 0 := by simp [gd, hb]
theorem ret_two {a b c d : Int} (h : a = c) (h' : b = d) : Ending.returned (.tuple #[.int .i64 a, .int .i64 b]) = .returned (.tuple #[.int .i64 c, .int .i64 d]) := by rw [h, h']

theorem Rise_any (S : Sea) (vd vr vs : Value) (day : Int) (w : World) (hI : SeaIn w vd vr vs S) :
    Calls Tryd.prog 20 #[.agg #[.int .i64 S.L, vd, vr, vs], .int .i64 day] w fun e w' => e = .returned (.tuple #[.int .i64 (gd S (inB day 0 11000) (lnR S day)), .int .i64 (askE S (inB day 0 11000))]) ∧ Below w.heap.size w w' := by
  have hI1 := (hI.alloc (Obj.cells #[.int .i64 S.L, vd, vr, vs] 24)).alloc (Obj.cells #[.int .i64 day] 3)
  cases hv : vld S
  · have hE := Lib.hid (gd_no (b := inB day 0 11000) (lnR S day) hv)
    have he := askE_no (inB day 0 11000) hv
    clear hv
    go_enter Tryd.func20, Tryd.ntmps20
    go_wp2_with (go_at_call 68; (with_reducible refine (asked1 S _ _ _ _ _ day _ hI1 (by simp) (by simp [go_sem])).mono ?_); rintro e w1 ⟨rfl, hb⟩)
    go_ret2
    exact ⟨ret_two hE.out.symm he.symm, bafter (bafter hb)⟩
  · cases ha : inB day 0 11000
    · have hE := Lib.hid (gd_arg (S := S) (b := false) (lnR S day) rfl)
      have he := askE_arg (b := false) hv rfl
      clear hv
      go_enter Tryd.func20, Tryd.ntmps20
      go_wp2_with (go_at_call 68; (with_reducible refine (asked1 S _ _ _ _ _ day _ hI1 (by simp) (by simp [go_sem])).mono ?_); rintro e w1 ⟨rfl, hb⟩)
      go_ret2
      exact ⟨ret_two hE.out.symm he.symm, bafter (bafter hb)⟩
    · have hE := Lib.hid (gd_ok (b := true) (lnR S day) hv rfl)
      have he := askE_ok (b := true) hv rfl
      obtain ⟨d1, d2⟩ := inB_t ha
      have HV := Lib.hid hv
      clear hv
      go_enter Tryd.func20, Tryd.ntmps20
      go_wp2_with fail
      refine (asked1 S _ _ _ _ _ day _ hI1 (by simp) (by simp [go_sem])).mono ?_
      rintro e w1 ⟨rfl, hb⟩
      obtain ⟨hc, hf⟩ := bcell hb
      go_wp2_with fail
      refine (at_r S _ _ _ _ _ HV.out (hI1.below hb) (by omega) (by omega)).mono ?_
      rintro e w2 ⟨rfl, hb2⟩
      go_wp2_with fail
      go_ret2
      exact ⟨ret_two hE.out.symm he.symm, bthen (bafter (bafter hb)) hb2⟩
theorem Set_any (S : Sea) (vd vr vs : Value) (day : Int) (w : World) (hI : SeaIn w vd vr vs S) :
    Calls Tryd.prog 22 #[.agg #[.int .i64 S.L, vd, vr, vs], .int .i64 day] w fun e w' => e = .returned (.tuple #[.int .i64 (gd S (inB day 0 11000) (lnS S day)), .int .i64 (askE S (inB day 0 11000))]) ∧ Below w.heap.size w w' := by
  have hI1 := (hI.alloc (Obj.cells #[.int .i64 S.L, vd, vr, vs] 24)).alloc (Obj.cells #[.int .i64 day] 3)
  cases hv : vld S
  · have hE := Lib.hid (gd_no (b := inB day 0 11000) (lnS S day) hv)
    have he := askE_no (inB day 0 11000) hv
    clear hv
    go_enter Tryd.func22, Tryd.ntmps22
    go_wp2_with (go_at_call 68; (with_reducible refine (asked1 S _ _ _ _ _ day _ hI1 (by simp) (by simp [go_sem])).mono ?_); rintro e w1 ⟨rfl, hb⟩)
    go_ret2
    exact ⟨ret_two hE.out.symm he.symm, bafter (bafter hb)⟩
  · cases ha : inB day 0 11000
    · have hE := Lib.hid (gd_arg (S := S) (b := false) (lnS S day) rfl)
      have he := askE_arg (b := false) hv rfl
      clear hv
      go_enter Tryd.func22, Tryd.ntmps22
      go_wp2_with (go_at_call 68; (with_reducible refine (asked1 S _ _ _ _ _ day _ hI1 (by simp) (by simp [go_sem])).mono ?_); rintro e w1 ⟨rfl, hb⟩)
      go_ret2
      exact ⟨ret_two hE.out.symm he.symm, bafter (bafter hb)⟩
    · have hE := Lib.hid (gd_ok (b := true) (lnS S day) hv rfl)
      have he := askE_ok (b := true) hv rfl
      obtain ⟨d1, d2⟩ := inB_t ha
      have HV := Lib.hid hv
      clear hv
      go_enter Tryd.func22, Tryd.ntmps22
      go_wp2_with fail
      refine (asked1 S _ _ _ _ _ day _ hI1 (by simp) (by simp [go_sem])).mono ?_
      rintro e w1 ⟨rfl, hb⟩
      obtain ⟨hc, hf⟩ := bcell hb
      go_wp2_with fail
      refine (at_s S _ _ _ _ _ HV.out (hI1.below hb) (by omega) (by omega)).mono ?_
      rintro e w2 ⟨rfl, hb2⟩
      go_wp2_with fail
      go_ret2
      exact ⟨ret_two hE.out.symm he.symm, bthen (bafter (bafter hb)) hb2⟩
end Go.Proofs.YtpjnlcdmbkbfcaaDoor
