/- Walks of what the reference asks, of Rise, Set, Length, Moment, Exact, First on both sides. -/
import Derived.Test.YtpjnlcdmbkbfcaaDoorH5
import Derived.Test.YtpjnlcdmbkbfcaaDoorHS4
namespace Go.Proofs.YtpjnlcdmbkbfcaaDoor
open Go.ChangeShapes Go.WideShapes Go.ChangeAt Go.RowKit Go.BigFrame

abbrev seaO (S : Sea) (vd vr vs : Value) : Obj := Obj.cells #[.int .i64 S.L, vd, vr, vs] 24
abbrev hrO (nt : Bool) (h p : Int) : Obj := Obj.cells #[.bool nt, .int .i64 h, .int .i64 p] 37
abbrev raO : Obj := Obj.cells #[.int .i64 0, .int .i64 0] 31

/-- A call that changes nothing only adds blocks. -/
theorem sameB {P : Program} {f : FuncId} {args : Array Value} {w : World} {v : Value} (h : Calls P f args w fun e w' => e = .returned v ∧ w = w') : Calls P f args w fun e w' => e = .returned v ∧ Below w.heap.size w w' :=
  h.mono fun _ _ hx => ⟨hx.1, by rw [← hx.2]; exact Below.refl _ _⟩
theorem askE_cases (S : Sea) (b : Bool) : (vld S = true ∧ b = true ∧ askE S b = 0) ∨ (∃ c, askE S b = c ∧ (c != 0) = true ∧ (vld S && b) = false) := by
  cases hv : vld S
  · exact .inr ⟨50, askE_no b hv, by decide, by simp⟩
  · cases b
    · exact .inr ⟨1, askE_arg hv rfl, by decide, by simp⟩
    · exact .inl ⟨rfl, rfl, askE_ok hv rfl⟩
theorem gd_bad {S : Sea} {b : Bool} (x : Int) (h : (vld S && b) = false) : gd S b x = 0 := by simp [gd, h]
/-- 'hours.asked' at one day, its answer named. -/
theorem asked1c (S : Sea) (vd vr vs : Value) (b c : Nat) (day : Int) (w : World) (r : Int) (he : askE S (inB day 0 11000) = r) (hI : SeaIn w vd vr vs S) (hb : b < w.heap.size) (hc : w.cell? ⟨b, 0, none⟩ = some (.int .i64 day)) :
    Calls Tryd.prog 68 #[.agg #[.int .i64 S.L, vd, vr, vs], .slice (some ⟨b, 0, none⟩) 1 c] w fun e w' => e = .returned (.int .i64 r) ∧ Below w.heap.size w w' := by
  rw [← he]; exact asked1 S vd vr vs b c day w hI hb hc

set_option maxHeartbeats 400000 in
theorem rready_any (S : Sea) (vd vr vs : Value) (day : Int) (nt : Bool) (h p : Int) (w : World) (hI : SeaIn w vd vr vs S) :
    Calls Tryd.prog 70 #[.agg #[.int .i64 S.L, vd, vr, vs], .int .i64 day, .agg #[.bool nt, .int .i64 h, .int .i64 p]] w fun e w' => e = .returned (.int .i64 (askE S (inB day 0 11000 && okH h p))) ∧ Below w.heap.size w w' := by
  have hI1 := (hI.alloc (seaO S vd vr vs)).alloc (hrO nt h p)
  cases hv : vld S
  · have he := askE_no (inB day 0 11000 && okH h p) hv
    have hc := chk_no hv
    clear hv
    go_enter Tryd.func70, Tryd.ntmps70
    go_wp2_with fail
    refine (rCheck_any S _ _ _ _ hI1.d hI1.r hI1.s).mono ?_
    rintro e w1 ⟨rfl, hb1⟩
    rw [hc]
    go_wp2_with fail
    go_ret
    exact ⟨ret_int he.symm, bafter (bafter hb1)⟩
  · have hc := chk_ok hv
    cases ha : inB day 0 11000
    · have he := askE_arg (b := false && okH h p) hv rfl
      clear hv
      go_enter Tryd.func70, Tryd.ntmps70
      go_wp2_with fail
      refine (rCheck_any S _ _ _ _ hI1.d hI1.r hI1.s).mono ?_
      rintro e w1 ⟨rfl, hb1⟩
      rw [hc]
      obtain ⟨hc1, hf1⟩ := bcell hb1
      go_wp2_with fail
      refine (rDay_any day _).mono ?_
      rintro e w2 ⟨rfl, rfl⟩
      rw [ha]
      go_wp2_with fail
      go_ret
      exact ⟨ret_int he.symm, bafter (bafter hb1)⟩
    · cases hk : okH h p
      · have he := askE_arg (b := true && false) hv rfl
        clear hv
        go_enter Tryd.func70, Tryd.ntmps70
        go_wp2_with fail
        refine (rCheck_any S _ _ _ _ hI1.d hI1.r hI1.s).mono ?_
        rintro e w1 ⟨rfl, hb1⟩
        rw [hc]
        obtain ⟨hc1, hf1⟩ := bcell hb1
        go_wp2_with fail
        refine (rDay_any day _).mono ?_
        rintro e w2 ⟨rfl, rfl⟩
        rw [ha]
        go_wp2_with fail
        refine (rHour_any nt h p _).mono ?_
        rintro e w2 ⟨rfl, hb2⟩
        rw [hk]
        go_wp2_with fail
        go_ret
        exact ⟨ret_int he.symm, bthen (bafter (bafter hb1)) hb2⟩
      · have he := askE_ok (b := true && true) hv rfl
        clear hv
        go_enter Tryd.func70, Tryd.ntmps70
        go_wp2_with fail
        refine (rCheck_any S _ _ _ _ hI1.d hI1.r hI1.s).mono ?_
        rintro e w1 ⟨rfl, hb1⟩
        rw [hc]
        obtain ⟨hc1, hf1⟩ := bcell hb1
        go_wp2_with fail
        refine (rDay_any day _).mono ?_
        rintro e w2 ⟨rfl, rfl⟩
        rw [ha]
        go_wp2_with fail
        refine (rHour_any nt h p _).mono ?_
        rintro e w2 ⟨rfl, hb2⟩
        rw [hk]
        go_wp2_with fail
        go_ret
        exact ⟨ret_int he.symm, bthen (bafter (bafter hb1)) hb2⟩
theorem rreadyc (S : Sea) (vd vr vs : Value) (day : Int) (nt : Bool) (h p : Int) (w : World) (r : Int) (he : askE S (inB day 0 11000 && okH h p) = r) (hI : SeaIn w vd vr vs S) :
    Calls Tryd.prog 70 #[.agg #[.int .i64 S.L, vd, vr, vs], .int .i64 day, .agg #[.bool nt, .int .i64 h, .int .i64 p]] w fun e w' => e = .returned (.int .i64 r) ∧ Below w.heap.size w w' := by
  rw [← he]; exact rready_any S vd vr vs day nt h p w hI
theorem rready0c (S : Sea) (vd vr vs : Value) (day : Int) (w : World) (r : Int) (he : askE S (inB day 0 11000) = r) (hI : SeaIn w vd vr vs S) :
    Calls Tryd.prog 70 #[.agg #[.int .i64 S.L, vd, vr, vs], .int .i64 day, .agg #[.bool false, .int .i64 0, .int .i64 0]] w fun e w' => e = .returned (.int .i64 r) ∧ Below w.heap.size w w' :=
  rreadyc S vd vr vs day false 0 0 w r (by rw [show okH 0 0 = true by decide, Bool.and_true]; exact he) hI

set_option maxHeartbeats 400000 in
theorem asks_any (S : Sea) (vd vr vs : Value) (day : Int) (nt : Bool) (h p : Int) (w : World) (hI : SeaIn w vd vr vs S) :
    Calls Tryd.prog 80 #[.agg #[.int .i64 S.L, vd, vr, vs], .int .i64 day, .agg #[.bool nt, .int .i64 h, .int .i64 p]] w fun e w' => e = .returned (.int .i64 (askE S (inB day 0 11000 && okH h p))) ∧ Below w.heap.size w w' := by
  have hI1 := ((hI.alloc (seaO S vd vr vs)).alloc (hrO nt h p)).alloc (Obj.cells #[.int .i64 day] 3)
  rcases askE_cases S (inB day 0 11000) with ⟨hv, ha, he⟩ | ⟨c, he, hc, hn⟩
  · cases hk : okH h p
    · have he2 := askE_arg (b := inB day 0 11000 && false) hv (by simp)
      clear hv ha
      go_enter Tryd.func80, Tryd.ntmps80
      go_wp2_with fail
      refine (asked1c S _ _ _ _ _ day _ 0 he hI1 (by simp) (by simp [go_sem])).mono ?_
      rintro e w1 ⟨rfl, hb1⟩
      obtain ⟨hc1, hf1⟩ := bcell hb1
      go_wp2_with fail
      refine (isHour_any nt h p _).mono ?_
      rintro e w2 ⟨rfl, hb2⟩
      rw [hk]
      go_wp2_with fail
      go_ret
      exact ⟨ret_int he2.symm, bthen (bafter (bafter (bafter hb1))) hb2⟩
    · have he2 := askE_ok (b := inB day 0 11000 && true) hv (by simp [ha])
      clear hv ha
      go_enter Tryd.func80, Tryd.ntmps80
      go_wp2_with fail
      refine (asked1c S _ _ _ _ _ day _ 0 he hI1 (by simp) (by simp [go_sem])).mono ?_
      rintro e w1 ⟨rfl, hb1⟩
      obtain ⟨hc1, hf1⟩ := bcell hb1
      go_wp2_with fail
      refine (isHour_any nt h p _).mono ?_
      rintro e w2 ⟨rfl, hb2⟩
      rw [hk]
      go_wp2_with fail
      go_ret
      exact ⟨ret_int he2.symm, bthen (bafter (bafter (bafter hb1))) hb2⟩
  · have he2 : askE S (inB day 0 11000 && okH h p) = c := by
      simp only [Bool.and_eq_false_iff] at hn
      unfold askE at he ⊢
      rcases hn with h1 | h1
      · simpa [h1] using he
      · simpa [h1] using he
    go_enter Tryd.func80, Tryd.ntmps80
    go_wp2_with fail
    refine (asked1c S _ _ _ _ _ day _ c he hI1 (by simp) (by simp [go_sem])).mono ?_
    rintro e w1 ⟨rfl, hb1⟩
    obtain ⟨hc1, hf1⟩ := bcell hb1
    go_wp2_with fail
    go_ret
    exact ⟨ret_int he2.symm, bafter (bafter (bafter hb1))⟩
theorem asksc (S : Sea) (vd vr vs : Value) (day : Int) (nt : Bool) (h p : Int) (w : World) (r : Int) (he : askE S (inB day 0 11000 && okH h p) = r) (hI : SeaIn w vd vr vs S) :
    Calls Tryd.prog 80 #[.agg #[.int .i64 S.L, vd, vr, vs], .int .i64 day, .agg #[.bool nt, .int .i64 h, .int .i64 p]] w fun e w' => e = .returned (.int .i64 r) ∧ Below w.heap.size w w' := by
  rw [← he]; exact asks_any S vd vr vs day nt h p w hI

theorem rRise_any (S : Sea) (vd vr vs : Value) (day : Int) (w : World) (hI : SeaIn w vd vr vs S) :
    Calls Tryd.prog 21 #[.agg #[.int .i64 S.L, vd, vr, vs], .int .i64 day] w fun e w' => e = .returned (.tuple #[.int .i64 (gd S (inB day 0 11000) (lnR S day)), .int .i64 (askE S (inB day 0 11000))]) ∧ Below w.heap.size w w' := by
  have hI1 := hI.alloc (seaO S vd vr vs)
  rcases askE_cases S (inB day 0 11000) with ⟨hv, ha, he⟩ | ⟨c, he, hc, hn⟩
  · have hE := Lib.hid (gd_ok (b := inB day 0 11000) (lnR S day) hv ha)
    obtain ⟨d1, d2⟩ := inB_t ha
    have HV := Lib.hid hv
    clear hv ha
    go_enter Tryd.func21, Tryd.ntmps21
    go_wp2_with fail
    refine (rready0c S _ _ _ day _ 0 he hI1).mono ?_
    rintro e w1 ⟨rfl, hb1⟩
    obtain ⟨hc1, hf1⟩ := bcell hb1
    go_wp2_with fail
    refine (rrise_any S _ _ _ day _ HV.out (hI1.below hb1) (by omega) (by omega)).mono ?_
    rintro e w2 ⟨rfl, hb2⟩
    replace hb2 := bthen hb1 hb2
    obtain ⟨hc2, hf2⟩ := bcell hb2
    go_wp2_with fail
    go_ret2
    exact ⟨ret_two hE.out.symm he.symm, bafter hb2⟩
  · have hE := Lib.hid (gd_bad (lnR S day) hn)
    clear hn
    go_enter Tryd.func21, Tryd.ntmps21
    go_wp2_with fail
    refine (rready0c S _ _ _ day _ c he hI1).mono ?_
    rintro e w1 ⟨rfl, hb1⟩
    obtain ⟨hc1, hf1⟩ := bcell hb1
    go_wp2_with fail
    go_ret2
    exact ⟨ret_two hE.out.symm he.symm, bafter hb1⟩
theorem rSet_any (S : Sea) (vd vr vs : Value) (day : Int) (w : World) (hI : SeaIn w vd vr vs S) :
    Calls Tryd.prog 23 #[.agg #[.int .i64 S.L, vd, vr, vs], .int .i64 day] w fun e w' => e = .returned (.tuple #[.int .i64 (gd S (inB day 0 11000) (lnS S day)), .int .i64 (askE S (inB day 0 11000))]) ∧ Below w.heap.size w w' := by
  have hI1 := hI.alloc (seaO S vd vr vs)
  rcases askE_cases S (inB day 0 11000) with ⟨hv, ha, he⟩ | ⟨c, he, hc, hn⟩
  · have hE := Lib.hid (gd_ok (b := inB day 0 11000) (lnS S day) hv ha)
    obtain ⟨d1, d2⟩ := inB_t ha
    have HV := Lib.hid hv
    clear hv ha
    go_enter Tryd.func23, Tryd.ntmps23
    go_wp2_with fail
    refine (rready0c S _ _ _ day _ 0 he hI1).mono ?_
    rintro e w1 ⟨rfl, hb1⟩
    obtain ⟨hc1, hf1⟩ := bcell hb1
    go_wp2_with fail
    refine (rset_any S _ _ _ day _ HV.out (hI1.below hb1) (by omega) (by omega)).mono ?_
    rintro e w2 ⟨rfl, hb2⟩
    replace hb2 := bthen hb1 hb2
    obtain ⟨hc2, hf2⟩ := bcell hb2
    go_wp2_with fail
    go_ret2
    exact ⟨ret_two hE.out.symm he.symm, bafter hb2⟩
  · have hE := Lib.hid (gd_bad (lnS S day) hn)
    clear hn
    go_enter Tryd.func23, Tryd.ntmps23
    go_wp2_with fail
    refine (rready0c S _ _ _ day _ c he hI1).mono ?_
    rintro e w1 ⟨rfl, hb1⟩
    obtain ⟨hc1, hf1⟩ := bcell hb1
    go_wp2_with fail
    go_ret2
    exact ⟨ret_two hE.out.symm he.symm, bafter hb1⟩
end Go.Proofs.YtpjnlcdmbkbfcaaDoor
