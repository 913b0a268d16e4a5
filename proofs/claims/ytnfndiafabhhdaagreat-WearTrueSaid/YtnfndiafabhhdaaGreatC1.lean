/- Walk of opened: a filling that came in, and its story (Wear). -/
import Derived.Test.YtnfndiafabhhdaaGreatB8
import Derived.RangeFuncBox
import Derived.Maps.AppendAt
namespace Go.Proofs.YtnfndiafabhhdaaGreat
open Go.ChangeShapes Go.WideShapes Go.ChangeAt Go.RowKit
def snA (s : List Sn) (i : Nat) : Sn := s[i]?.getD ⟨0, 0, ⟨0, 0⟩⟩
def snF (s : List Sn) (i j : Nat) : Value := match j with
  | 0 => .int .i64 (snA s i).lo
  | 1 => .int .i64 (snA s i).hi
  | 2 => .int .i64 (snA s i).k.lv
  | _ => .int .i64 (snA s i).k.er
abbrev SnR (w : World) (v : Value) (s : List Sn) : Prop := Row w v 4 s.length (snF s)
abbrev flV (F : Fl) (vv vs : Value) : Value := .agg #[vv, .int .i64 F.f.lv, .int .i64 F.f.er, .int .i64 F.wlo, .int .i64 F.whi, vs]
abbrev flO (F : Fl) (vv vs : Value) : Obj := Obj.cells #[vv, .int .i64 F.f.lv, .int .i64 F.f.er, .int .i64 F.wlo, .int .i64 F.whi, vs] 30
structure FlIn (w : World) (F : Fl) (vv vs : Value) : Prop where
  v : RgR w vv F.v
  s : SnR w vs F.s
theorem FlIn.below {w w' : World} {F : Fl} {vv vs : Value} (h : FlIn w F vv vs) (hb : Below w.heap.size w w') : FlIn w' F vv vs := ⟨h.v.below hb, h.s.below hb⟩
theorem FlIn.alloc {w : World} {F : Fl} {vv vs : Value} (h : FlIn w F vv vs) (o : Obj) : FlIn (w.alloc o) F vv vs := h.below (ballo w o)
abbrev styC (F : Fl) (vv vs pv : Value) : List Value := [vv, .int .i64 F.f.lv, .int .i64 F.f.er, .int .i64 F.wlo, .int .i64 F.whi, vs, pv, .int .i64 (hgt F.v)]
structure Sty (w : World) (F : Fl) (b : Nat) (vv vs pv : Value) : Prop where
  k : Bk w b 115 (styC F vv vs pv)
  f : FlIn w F vv vs
  p : PtR w pv F.v
  o : OkF F
theorem Sty.below {w w' : World} {F : Fl} {b : Nat} {vv vs pv : Value} (h : Sty w F b vv vs pv) (hb : Below w.heap.size w w') : Sty w' F b vv vs pv := ⟨h.k.below hb, h.f.below hb, h.p.below hb, h.o⟩
theorem Sty.alloc {w : World} {F : Fl} {b : Nat} {vv vs pv : Value} (h : Sty w F b vv vs pv) (o : Obj) : Sty (w.alloc o) F b vv vs pv := h.below (ballo w o)
def chkF (F : Fl) : Int := if okFl F then 0 else 30
theorem okSn_eq (H : Int) (x : Sn) : okSn H x = (okSp x.lo x.hi 0 1048576 && okLk H x.k) := rfl
theorem okFl_no {F : Fl} (h : okVs F.v = false ∨ okLk (hgt F.v) F.f = false ∨ okSp F.wlo F.whi 1 4000 = false ∨ 24 < F.s.length ∨ ∃ k, k < F.s.length ∧ okSn (hgt F.v) (snA F.s k) = false) : okFl F = false := by
  unfold okFl
  rcases h with h | h | h | h | ⟨k, hk, h⟩
  · rw [h]; rfl
  · rw [h]; simp
  · have h : (decide (1 ≤ F.wlo) && decide (F.wlo ≤ F.whi) && decide (F.whi ≤ 4000)) = false := h
    rw [h]; simp
  · rw [show decide (F.s.length ≤ 24) = false by simp; omega]; simp
  · have : F.s.all (okSn (hgt F.v)) = false := by
      rw [List.all_eq_false]
      exact ⟨F.s[k], List.getElem_mem hk, by simp only [snA, List.getElem?_eq_getElem hk, Option.getD_some] at h; rw [h]; decide⟩
    rw [this]; simp
theorem okFl_yes {F : Fl} (h1 : okVs F.v = true) (h2 : okLk (hgt F.v) F.f = true) (h3 : okSp F.wlo F.whi 1 4000 = true) (h4 : F.s.length ≤ 24) (h5 : ∀ k, k < F.s.length → okSn (hgt F.v) (snA F.s k) = true) : okFl F = true := by
  have h3 : (decide (1 ≤ F.wlo) && decide (F.wlo ≤ F.whi) && decide (F.whi ≤ 4000)) = true := h3
  unfold okFl
  rw [h1, h2, h3, show decide (F.s.length ≤ 24) = true by simpa using h4]
  simp only [Bool.true_and, List.all_eq_true]
  intro x hx
  obtain ⟨k, hk, rfl⟩ := List.getElem_of_mem hx
  have := h5 k hk
  simpa only [snA, List.getElem?_eq_getElem hk, Option.getD_some] using this
def OpPost (F : Fl) (vv vs : Value) (w : World) (e : Ending) (w' : World) : Prop :=
  (okFl F = false ∧ e = .returned (.tuple #[.pointer none, .int .i64 30]) ∧ Below w.heap.size w w') ∨
  (∃ b pv, e = .returned (.tuple #[.pointer (some ⟨b, 0, none⟩), .int .i64 0]) ∧ Below w.heap.size w w' ∧ Sty w' F b vv vs pv)
set_option maxHeartbeats 4000000 in
theorem opened_any (F : Fl) (vv vs : Value) (w : World) (hF : FlIn w F vv vs) : Calls Tryz.prog 102 #[flV F vv vs] w fun e w' => OpPost F vv vs w e w' := by
  obtain ⟨os, cs, rfl, ms⟩ := hF.s.parts
  have HF := Lib.hid hF
  have hF0 := Lib.hid (hF.alloc (flO F vv (.slice os F.s.length cs)))
  have hSz := fun w (h : RgR w vv F.v) => Sizes_any F.v vv w h
  rcases bool_ft (okVs F.v) with hv | hv
  · have HNO := Lib.hid (okFl_no (.inl hv))
    have hc : chkV F.v = 20 := by simp [chkV, hv]
    rw [hv, hc] at hSz
    have HS := Lib.hid hSz
    clear hSz hv hc hF
    go_enter Tryz.func102, Tryz.ntmps102
    go_wp2_with fail
    refine (HS.out _ hF0.out.v).mono ?_
    rintro e w1 ⟨rfl, hb1⟩
    go_wp2_with fail
    go_ret2
    exact .inl ⟨HNO.out, rfl, bafter hb1⟩
  have hc : chkV F.v = 0 := by simp [chkV, hv]
  simp only [hv, hc, if_true] at hSz
  obtain ⟨H, hH⟩ : ∃ x, hgt F.v = x := ⟨_, rfl⟩
  rw [hH] at hSz
  have HS := Lib.hid hSz
  have HV := Lib.hid ((okv_iff F.v).1 hv)
  have HV0 := Lib.hid hv
  have HH := Lib.hid hH
  clear hSz hc hv hF hH
  rcases bool_ft (okLk H F.f) with hl | hl
  · have HNO := Lib.hid (okFl_no (.inr (.inl (by rw [HH.out]; exact hl))))
    have HL := Lib.hid hl; clear hl
    go_enter Tryz.func102, Tryz.ntmps102
    go_wp2_with fail
    refine (HS.out _ hF0.out.v).mono ?_
    rintro e w1 ⟨rfl, hb1⟩
    obtain ⟨hc1, hf1⟩ := bcell hb1
    go_wp2_with fail
    refine (wlook_any F.f H _).mono ?_
    rintro e w2 ⟨rfl, hb2⟩
    rw [HL.out]
    go_wp2_with fail
    go_ret2
    exact .inl ⟨HNO.out, rfl, bthen (bafter hb1) hb2⟩
  have HL := Lib.hid hl; clear hl
  rcases bool_ft (okSp F.wlo F.whi 1 4000) with hw | hw
  · have HNO := Lib.hid (okFl_no (.inr (.inr (.inl hw))))
    have HW := Lib.hid hw; clear hw
    go_enter Tryz.func102, Tryz.ntmps102
    go_wp2_with fail
    refine (HS.out _ hF0.out.v).mono ?_
    rintro e w1 ⟨rfl, hb1⟩
    obtain ⟨hc1, hf1⟩ := bcell hb1
    go_wp2_with fail
    refine (wlook_any F.f H _).mono ?_
    rintro e w2 ⟨rfl, hb2⟩
    rw [HL.out]
    replace hb2 := bthen hb1 hb2
    obtain ⟨hc2, hf2⟩ := bcell hb2
    go_wp2_with fail
    refine (within_any F.wlo F.whi 1 4000 _).mono ?_
    rintro e w3 ⟨rfl, hb3⟩
    rw [HW.out]
    replace hb3 := bthen hb2 hb3
    go_wp2_with fail
    go_ret2
    exact .inl ⟨HNO.out, rfl, bafter hb3⟩
  have HW := Lib.hid hw; clear hw
  obtain ⟨n, hn⟩ : ∃ n, F.s.length = n := ⟨_, rfl⟩
  have HN := Lib.hid hn
  rw [hn] at ms HF hF0 ⊢
  clear hn
  by_cases hn4 : 24 < n
  · have HNO := Lib.hid (okFl_no (F := F) (.inr (.inr (.inr (.inl (by rw [HN.out]; exact hn4))))))
    have hn5 : (24 : Int) < n := by omega
    go_enter Tryz.func102, Tryz.ntmps102
    go_wp2_with fail
    refine (HS.out _ hF0.out.v).mono ?_
    rintro e w1 ⟨rfl, hb1⟩
    obtain ⟨hc1, hf1⟩ := bcell hb1
    go_wp2_with fail
    refine (wlook_any F.f H _).mono ?_
    rintro e w2 ⟨rfl, hb2⟩
    rw [HL.out]
    replace hb2 := bthen hb1 hb2
    obtain ⟨hc2, hf2⟩ := bcell hb2
    go_wp2_with fail
    refine (within_any F.wlo F.whi 1 4000 _).mono ?_
    rintro e w3 ⟨rfl, hb3⟩
    rw [HW.out]
    replace hb3 := bthen hb2 hb3
    obtain ⟨hc3, hf3⟩ := bcell hb3
    clear hc1 hf1 hc2 hf2
    go_wp2_with fail
    go_ret2
    exact .inl ⟨HNO.out, rfl, bafter hb3⟩
  have hn5 : ¬ (24 : Int) < n := by omega
  have m4 : n ≤ 24 := by omega
  go_enter Tryz.func102, Tryz.ntmps102
  go_wp2_with fail
  refine (HS.out _ hF0.out.v).mono ?_
  rintro e w1 ⟨rfl, hb1⟩
  obtain ⟨hc1, hf1⟩ := bcell hb1
  go_wp2_with fail
  refine (wlook_any F.f H _).mono ?_
  rintro e w2 ⟨rfl, hb2⟩
  rw [HL.out]
  replace hb2 := bthen hb1 hb2
  obtain ⟨hc2, hf2⟩ := bcell hb2
  go_wp2_with fail
  refine (within_any F.wlo F.whi 1 4000 _).mono ?_
  rintro e w3 ⟨rfl, hb3⟩
  rw [HW.out]
  replace hb3 := bthen hb2 hb3
  obtain ⟨hc3, hf3⟩ := bcell hb3
  clear hc1 hf1 hc2 hf2
  go_wp2_with fail
  clear hc3 hf3
  go_loopw [43] (fun i wr => ∃ k : Nat, k ≤ n ∧ i = .int .i64 (k : Int) ∧ Hid (∀ j, j < k → okSn H (snA F.s j) = true) ∧ Below (w.alloc (flO F vv (.slice os n cs))).heap.size (w.alloc (flO F vv (.slice os n cs))) wr) (fun i _ => n - (intOf i).toNat)
  case atStart => exact ⟨0, Nat.zero_le _, rfl, Lib.hid (fun j hj => by omega), hb3⟩
  case round =>
    obtain ⟨k, hk, rfl, hall, hbl⟩ := hrel
    by_cases h0 : k < n
    · obtain ⟨b, off, rfl, hb, hcc⟩ := hF0.out.s.cells (by rw [HN.out]; omega)
      have d0 := (hbl.cell (p := ⟨b, off + k * 4, none⟩) hb).trans (hcc k 0 (by rw [HN.out]; exact h0) (by omega))
      have d1 := (hbl.cell (p := ⟨b, off + k * 4 + 1, none⟩) hb).trans (hcc k 1 (by rw [HN.out]; exact h0) (by omega))
      have d2 := (hbl.cell (p := ⟨b, off + k * 4 + 2, none⟩) hb).trans (hcc k 2 (by rw [HN.out]; exact h0) (by omega))
      have d3 := (hbl.cell (p := ⟨b, off + k * 4 + 3, none⟩) hb).trans (hcc k 3 (by rw [HN.out]; exact h0) (by omega))
      simp only [snF] at d0 d1 d2 d3
      clear hcc
      obtain ⟨x, hx⟩ : ∃ x, snA F.s k = x := ⟨_, rfl⟩
      rw [hx] at d0 d1 d2 d3
      have HX := Lib.hid hx; clear hx
      rcases bool_ft (okSp x.lo x.hi 0 1048576) with hs | hs
      · have HNO := Lib.hid (okFl_no (F := F) (.inr (.inr (.inr (.inr ⟨k, by rw [HN.out]; exact h0, by rw [HX.out, okSn_eq, hs]; rfl⟩)))))
        have HSP := Lib.hid hs; clear hs
        go_wp2_with fail
        refine (within_any x.lo x.hi 0 1048576 _).mono ?_
        rintro e w4 ⟨rfl, hb4⟩
        rw [HSP.out]
        go_wp2_with fail
        go_ret2
        exact .inl ⟨HNO.out, rfl, bafter (hbl.trans ((bafter hb4).mono hbl.size))⟩
      · have HSP := Lib.hid hs; clear hs
        rcases bool_ft (okLk H x.k) with hk2 | hk2
        · have HNO := Lib.hid (okFl_no (F := F) (.inr (.inr (.inr (.inr ⟨k, by rw [HN.out]; exact h0, by rw [HX.out, okSn_eq, HH.out, hk2]; simp⟩)))))
          have HK2 := Lib.hid hk2; clear hk2
          go_wp2_with fail
          refine (within_any x.lo x.hi 0 1048576 _).mono ?_
          rintro e w4 ⟨rfl, hb4⟩
          rw [HSP.out]
          obtain ⟨hc4, hf4⟩ := bcell hb4
          go_wp2_with fail
          refine (wlook_any x.k H _).mono ?_
          rintro e w5 ⟨rfl, hb5⟩
          rw [HK2.out]
          go_wp2_with fail
          go_ret2
          exact .inl ⟨HNO.out, rfl, bafter (hbl.trans ((bafter (bthen hb4 hb5)).mono hbl.size))⟩
        · have hst : okSn H (snA F.s k) = true := by rw [HX.out, okSn_eq, HSP.out, hk2]; rfl
          have HST := Lib.hid hst; clear hst
          have HK2 := Lib.hid hk2; clear hk2
          go_wp2_with fail
          refine (within_any x.lo x.hi 0 1048576 _).mono ?_
          rintro e w4 ⟨rfl, hb4⟩
          rw [HSP.out]
          obtain ⟨hc4, hf4⟩ := bcell hb4
          go_wp2_with fail
          refine (wlook_any x.k H _).mono ?_
          rintro e w5 ⟨rfl, hb5⟩
          rw [HK2.out]
          go_wp2_with fail
          exact ⟨⟨k + 1, by omega, by go_num, Lib.hid (fun j hj => by
            rcases Nat.lt_or_ge j k with h | h
            · exact hall.out j h
            · obtain rfl : j = k := by omega
              exact HST.out), hbl.trans ((bafter (bthen hb4 hb5)).mono hbl.size)⟩, by simp [intOf]; omega⟩
    · obtain rfl : k = n := by omega
      have hok : okFl F = true := okFl_yes HV0.out (by rw [HH.out]; exact HL.out) HW.out (by rw [HN.out]; exact m4) (fun j hj => by rw [HH.out]; exact hall.out j (by rw [← HN.out]; exact hj))
      have HO := Lib.hid ((okFl_iff F).1 hok); clear hok
      obtain ⟨hcr, hfr⟩ := bcell hbl
      go_wp2_with fail
      refine (Emptying_any F.v vv _ (hF0.out.v.below hbl) HV.out).mono ?_
      rintro e w4 ⟨pv, rfl, hb4, hP⟩
      have hb4' := bthen hbl hb4
      obtain ⟨hc4, hf4⟩ := bcell hb4'
      obtain ⟨op, cp, rfl, _⟩ := hP.parts
      clear hcr hfr
      go_wp2_with fail
      go_ret2
      refine .inr ⟨w4.heap.size, .slice op (F.v.length + 1) cp, rfl, (bafter hb4').alloc (by have := hb4'.size; simp at this; omega) _, ?_⟩
      have hfl : FlIn w4 F vv (.slice os k cs) := hF0.out.below hb4'
      refine ⟨?_, hfl.alloc _, hP.alloc _, HO.out⟩
      show Bk _ _ _ [vv, .int .i64 F.f.lv, .int .i64 F.f.er, .int .i64 F.wlo, .int .i64 F.whi, .slice os k cs, .slice op (F.v.length + 1) cp, .int .i64 (hgt F.v)]
      rw [HH.out]
      exact Bk.new w4 _ [_, _, _, _, _, _, _, _]
end Go.Proofs.YtnfndiafabhhdaaGreat
/- Walks of a story's time, levels, items, all (Wear). -/
namespace Go.Proofs.YtnfndiafabhhdaaGreat
open Go.ChangeShapes Go.WideShapes Go.ChangeAt Go.RowKit Go.Shelf
attribute [local go_sem] Oper.semAt_some
theorem time_any (F : Fl) (b : Nat) (vv vs pv : Value) (x : Int) (w : World) (h : Sty w F b vv vs pv) (x0 : 0 ≤ x) (xn : x ≤ hgt F.v) :
    Calls Tryz.prog 87 #[.pointer (some ⟨b, 0, none⟩), .int .i64 x] w fun e w' => e = .returned (.agg #[.int .i64 (tmN F.v x), .int .i64 (tmD F.v x)]) ∧ Below w.heap.size w w' := by
  have hv := (okv_iff F.v).1 h.o.v
  obtain ⟨op, cp, rfl, _⟩ := h.p.parts
  have hE := fun w hP => Exact_any F.v (.slice op (F.v.length + 1) cp) x w hv hP x0 xn
  obtain ⟨tn, htn⟩ : ∃ n, tmN F.v x = n := ⟨_, rfl⟩
  obtain ⟨td, htd⟩ : ∃ n, tmD F.v x = n := ⟨_, rfl⟩
  rw [htn, htd] at hE ⊢
  have c6 := h.k.cell 6
  simp only [styC, List.getElem?_cons_zero, List.getElem?_cons_succ] at c6
  have hlt := h.k.lt
  have HE := Lib.hid hE
  have HP := Lib.hid (h.p.alloc (Obj.cells #[.int .i64 0, .int .i64 0] 41))
  clear hE htn htd h hv
  have hR0 := Bk.new w 41 [.int .i64 0, .int .i64 0]
  go_enter Tryz.func87, Tryz.ntmps87
  go_wp2_with fail
  refine (HE.out _ HP.out).mono ?_
  rintro e w1 ⟨rfl, hb1⟩
  have hR := hR0.below hb1
  have c0 := hR.cell 0
  have c1 := hR.cell 1
  have f0 := hR.frozen 0
  have f1 := hR.frozen 1
  have hz := hR.lt
  simp only [List.getElem?_cons_zero, List.getElem?_cons_succ] at c0 c1
  go_wp2_with fail
  have hR2 := ((hR.set 0 (.int .i64 tn)).set 1 (.int .i64 td)).alloc (Obj.cells #[.int .i64 tn, .int .i64 td] 41)
  refine bodyPost_ret (results_cell_row rfl _ _ w.heap.size _ _ (0, 0) _ rfl hR2 Tryz.underlying41 rfl (by kernel_rfl)) rfl ⟨rfl, ?_⟩
  exact (((bafter hb1).setCell (Nat.le_refl _) _).setCell (Nat.le_refl _) _).alloc (by have := hb1.size; simp at this; simp; omega) _
theorem levels_any (F : Fl) (b : Nat) (vv vs pv : Value) (k : Lk) (w : World) (h : Sty w F b vv vs pv) (hk : okLk (hgt F.v) k = true) :
    Calls Tryz.prog 83 #[.pointer (some ⟨b, 0, none⟩), .agg #[.int .i64 k.lv, .int .i64 k.er]] w fun e w' => e = .returned (.agg #[.int .i64 (endA k), .int .i64 (endB (hgt F.v) k)]) ∧ Below w.heap.size w w' := by
  have hv := (okv_iff F.v).1 h.o.v
  have hb3 := (pt_bd hv (Nat.le_refl _)).1
  have h7 := h.k.cell 7
  simp only [styC, List.getElem?_cons_zero, List.getElem?_cons_succ] at h7
  have hlt := h.k.lt
  simp only [okLk, Bool.and_eq_true, decide_eq_true_eq] at hk
  obtain ⟨⟨k1, k2⟩, k3, k4⟩ := hk
  have hh : hgt F.v = vX F.v F.v.length := rfl
  rw [← hh] at hb3
  obtain ⟨g1, g2⟩ := hb3
  have eA : endA k = max 0 (k.lv - k.er) := rfl
  have eB : endB (hgt F.v) k = min (hgt F.v) (k.lv + k.er) := rfl
  rw [eA, eB]
  obtain ⟨H, hH⟩ : ∃ x, hgt F.v = x := ⟨_, rfl⟩
  obtain ⟨lv, er⟩ := k
  simp only at k1 k2 k3 k4 ⊢
  rw [hH] at h7 k2 g1 g2 ⊢
  have hw1 : IntKind.i64.wrap (lv - er) = lv - er := IntWalk.i64_in _ (by omega)
  have hw2 : IntKind.i64.wrap (lv + er) = lv + er := IntWalk.i64_in _ (by omega)
  clear hH hh eA eB h hv
  go_enter Tryz.func83, Tryz.ntmps83
  go_wp2_with fail
  go_region
  go_wp2_with fail
  refine bodyPost_ret (v := .agg #[.int .i64 (max 0 (lv - er)), .int .i64 (min H (lv + er))]) (by simp [results, Tryz.results83, go_sem]) rfl ⟨rfl, ?_⟩
  exact belw
theorem items_any (b : Nat) (w : World) : Calls Tryz.prog 158 #[.pointer (some ⟨b, 0, none⟩)] w fun e w' => e = .returned (.func (.func 182) #[] #[.pointer (some ⟨w.heap.size, 0, none⟩)]) ∧ w' = w.alloc (Obj.cells #[.pointer (some ⟨b, 0, none⟩)] 95) := by
  go_enter Tryz.func158, Tryz.ntmps158
  go_wp2
  go_ret
  exact ⟨rfl, rfl⟩
def itE (N j : Nat) : Int := ((j % N : Nat) : Int) - 2
theorem itE_lt {N j : Nat} (h : j < N) : itE N j = (j : Int) - 2 := by unfold itE; rw [Nat.mod_eq_of_lt h]
def allL (F : Fl) : List Int := (List.range (F.s.length + 2)).map fun (j : Nat) => (j : Int) - 2
structure KpI (n₀ b1 : Nat) (A B : World) : Prop where
  below : Below n₀ A B
  blk : B.heap[b1]? = A.heap[b1]?
theorem KpI.trans {n₀ b1 : Nat} {A B C : World} (h : KpI n₀ b1 A B) (k : KpI n₀ b1 B C) : KpI n₀ b1 A C := ⟨h.below.trans k.below, k.blk.trans h.blk⟩
theorem KpI.putObj {n₀ b1 : Nat} {w : World} (hn : n₀ ≤ w.heap.size) (hb : b1 < w.heap.size) (W : World) (l : Nat) (o o' : Obj) (hl : w.heap.size ≤ l) (h : W.heap[l]? = some o) (hc : o.isCells = false) (hk : o.isWalk = false) : KpI n₀ b1 W (W.putObj l o') :=
  ⟨belowK_b hn W l o o' hl h hc hk, World.putObj_heap_other (by omega)⟩
set_option maxHeartbeats 2000000 in
theorem items_stops (n : Nat) (hn : 1 ≤ n) (b1 n₀ : Nat) (F : Fl) (b : Nat) (vv vs pv : Value) (w : World) (h : Sty w F b vv vs pv) (h1 : b1 < w.heap.size) (hn0 : n₀ ≤ w.heap.size) (hbl : b < n₀) (c1 : w.cell? ⟨b1, 0, none⟩ = some (.pointer (some ⟨b, 0, none⟩))) :
    SeqStopsK Fence.wide n Tryz.prog 182 #[.pointer (some ⟨b1, 0, none⟩)] (fun j : Nat => #[.int .i64 (itE (F.s.length + 2) j)]) (KpI n₀ b1) (fun xs => xs = List.range (F.s.length + 2)) (fun pre => ∃ k : Nat, k < F.s.length + 2 ∧ pre = List.range (k + 1)) (F.s.length + 2) w := fun ll J Jx W hW hJ hJx hY h0 => by
  obtain ⟨os, cs, rfl, ms⟩ := h.f.s.parts
  have n24 := h.o.n
  have c5 := h.k.cell 5
  simp only [styC, List.getElem?_cons_zero, List.getElem?_cons_succ] at c5
  have hbw := h.k.lt
  obtain ⟨N, hN⟩ : ∃ n, F.s.length = n := ⟨_, rfl⟩
  rw [hN] at n24 c5 ms hY ⊢
  have c1' := (hW.cell (p := ⟨b1, 0, none⟩) h1).trans c1
  have c5' := (hW.cell (p := ⟨b, 5, none⟩) hbw).trans c5
  have HC1 := Lib.hid c1
  have HC5 := Lib.hid c5
  obtain ⟨M, hM⟩ : ∃ m, N + 2 = m := ⟨_, rfl⟩
  rw [hM] at hY ⊢
  have hM1 : (N : Int) + 2 ≤ M := by omega
  have hM2 : (M : Int) ≤ N + 2 := by omega
  clear c1 c5 h hN hM
  refine callsIn_of_wp Tryz.func182 rfl trivial ?_ rfl
  simp only [Tryz.ntmps182, List.size_toArray, List.length_cons, List.length_nil, Nat.reduceAdd, Nat.reduceSub, Array.replicate_succ, Array.replicate_zero, List.push_toArray, List.append_toArray, List.nil_append, List.cons_append]
  have HY := Lib.hid hY; clear hY
  gi_wp2
  gi_loopw [3] (fun p wr => ∃ k : Nat, k ≤ M ∧ p = .int .i64 ((k : Int) - 2) ∧ KpI n₀ b1 w wr ∧ J (List.range k) wr) (fun p _ => (N : Int) + 2 - intOf p |>.toNat)
  case atStart => exact ⟨0, Nat.zero_le _, by simp, ⟨hW.mono hn0, hW.block b1 h1⟩, h0⟩
  case round =>
    obtain ⟨k, hk, rfl, hbr, hJs⟩ := hrel
    clear c1' c5'
    have c1r := (World.cell?_of_block (a := ⟨b1, 0, none⟩) hbr.blk).trans HC1.out
    have c5r := (hbr.below.cell (p := ⟨b, 5, none⟩) hbl).trans HC5.out
    by_cases hlt : k < M
    · obtain ⟨fn, tmps, assign, body, hy, hR⟩ := HY.out (List.range k) k wr hJs (by rw [List.length_range]; omega)
      rw [itE_lt (by omega)] at hy
      have hlt2 : (k : Int) - 2 < N := by omega
      gi_wp2
      refine hR.mono ?_
      rintro e W3 (⟨rfl, hJ3, hk3⟩ | ⟨rfl, hJx3⟩)
      · gi_wp2
        go_roundw
        case rel => exact ⟨k + 1, by omega, by congr 1; omega, hbr.trans hk3, by rw [List.range_succ]; exact hJ3⟩
        case measure => simp [intOf]; omega
      · gi_wp2
        refine bodyPost_ret (results_none rfl _ _ _) rfl ?_
        exact ⟨⟨_, rfl⟩, .inr ⟨_, ⟨k, by omega, List.range_succ.symm⟩, hJx3⟩⟩
    · obtain rfl : k = M := by omega
      have hlt2 : ¬ (k : Int) - 2 < N := by omega
      gi_wp2
      go_end0
      exact ⟨⟨_, rfl⟩, .inl hJs⟩
end Go.Proofs.YtnfndiafabhhdaaGreat
/- Walk of a story's all: the list of all items (Wear). -/
namespace Go.Proofs.YtnfndiafabhhdaaGreat
open Go.ChangeShapes Go.WideShapes Go.ChangeAt Go.RowKit Go.Shelf
attribute [local go_sem] Oper.semAt_some
theorem int_el : ElI 3 1 8 := el_of (z := .int .i64 0) (by kernel_rfl) (by decide)
theorem all_len (F : Fl) : (allL F).length = F.s.length + 2 := by simp [allL]
theorem wpIn_items {g : Operand} {p q : Nat} {assign body : Code} {Q : Exit → Act → World → Prop} {f : Act} {w : World} (b1 n₀ : Nat) (F : Fl) (b : Nat) (vv vs pv : Value) (N : Nat) (hN : F.s.length + 2 = N) (h : Sty w F b vv vs pv)
    (hg : f.eval g = .func (.func 182) #[] #[.pointer (some ⟨b1, 0, none⟩)]) (h1 : b1 < w.heap.size) (hn0 : n₀ ≤ w.heap.size) (hbl : b < n₀) (c1 : w.cell? ⟨b1, 0, none⟩ = some (.pointer (some ⟨b, 0, none⟩)))
    (I : List Nat → World → Prop) (Ix : Code → List Nat → World → Prop) (hI : OwnFrom w.heap.size I) (hIx : ∀ c, OwnFrom w.heap.size (Ix c)) (h0 : I [] w)
    (hassign : ∀ (l : Nat) (j : Nat) (W : World) (K : Act → World → Prop), K { tmps := (f.tmps.setIfInBounds p (.int .i64 (itE N j))).setIfInBounds q (.int .i64 (itE N j)), defers := [] } W →
      assign.wpIn (Fence.wide.inRound l) 3 Tryz.prog (Exit.then K (fun _ _ _ => False)) { tmps := f.tmps.setIfInBounds p (.int .i64 (itE N j)), defers := [] } W)
    (hbody : ∀ (l : Nat) (pre : List Nat) (j : Nat) (W : World), I pre W → pre.length < N → body.wpIn (Fence.wide.inRound l) 3 Tryz.prog (ownPostK (KpI n₀ b1) I Ix (pre ++ [j]) W) { tmps := (f.tmps.setIfInBounds p (.int .i64 (itE N j))).setIfInBounds q (.int .i64 (itE N j)), defers := [] } W)
    (hdone : ∀ (D : Nat) (W : World), w.heap.size ≤ D → I (List.range N) W → W.heap[D]? = some (.deferred (some [])) → Q .normal { f with defers := { target := .collected D, args := #[] } :: f.defers } W)
    (hstop : ∀ (D : Nat) (c : Code) (k : Nat) (W : World), w.heap.size ≤ D → k < N → Ix c (List.range (k + 1)) W → W.heap[D]? = some (.deferred (some [])) → c.wpIn Fence.wide 5 Tryz.prog Q { f with defers := { target := .collected D, args := #[] } :: f.defers } W) :
    (Code.rangeFunc g #[p] assign body).wpIn Fence.wide 5 Tryz.prog Q f w := by
  have hst := items_stops 4 (by decide) b1 n₀ F b vv vs pv w h h1 hn0 hbl c1
  rw [hN] at hst
  refine wpIn_rangeFunc_ownF (F := Fence.wide) (n := 5) rfl (by decide) (gf := 182) hg trivial (enters_of Tryz.func182 (by kernel_rfl) rfl)
    hst (fun h k => KpI.trans h k) (fun W l o o' hl ho hc hw => KpI.putObj hn0 h1 W l o o' hl ho hc hw) (Below.refl _ _) (fun _ => rfl) I Ix hI hIx h0
    (fun j => { tmps := (f.tmps.setIfInBounds p (.int .i64 (itE N j))).setIfInBounds q (.int .i64 (itE N j)), defers := [] }) ?_ hbody ?_ ?_
  · intro l x W K hK
    have hx := hassign l x W K hK
    simpa using hx
  · rintro D xs W hD rfl hi hK
    exact hdone D W hD hi hK
  · rintro D c pre W hD ⟨k, hk, rfl⟩ hi hK
    exact hstop D c k W hD hk hi hK
def itL (N : Nat) (pre : List Nat) : List Int := pre.map (itE N)
theorem itL_all {F : Fl} {N : Nat} (hN : F.s.length + 2 = N) : itL N (List.range N) = allL F := by
  unfold itL allL
  rw [hN]
  apply List.map_congr_left
  intro j hj
  exact itE_lt (List.mem_range.1 hj)
theorem Ints.putObj {W : World} {v : Value} {l : List Int} {D : Nat} {o o' : Obj} (h : Ints W v l) (hD : W.heap[D]? = some o) (ho : o.isCells = false) : Ints (W.putObj D o') v l := by
  rcases h with h | ⟨b, off, k, rfl, h0, hm, hlt, hc⟩
  · exact .inl h
  · have hne : b ≠ D := by
      rintro rfl
      obtain ⟨o2, h1, h2⟩ := cells_of_cell (hc 0 h0)
      rw [hD] at h1
      cases h1
      rw [ho] at h2
      cases h2
    refine .inr ⟨b, off, k, rfl, h0, hm, ?_, fun j hj => (World.cell?_of_block (World.putObj_heap_other (show b ≠ D from hne))).trans (hc j hj)⟩
    have := (grownBy_putObj' W D o').size
    omega
theorem own_cap {w : World} {base : Nat} {E : TypeId} {k n : Nat} {v : Value} {xs : List Value} (h : w.ownsRow base E k v n xs) : ∃ o m c, v = .slice o m c ∧ m ≤ c := by
  rcases h.2 with ⟨rfl, rfl⟩ | ⟨g, cap, cur, rfl, _, _, hn, _⟩
  · exact ⟨_, _, _, rfl, Nat.le_refl _⟩
  · exact ⟨_, _, _, rfl, hn⟩
set_option maxHeartbeats 2000000 in
theorem all_anyC (F : Fl) (b : Nat) (vv vs pv : Value) (w : World) (h : Sty w F b vv vs pv) : Calls Tryz.prog 104 #[.pointer (some ⟨b, 0, none⟩)] w fun e w' => ∃ v, e = .returned v ∧ Below w.heap.size w w' ∧ Ints w' v (allL F) ∧ ∃ o m c, v = .slice o m c ∧ m ≤ c := by
  have n24 := h.o.n
  have H := Lib.hid h; clear h
  obtain ⟨i0, z, hi, hz0, hz1, hz2, hz3⟩ := int_el
  refine (callsIn_wide (n := 5)).1 ?_
  refine callsIn_of_wp_marks Tryz.func104 rfl trivial ?_ rfl
  simp only [Tryz.ntmps104, List.size_toArray, List.length_cons, List.length_nil, Nat.reduceAdd, Nat.reduceSub, Array.replicate_succ, Array.replicate_zero, List.push_toArray, List.append_toArray, List.nil_append, List.cons_append]
  gi_wp2_with fail
  refine ⟨trivial, callsIn_wide.2 ((items_any _ _).mono ?_)⟩
  rintro e w2 ⟨rfl, rfl⟩
  gi_wp2_with fail
  obtain ⟨N, hN⟩ : ∃ n, F.s.length + 2 = n := ⟨_, rfl⟩
  have HN := Lib.hid hN
  refine wpIn_items (p := 6) (q := 3) (w.heap.size + 1) w.heap.size F b vv vs pv N hN ((H.out.alloc (Obj.cells #[.slice none 0 0] 51)).alloc (Obj.cells #[.pointer (some ⟨b, 0, none⟩)] 95)) (by simp [Act.eval]) (by simp) (by simp; omega) H.out.k.lt (by simp [go_sem])
    (fun (pre : List Nat) W => (∃ v, Boxed W w.heap.size 51 v ∧ W.ownsRow w.heap.size 3 1 v pre.length ((itL N pre).map (Value.int .i64)) ∧ True) ∧ Below w.heap.size w W ∧ w.heap.size + 1 + 1 ≤ W.heap.size ∧ Boxed W (w.heap.size + 1) 95 (.pointer (some ⟨b, 0, none⟩))) (fun _ _ _ => False)
    (OwnFrom.and (Own.from (holdsRow_own w.heap.size w.heap.size 51 3 1 (fun (pre : List Nat) => pre.length) (fun (pre : List Nat) => (itL N pre).map (Value.int .i64)) (fun _ _ => True)) _) (OwnFrom.and (ownFrom_below (Nat.le_refl _) (by simp; omega)) (OwnFrom.and (fun _ _ _ _ h hg _ => Nat.le_trans h hg.size) (Own.from (boxed_own (w.heap.size + 1) 95 (fun _ => .pointer (some ⟨b, 0, none⟩))) _))))
    (fun _ _ _ _ _ h _ _ => h) ⟨⟨_, (Boxed.new w _ _).alloc _, World.ownsRow_nil _ _ _ _, trivial⟩, belw, by simp, by have := Boxed.new (w.alloc (Obj.cells #[.slice none 0 0] 51)) 95 (.pointer (some ⟨b, 0, none⟩)); rwa [World.size_alloc] at this⟩ ?assign ?body ?done ?stop
  case assign =>
    intro l j W K hK
    simp only [List.setIfInBounds_toArray, List.set_cons_succ, List.set_cons_zero] at hK ⊢
    gi_wp2
    exact hK
  case body =>
    rintro l pre j W ⟨⟨v, hv, hrow, _⟩, hB, hs, hbx⟩ hlen
    simp only [List.setIfInBounds_toArray, List.set_cons_succ, List.set_cons_zero]
    have hlen2 : pre.length ≤ 26 := by omega
    have hvc := hv.cell
    obtain ⟨x, hx⟩ : ∃ x, itE N j = x := ⟨_, rfl⟩
    have HX := Lib.hid hx
    rw [hx]
    clear hx
    have hle : w.heap.size ≤ W.heap.size := hB.size
    gi_wp2_with (gi_at_builtin; refine wpListIn_append_own _ rfl _ _ 51 rfl w.heap.size 3 i0 z 1 8 Tryz.underlying51 hi hz0 hz1 hz2 hz3 (by decide) _ _ _ rfl (hrow.alloc _) ⟨W.heap.size, 0, none⟩ 1 1 [.int .i64 x] rfl rfl (cell_one_new _ _ _) (by simp [Value.oneCell']) (by unfold maxLen; omega) (by omega) (by simp; omega) ?_; intro v' w1 hown' hgrow _; obtain ⟨g', cap', rfl⟩ := ownsRow_succ hown'; obtain ⟨hv1, hv2, hr2, hk2, hb2⟩ := hv.appended (by decide) hrow hle (Nat.le_refl _) hown' hgrow; have hc1 := hv1.cell; have hf1 := hv1.frozen)
    have hbx1 := ((hbx.alloc (Obj.cells #[.int .i64 x] 3)).kept hgrow ((hbx.not_row (by decide) hrow)))
    have hbx2 : Boxed (w1.setCell ⟨w.heap.size, 0, none⟩ (.slice (some ⟨g', 0, none⟩) (pre.length + 1) cap')) (w.heap.size + 1) 95 (.pointer (some ⟨b, 0, none⟩)) := (Below.heap_setCell _ _ _ _ (by show w.heap.size + 1 ≠ w.heap.size; omega)).trans hbx1
    refine ⟨hk2, ⟨hb2, ?_⟩, ⟨_, hv2, ?_, trivial⟩, hB.trans hb2, Nat.le_trans hs hb2.size, hbx2⟩
    · exact (show _ = _ from hbx2).trans (show _ = _ from hbx).symm
    · have e : itL N (pre ++ [j]) = itL N pre ++ [x] := by simp [itL, HX.out]
      rw [e, List.map_append, List.length_append]
      exact hr2
  case done =>
    rintro D W hD ⟨⟨v, hv, hrow, _⟩, hB, hs, hbx⟩ hK
    simp only [List.length_range] at hrow
    rw [itL_all hN] at hrow
    have hvc := hv.cell
    have hvf := hv.frozen
    have hin : Ints W v (allL F) := by
      have e : N = (allL F).length := by rw [all_len, hN]
      rw [e] at hrow
      exact OwnI.ints hrow
    have hcap := own_cap hrow
    obtain ⟨oa, na, ca, rfl, _, _⟩ := hin.parts
    gi_wp2_with fail
    have hK' : (W.setCell ⟨w.heap.size, 0, none⟩ (.slice oa na ca)).heap[D]? = some (.deferred (some [])) := (KeepsOthers.setCell W ⟨w.heap.size, 0, none⟩ (.slice oa na ca)).same D _ hK rfl
    refine ⟨by simp, .inl ⟨_, _, rfl, run_takeDeferred hK', ?_⟩⟩
    simp at hD
    have hcl : ((W.setCell ⟨w.heap.size, 0, none⟩ (.slice oa na ca)).putObj D (.deferred none)).cell? ⟨w.heap.size, 0, none⟩ = some (.slice oa na ca) :=
      (World.cell?_of_block (World.putObj_heap_other (by show w.heap.size ≠ D; omega))).trans (World.cell?_setCell_same' _ _ _ (by rw [hvc]; rfl))
    have hkk : Bk W w.heap.size 51 [.slice oa na ca] := hv
    refine ⟨.slice oa na ca, by simp [results, Tryz.results104, go_sem, hcl], _, rfl, ?_, ?_, hcap⟩
    · exact (hB.setCell (Nat.le_refl _) _).trans (belowK_b (w := w) (Nat.le_refl _) _ D _ _ (by omega) hK' rfl rfl)
    · exact (hin.far hkk (fun x hx y => by simp at hx; subst hx; simp)).putObj hK' rfl
  case stop =>
    rintro D c pre W _ _ h _
    exact h.elim
theorem all_any (F : Fl) (b : Nat) (vv vs pv : Value) (w : World) (h : Sty w F b vv vs pv) : Calls Tryz.prog 104 #[.pointer (some ⟨b, 0, none⟩)] w fun e w' => ∃ v, e = .returned v ∧ Below w.heap.size w w' ∧ Ints w' v (allL F) :=
  (all_anyC F b vv vs pv w h).mono fun _ _ ⟨v, a, b, c, _⟩ => ⟨v, a, b, c⟩
end Go.Proofs.YtnfndiafabhhdaaGreat
