/- Walks of Check, of what asks for a season, of Rise and Set. -/
import Derived.Test.YtpjnlcdmbkbfcaaDoorH2
namespace Go.Proofs.YtpjnlcdmbkbfcaaDoor
open Go.ChangeShapes Go.WideShapes Go.ChangeAt Go.RowKit

set_option maxHeartbeats 400000 in
theorem all_any (o : Option Addr) (n c : Nat) (l : List Int) (lo hi : Int) (w : World) (hI : Ints w (.slice o n c) l) (hm : n ≤ 9223372036854775806) :
    Calls Tryd.prog 78 #[.slice o n c, .int .i64 lo, .int .i64 hi] w fun e w' => e = .returned (.bool (allB l lo hi)) ∧ w = w' := by
  have HL := Lib.hid hI.len
  have HC := Lib.hid (fun h0 => hI.cells h0)
  clear hI
  go_enter Tryd.func78, Tryd.ntmps78
  go_wp2_with fail
  go_loop [8, 11] (fun _ i => ∃ k : Nat, k ≤ n ∧ i = .int .i64 (k : Int) ∧ Hid (∀ j, j < k → lo ≤ el l j ∧ el l j ≤ hi)) (fun _ i => n - (intOf i).toNat)
  case atStart => exact ⟨0, Nat.zero_le _, rfl, fun j hj => absurd hj (by omega)⟩
  case round =>
    obtain ⟨k, hk, rfl, hall⟩ := hrel
    by_cases h0 : k < n
    · obtain ⟨b, off, rfl, hb, hc⟩ := HC.out (by omega)
      have cc := hc k h0
      clear hc HC
      obtain ⟨x, hx⟩ : ∃ x, l[k]?.getD 0 = x := ⟨_, rfl⟩
      rw [hx] at cc
      have HX := Lib.hid hx; clear hx
      cases hin : inB x lo hi
      · go_wp2_with (go_at_call 77; (with_reducible refine (within_any _ _ _ _).mono ?_); rintro e w' ⟨rfl, rfl⟩)
        go_ret
        have := inB_f hin
        exact ⟨ret_bool (allB_not (k := k) (by rw [HL.out]; exact h0) (by simp only [el, HX.out]; exact this)).symm, rfl⟩
      · go_wp2_with (go_at_call 77; (with_reducible refine (within_any _ _ _ _).mono ?_); rintro e w' ⟨rfl, rfl⟩)
        have := inB_t hin
        exact ⟨⟨k + 1, by omega, by go_num, fun j hj => by
          rcases Nat.lt_or_ge j k with h | h
          · exact hall.out j h
          · obtain rfl : j = k := by omega
            simp only [el, HX.out]; exact this⟩, by simp [intOf]; omega⟩
    · obtain rfl : k = n := by omega
      go_wp2_with (go_at_call 77; (with_reducible refine (within_any _ _ _ _).mono ?_); rintro e w' ⟨rfl, rfl⟩)
      go_ret
      exact ⟨ret_bool (allB_of (fun j hj => hall.out j (by rw [← HL.out]; exact hj))).symm, rfl⟩

set_option maxHeartbeats 1000000 in
theorem Check_any (S : Sea) (vd vr vs : Value) (w : World) (hd : Ints w vd S.d) (hr : Ints w vr S.r) (hs : Ints w vs S.s) :
    Calls Tryd.prog 26 #[.agg #[.int .i64 S.L, vd, vr, vs]] w fun e w' => e = .returned (.int .i64 (chk S)) ∧ Below w.heap.size w w' := by
  obtain ⟨od, nd, cd, rfl, ld, md⟩ := hd.parts
  obtain ⟨or_, nr, cr, rfl, lr, mr⟩ := hr.parts
  obtain ⟨os, ns, cs, rfl, ls, ms⟩ := hs.parts
  cases c1 : inB S.L 360 366
  · have hno : Hid (chk S = 50) := by have := inB_f c1; simp [Hid, chk, vld]; omega
    go_enter Tryd.func26, Tryd.ntmps26
    go_wp2_with (go_at_call 77; (with_reducible refine (within_any _ _ _ _).mono ?_); rintro e w' ⟨rfl, rfl⟩)
    go_ret
    exact ⟨ret_int hno.out.symm, (by repeat (first | exact Below.refl _ _ | assumption | refine bthen ?_ (by assumption) | refine Below.alloc ?_ (by first | exact Nat.le_refl _ | (simp; done) | (simp; omega) | omega) _ | refine Below.setCell ?_ (by first | exact Nat.le_refl _ | (simp; done) | (simp; omega) | omega) _ | refine below_drewN ?_ _ | refine Below.drew ?_))⟩
  cases c2 : inB (nd : Int) 1 24
  · have hno : Hid (chk S = 50) := by have := inB_f c2; have := ld.out; simp [Hid, chk, vld]; omega
    go_enter Tryd.func26, Tryd.ntmps26
    go_wp2_with (go_at_call 77; (with_reducible refine (within_any _ _ _ _).mono ?_); rintro e w' ⟨rfl, rfl⟩)
    go_ret
    exact ⟨ret_int hno.out.symm, (by repeat (first | exact Below.refl _ _ | assumption | refine bthen ?_ (by assumption) | refine Below.alloc ?_ (by first | exact Nat.le_refl _ | (simp; done) | (simp; omega) | omega) _ | refine Below.setCell ?_ (by first | exact Nat.le_refl _ | (simp; done) | (simp; omega) | omega) _ | refine below_drewN ?_ _ | refine Below.drew ?_))⟩
  cases c3 : ((nr : Int) != nd)
  · cases c4 : ((ns : Int) != nd)
    · obtain ⟨n1, n2⟩ := inB_t c2
      have hds := hd.alloc (Obj.cells #[.int .i64 S.L, .slice od nd cd, .slice or_ nr cr, .slice os ns cs] 24)
      have hrs := hr.alloc (Obj.cells #[.int .i64 S.L, .slice od nd cd, .slice or_ nr cr, .slice os ns cs] 24)
      have hss := hs.alloc (Obj.cells #[.int .i64 S.L, .slice od nd cd, .slice or_ nr cr, .slice os ns cs] 24)
      obtain ⟨l1, l2⟩ := inB_t c1
      have HD := Lib.hid hd; clear hd
      have HDS := Lib.hid hds; clear hds
      have HRS := Lib.hid hrs; clear hrs
      have HSS := Lib.hid hss; clear hss
      clear hr hs
      have br : nr ≤ 24 := by have := ld.out; simp at c3; omega
      have bs : ns ≤ 24 := by have := ld.out; simp at c4; omega
      have bd : nd ≤ 24 := by omega
      cases c5 : allB S.d 0 (S.L - 1)
      · have hno : Hid (chk S = 50) := by simp [Hid, chk, vld, c5]
        go_enter Tryd.func26, Tryd.ntmps26
        go_wp2_with (first | (go_at_call 77; (with_reducible refine (within_any _ _ _ _).mono ?_); rintro e w' ⟨rfl, rfl⟩) | (go_at_call 78; (with_reducible refine (all_any od nd cd S.d _ _ _ HDS.out (by omega)).mono ?_); rintro e w' ⟨rfl, rfl⟩) | (go_at_call 78; (with_reducible refine (all_any or_ nr cr S.r _ _ _ HRS.out (by omega)).mono ?_); rintro e w' ⟨rfl, rfl⟩) | (go_at_call 78; (with_reducible refine (all_any os ns cs S.s _ _ _ HSS.out (by omega)).mono ?_); rintro e w' ⟨rfl, rfl⟩))
        go_ret
        exact ⟨ret_int hno.out.symm, (by repeat (first | exact Below.refl _ _ | assumption | refine bthen ?_ (by assumption) | refine Below.alloc ?_ (by first | exact Nat.le_refl _ | (simp; done) | (simp; omega) | omega) _ | refine Below.setCell ?_ (by first | exact Nat.le_refl _ | (simp; done) | (simp; omega) | omega) _ | refine below_drewN ?_ _ | refine Below.drew ?_))⟩
      cases c6 : allB S.r 60 700
      · have hno : Hid (chk S = 50) := by simp [Hid, chk, vld, c6]
        go_enter Tryd.func26, Tryd.ntmps26
        go_wp2_with (first | (go_at_call 77; (with_reducible refine (within_any _ _ _ _).mono ?_); rintro e w' ⟨rfl, rfl⟩) | (go_at_call 78; (with_reducible refine (all_any od nd cd S.d _ _ _ HDS.out (by omega)).mono ?_); rintro e w' ⟨rfl, rfl⟩) | (go_at_call 78; (with_reducible refine (all_any or_ nr cr S.r _ _ _ HRS.out (by omega)).mono ?_); rintro e w' ⟨rfl, rfl⟩) | (go_at_call 78; (with_reducible refine (all_any os ns cs S.s _ _ _ HSS.out (by omega)).mono ?_); rintro e w' ⟨rfl, rfl⟩))
        go_ret
        exact ⟨ret_int hno.out.symm, (by repeat (first | exact Below.refl _ _ | assumption | refine bthen ?_ (by assumption) | refine Below.alloc ?_ (by first | exact Nat.le_refl _ | (simp; done) | (simp; omega) | omega) _ | refine Below.setCell ?_ (by first | exact Nat.le_refl _ | (simp; done) | (simp; omega) | omega) _ | refine below_drewN ?_ _ | refine Below.drew ?_))⟩
      cases c7 : allB S.s 740 1380
      · have hno : Hid (chk S = 50) := by simp [Hid, chk, vld, c7]
        go_enter Tryd.func26, Tryd.ntmps26
        go_wp2_with (first | (go_at_call 77; (with_reducible refine (within_any _ _ _ _).mono ?_); rintro e w' ⟨rfl, rfl⟩) | (go_at_call 78; (with_reducible refine (all_any od nd cd S.d _ _ _ HDS.out (by omega)).mono ?_); rintro e w' ⟨rfl, rfl⟩) | (go_at_call 78; (with_reducible refine (all_any or_ nr cr S.r _ _ _ HRS.out (by omega)).mono ?_); rintro e w' ⟨rfl, rfl⟩) | (go_at_call 78; (with_reducible refine (all_any os ns cs S.s _ _ _ HSS.out (by omega)).mono ?_); rintro e w' ⟨rfl, rfl⟩))
        go_ret
        exact ⟨ret_int hno.out.symm, (by repeat (first | exact Below.refl _ _ | assumption | refine bthen ?_ (by assumption) | refine Below.alloc ?_ (by first | exact Nat.le_refl _ | (simp; done) | (simp; omega) | omega) _ | refine Below.setCell ?_ (by first | exact Nat.le_refl _ | (simp; done) | (simp; omega) | omega) _ | refine below_drewN ?_ _ | refine Below.drew ?_))⟩
      have hfin : Hid (vld S = risesB S.d nd) := by
        have := ld.out; have := lr.out; have := ls.out; simp at c3 c4
        simp only [Hid, vld, c5, c6, c7, ld.out, lr.out, ls.out, Bool.and_true, decide_eq_true l1, decide_eq_true l2, Bool.true_and]
        rw [decide_eq_true (by omega : 1 ≤ nd), decide_eq_true (by omega : nd ≤ 24), decide_eq_true (by omega : nr = nd), decide_eq_true (by omega : ns = nd)]
        simp
      obtain ⟨b, off, rfl, hb, hcd⟩ := HD.out.cells (by omega)
      have HC := Lib.hid hcd; clear hcd HD
      go_enter Tryd.func26, Tryd.ntmps26
      go_wp2_with (first | (go_at_call 77; (with_reducible refine (within_any _ _ _ _).mono ?_); rintro e w' ⟨rfl, rfl⟩) | (go_at_call 78; (with_reducible refine (all_any (some ⟨b, off, none⟩) nd cd S.d _ _ _ HDS.out (by omega)).mono ?_); rintro e w' ⟨rfl, rfl⟩) | (go_at_call 78; (with_reducible refine (all_any or_ nr cr S.r _ _ _ HRS.out (by omega)).mono ?_); rintro e w' ⟨rfl, rfl⟩) | (go_at_call 78; (with_reducible refine (all_any os ns cs S.s _ _ _ HSS.out (by omega)).mono ?_); rintro e w' ⟨rfl, rfl⟩))
      clear c1 c2 c3 c4 c5 c6 c7
      go_loopw [4] (fun i wr => ∃ k m : Nat, 1 ≤ k ∧ k ≤ nd ∧ i = .int .i64 (k : Int) ∧ Hid (risesB S.d k = true) ∧ wr = (w.alloc (Obj.cells #[.int .i64 S.L, .slice (some ⟨b, off, none⟩) nd cd, .slice or_ nr cr, .slice os ns cs] 24)).drewN m) (fun i _ => nd - (intOf i).toNat)
      case atStart => exact ⟨1, 0, by omega, by omega, rfl, by simp [Hid, risesB], rfl⟩
      case round =>
        obtain ⟨k, m, hk1, hk, rfl, hup, rfl⟩ := hrel
        by_cases h0 : k < nd
        · have cc := HC.out k h0
          have cp := HC.out (k - 1) (by omega)
          obtain ⟨x, hx⟩ : ∃ x, S.d[k]?.getD 0 = x := ⟨_, rfl⟩
          obtain ⟨y, hy⟩ : ∃ y, S.d[k - 1]?.getD 0 = y := ⟨_, rfl⟩
          rw [hx] at cc
          rw [hy] at cp
          have HX := Lib.hid hx; clear hx
          have HY := Lib.hid hy; clear hy
          by_cases hxy : x ≤ y
          · have hno : Hid (chk S = 50) := by simp only [Hid, chk]; rw [hfin.out, risesB_no (k := k) (by omega) h0 (by simp only [el, HX.out, HY.out]; exact hxy)]; rfl
            go_wp2_with fail
            go_quiet (fail)
            go_wp2_with fail
            go_ret
            exact ⟨ret_int hno.out.symm, (by repeat (first | exact Below.refl _ _ | assumption | refine bthen ?_ (by assumption) | refine Below.alloc ?_ (by first | exact Nat.le_refl _ | (simp; done) | (simp; omega) | omega) _ | refine Below.setCell ?_ (by first | exact Nat.le_refl _ | (simp; done) | (simp; omega) | omega) _ | refine below_drewN ?_ _ | refine Below.drew ?_))⟩
          · have hstep := risesB_step hup.out (by simp only [el, HX.out, HY.out]; omega)
            have HS := Lib.hid hstep; clear hstep
            go_wp2_with fail
            go_quiet (fail)
            go_wp2_with fail
            exact ⟨⟨k + 1, m + _, by omega, by omega, by go_num, HS, rfl⟩, by simp [intOf]; omega⟩
        · have hno : Hid (chk S = 0) := by simp only [Hid, chk]; rw [hfin.out, ← (by omega : k = nd), hup.out]; rfl
          go_wp2_with fail
          go_ret
          exact ⟨ret_int hno.out.symm, (by repeat (first | exact Below.refl _ _ | assumption | refine bthen ?_ (by assumption) | refine Below.alloc ?_ (by first | exact Nat.le_refl _ | (simp; done) | (simp; omega) | omega) _ | refine Below.setCell ?_ (by first | exact Nat.le_refl _ | (simp; done) | (simp; omega) | omega) _ | refine below_drewN ?_ _ | refine Below.drew ?_))⟩
    · have hno : Hid (chk S = 50) := by have := ld.out; have := ls.out; simp at c4; simp [Hid, chk, vld]; omega
      go_enter Tryd.func26, Tryd.ntmps26
      go_wp2_with (go_at_call 77; (with_reducible refine (within_any _ _ _ _).mono ?_); rintro e w' ⟨rfl, rfl⟩)
      go_ret
      exact ⟨ret_int hno.out.symm, (by repeat (first | exact Below.refl _ _ | assumption | refine bthen ?_ (by assumption) | refine Below.alloc ?_ (by first | exact Nat.le_refl _ | (simp; done) | (simp; omega) | omega) _ | refine Below.setCell ?_ (by first | exact Nat.le_refl _ | (simp; done) | (simp; omega) | omega) _ | refine below_drewN ?_ _ | refine Below.drew ?_))⟩
  · have hno : Hid (chk S = 50) := by have := ld.out; have := lr.out; simp at c3; simp [Hid, chk, vld]; omega
    go_enter Tryd.func26, Tryd.ntmps26
    go_wp2_with (go_at_call 77; (with_reducible refine (within_any _ _ _ _).mono ?_); rintro e w' ⟨rfl, rfl⟩)
    go_ret
    exact ⟨ret_int hno.out.symm, (by repeat (first | exact Below.refl _ _ | assumption | refine bthen ?_ (by assumption) | refine Below.alloc ?_ (by first | exact Nat.le_refl _ | (simp; done) | (simp; omega) | omega) _ | refine Below.setCell ?_ (by first | exact Nat.le_refl _ | (simp; done) | (simp; omega) | omega) _ | refine below_drewN ?_ _ | refine Below.drew ?_))⟩


set_option maxHeartbeats 1000000 in
theorem rCheck_any (S : Sea) (vd vr vs : Value) (w : World) (hd : Ints w vd S.d) (hr : Ints w vr S.r) (hs : Ints w vs S.s) :
    Calls Tryd.prog 27 #[.agg #[.int .i64 S.L, vd, vr, vs]] w fun e w' => e = .returned (.int .i64 (chk S)) ∧ Below w.heap.size w w' := by
  obtain ⟨od, nd, cd, rfl, ld, md⟩ := hd.parts
  obtain ⟨or_, nr, cr, rfl, lr, mr⟩ := hr.parts
  obtain ⟨os, ns, cs, rfl, ls, ms⟩ := hs.parts
  cases c1 : inB S.L 360 366
  · have hno : Hid (chk S = 50) := by have := inB_f c1; simp [Hid, chk, vld]; omega
    go_enter Tryd.func27, Tryd.ntmps27
    go_wp2_with (go_at_call 79; (with_reducible refine (rwithin_any _ _ _ _).mono ?_); rintro e w' ⟨rfl, rfl⟩)
    go_ret
    exact ⟨ret_int hno.out.symm, (by repeat (first | exact Below.refl _ _ | assumption | refine bthen ?_ (by assumption) | refine Below.alloc ?_ (by first | exact Nat.le_refl _ | (simp; done) | (simp; omega) | omega) _ | refine Below.setCell ?_ (by first | exact Nat.le_refl _ | (simp; done) | (simp; omega) | omega) _ | refine below_drewN ?_ _ | refine Below.drew ?_))⟩
  cases c2 : inB (nd : Int) 1 24
  · have hno : Hid (chk S = 50) := by have := inB_f c2; have := ld.out; simp [Hid, chk, vld]; omega
    go_enter Tryd.func27, Tryd.ntmps27
    go_wp2_with (go_at_call 79; (with_reducible refine (rwithin_any _ _ _ _).mono ?_); rintro e w' ⟨rfl, rfl⟩)
    go_ret
    exact ⟨ret_int hno.out.symm, (by repeat (first | exact Below.refl _ _ | assumption | refine bthen ?_ (by assumption) | refine Below.alloc ?_ (by first | exact Nat.le_refl _ | (simp; done) | (simp; omega) | omega) _ | refine Below.setCell ?_ (by first | exact Nat.le_refl _ | (simp; done) | (simp; omega) | omega) _ | refine below_drewN ?_ _ | refine Below.drew ?_))⟩
  cases c3 : ((nr : Int) != nd)
  · cases c4 : ((ns : Int) != nd)
    · obtain ⟨n1, n2⟩ := inB_t c2
      obtain ⟨l1, l2⟩ := inB_t c1
      have lrd : Hid (nr = nd) := by simp at c3; simp only [Hid]; omega
      have lsd : Hid (ns = nd) := by simp at c4; simp only [Hid]; omega
      have br : nr ≤ 24 := by have := lrd.out; omega
      have bs : ns ≤ 24 := by have := lsd.out; omega
      have bd : nd ≤ 24 := by omega
      have hv50 : allB S.d 0 (S.L - 1) = false ∨ allB S.r 60 700 = false ∨ allB S.s 740 1380 = false → vld S = false := by
        rintro (h | h | h) <;> simp [vld, h]
      have hvr : ∀ k, 0 < k → k < nd → el S.d k ≤ el S.d (k - 1) → vld S = false := by
        intro k h1 h2 h3
        simp [vld, risesB_no h1 (by rw [ld.out]; exact h2 : k < S.d.length) h3]
      have HVR := Lib.hid hvr; clear hvr
      obtain ⟨b, off, rfl, hb, hcd⟩ := hd.cells (by omega)
      have HC := Lib.hid hcd; clear hcd hd
      obtain ⟨b2, off2, rfl, hb2, hcr⟩ := hr.cells (by have := lrd.out; omega)
      have HR := Lib.hid hcr; clear hcr hr
      obtain ⟨b3, off3, rfl, hb3, hcs⟩ := hs.cells (by have := lsd.out; omega)
      have HS := Lib.hid hcs; clear hcs hs
      have HV50 := Lib.hid hv50; clear hv50
      go_enter Tryd.func27, Tryd.ntmps27
      go_wp2_with (go_at_call 79; (with_reducible refine (rwithin_any _ _ _ _).mono ?_); rintro e w' ⟨rfl, rfl⟩)
      clear c1 c2 c3 c4
      go_loopw [4] (fun i wr => ∃ k m : Nat, k ≤ nd ∧ i = .int .i64 (k : Int) ∧ Hid (risesB S.d k = true ∧ ∀ j, j < k → (0 ≤ el S.d j ∧ el S.d j ≤ S.L - 1) ∧ (60 ≤ el S.r j ∧ el S.r j ≤ 700) ∧ (740 ≤ el S.s j ∧ el S.s j ≤ 1380)) ∧ wr = (w.alloc (Obj.cells #[.int .i64 S.L, .slice (some ⟨b, off, none⟩) nd cd, .slice (some ⟨b2, off2, none⟩) nr cr, .slice (some ⟨b3, off3, none⟩) ns cs] 24)).drewN m) (fun i _ => nd - (intOf i).toNat)
      case atStart => exact ⟨0, 0, by omega, rfl, ⟨rfl, fun j hj => absurd hj (by omega)⟩, rfl⟩
      case round =>
        obtain ⟨k, m, hk, rfl, hall, rfl⟩ := hrel
        by_cases h0 : k < nd
        · have hr0 : k < nr := by have := lrd.out; omega
          have hs0 : k < ns := by have := lsd.out; omega
          have cc := HC.out k h0
          have cu := HR.out k hr0
          have cv := HS.out k hs0
          obtain ⟨x, hx⟩ : ∃ x, S.d[k]?.getD 0 = x := ⟨_, rfl⟩
          obtain ⟨u, hu⟩ : ∃ x, S.r[k]?.getD 0 = x := ⟨_, rfl⟩
          obtain ⟨v, hv⟩ : ∃ x, S.s[k]?.getD 0 = x := ⟨_, rfl⟩
          rw [hx] at cc
          rw [hu] at cu
          rw [hv] at cv
          have HX := Lib.hid hx; clear hx
          have HU := Lib.hid hu; clear hu
          have HV := Lib.hid hv; clear hv
          cases b1 : inB x 0 (S.L - 1)
          · have hno : Hid (chk S = 50) := by
              have hb1 := inB_f b1
              simp only [Hid, chk]; rw [HV50.out (.inl (allB_not (k := k) (by rw [ld.out]; exact h0) (by simp only [el, HX.out]; exact hb1)))]; rfl
            go_wp2_with fail
            go_quiet ((go_at_call 79; exact quiet_add_left (rwithin_any _ _ _ _)))
            go_wp2_with fail
            go_ret
            exact ⟨ret_int hno.out.symm, (by repeat (first | exact Below.refl _ _ | assumption | refine bthen ?_ (by assumption) | refine Below.alloc ?_ (by first | exact Nat.le_refl _ | (simp; done) | (simp; omega) | omega) _ | refine Below.setCell ?_ (by first | exact Nat.le_refl _ | (simp; done) | (simp; omega) | omega) _ | refine below_drewN ?_ _ | refine Below.drew ?_))⟩
          by_cases hk0 : k = 0
          · subst hk0
            simp only [Nat.add_zero] at cc cu cv
            cases b3 : inB u 60 700
            · have hno : Hid (chk S = 50) := by
                have hb3 := inB_f b3
                simp only [Hid, chk]; rw [HV50.out (.inr (.inl (allB_not (k := 0) (by rw [lr.out]; exact hr0) (by simp only [el, HU.out]; exact hb3))))]; rfl
              go_wp2_with fail
              go_quiet ((go_at_call 79; exact quiet_add_left (rwithin_any _ _ _ _)))
              go_wp2_with fail
              go_ret
              exact ⟨ret_int hno.out.symm, (by repeat (first | exact Below.refl _ _ | assumption | refine bthen ?_ (by assumption) | refine Below.alloc ?_ (by first | exact Nat.le_refl _ | (simp; done) | (simp; omega) | omega) _ | refine Below.setCell ?_ (by first | exact Nat.le_refl _ | (simp; done) | (simp; omega) | omega) _ | refine below_drewN ?_ _ | refine Below.drew ?_))⟩
            cases b4 : inB v 740 1380
            · have hno : Hid (chk S = 50) := by
                have hb4 := inB_f b4
                simp only [Hid, chk]; rw [HV50.out (.inr (.inr (allB_not (k := 0) (by rw [ls.out]; exact hs0) (by simp only [el, HV.out]; exact hb4))))]; rfl
              go_wp2_with fail
              go_quiet ((go_at_call 79; exact quiet_add_left (rwithin_any _ _ _ _)))
              go_wp2_with fail
              go_ret
              exact ⟨ret_int hno.out.symm, (by repeat (first | exact Below.refl _ _ | assumption | refine bthen ?_ (by assumption) | refine Below.alloc ?_ (by first | exact Nat.le_refl _ | (simp; done) | (simp; omega) | omega) _ | refine Below.setCell ?_ (by first | exact Nat.le_refl _ | (simp; done) | (simp; omega) | omega) _ | refine below_drewN ?_ _ | refine Below.drew ?_))⟩
            go_wp2_with fail
            go_quiet ((go_at_call 79; exact quiet_add_left (rwithin_any _ _ _ _)))
            go_wp2_with fail
            have hb1 := inB_t b1
            have hb3 := inB_t b3
            have hb4 := inB_t b4
            exact ⟨⟨1, m + _, by omega, rfl, ⟨by simp [risesB], fun j hj => by
              obtain rfl : j = 0 := by omega
              simp only [el, HX.out, HU.out, HV.out]; exact ⟨hb1, hb3, hb4⟩⟩, rfl⟩, by simp [intOf]; omega⟩
          · have hkk : 0 < k := by omega
            have cp := HC.out (k - 1) (by omega)
            obtain ⟨y, hy⟩ : ∃ y, S.d[k - 1]?.getD 0 = y := ⟨_, rfl⟩
            rw [hy] at cp
            have HY := Lib.hid hy; clear hy
            by_cases hxy : x ≤ y
            · have hno : Hid (chk S = 50) := by simp only [Hid, chk]; rw [HVR.out k hkk h0 (by simp only [el, HX.out, HY.out]; exact hxy)]; rfl
              go_wp2_with fail
              go_quiet ((go_at_call 79; exact quiet_add_left (rwithin_any _ _ _ _)))
              go_wp2_with fail
              go_ret
              exact ⟨ret_int hno.out.symm, (by repeat (first | exact Below.refl _ _ | assumption | refine bthen ?_ (by assumption) | refine Below.alloc ?_ (by first | exact Nat.le_refl _ | (simp; done) | (simp; omega) | omega) _ | refine Below.setCell ?_ (by first | exact Nat.le_refl _ | (simp; done) | (simp; omega) | omega) _ | refine below_drewN ?_ _ | refine Below.drew ?_))⟩
            · have hstep : Hid (risesB S.d (k + 1) = true) := risesB_step hall.out.1 (by simp only [el, HX.out, HY.out]; omega)
              have hxd : decide (x ≤ y) = false := by simpa using hxy
              cases b3 : inB u 60 700
              · have hno : Hid (chk S = 50) := by
                  have hb3 := inB_f b3
                  simp only [Hid, chk]; rw [HV50.out (.inr (.inl (allB_not (k := k) (by rw [lr.out]; exact hr0) (by simp only [el, HU.out]; exact hb3))))]; rfl
                go_wp2_with fail
                go_quiet ((go_at_call 79; exact quiet_add_left (rwithin_any _ _ _ _)))
                go_wp2_with fail
                go_ret
                exact ⟨ret_int hno.out.symm, (by repeat (first | exact Below.refl _ _ | assumption | refine bthen ?_ (by assumption) | refine Below.alloc ?_ (by first | exact Nat.le_refl _ | (simp; done) | (simp; omega) | omega) _ | refine Below.setCell ?_ (by first | exact Nat.le_refl _ | (simp; done) | (simp; omega) | omega) _ | refine below_drewN ?_ _ | refine Below.drew ?_))⟩
              cases b4 : inB v 740 1380
              · have hno : Hid (chk S = 50) := by
                  have hb4 := inB_f b4
                  simp only [Hid, chk]; rw [HV50.out (.inr (.inr (allB_not (k := k) (by rw [ls.out]; exact hs0) (by simp only [el, HV.out]; exact hb4))))]; rfl
                go_wp2_with fail
                go_quiet ((go_at_call 79; exact quiet_add_left (rwithin_any _ _ _ _)))
                go_wp2_with fail
                go_ret
                exact ⟨ret_int hno.out.symm, (by repeat (first | exact Below.refl _ _ | assumption | refine bthen ?_ (by assumption) | refine Below.alloc ?_ (by first | exact Nat.le_refl _ | (simp; done) | (simp; omega) | omega) _ | refine Below.setCell ?_ (by first | exact Nat.le_refl _ | (simp; done) | (simp; omega) | omega) _ | refine below_drewN ?_ _ | refine Below.drew ?_))⟩
              go_wp2_with fail
              go_quiet ((go_at_call 79; exact quiet_add_left (rwithin_any _ _ _ _)))
              go_wp2_with fail
              have hb1 := inB_t b1
              have hb3 := inB_t b3
              have hb4 := inB_t b4
              exact ⟨⟨k + 1, m + _, by omega, by go_num, ⟨hstep.out, fun j hj => by
                rcases Nat.lt_or_ge j k with h | h
                · exact hall.out.2 j h
                · obtain rfl : j = k := by omega
                  simp only [el, HX.out, HU.out, HV.out]; exact ⟨hb1, hb3, hb4⟩⟩, rfl⟩, by simp [intOf]; omega⟩
        · have hno : Hid (chk S = 0) := by
            have h1 := lrd.out; have h2 := lsd.out; have h3 := ld.out; have h4 := lr.out; have h5 := ls.out
            obtain rfl : k = nd := by omega
            have v : Vld S := ⟨l1, l2, by omega, by omega, by omega, by omega, allB_of fun j hj => (hall.out.2 j (by omega)).1, allB_of fun j hj => (hall.out.2 j (by omega)).2.1, allB_of fun j hj => (hall.out.2 j (by omega)).2.2, by rw [h3]; exact hall.out.1⟩
            simp only [Hid, chk]; rw [(vld_iff S).2 v]; rfl
          go_wp2_with fail
          go_ret
          exact ⟨ret_int hno.out.symm, (by repeat (first | exact Below.refl _ _ | assumption | refine bthen ?_ (by assumption) | refine Below.alloc ?_ (by first | exact Nat.le_refl _ | (simp; done) | (simp; omega) | omega) _ | refine Below.setCell ?_ (by first | exact Nat.le_refl _ | (simp; done) | (simp; omega) | omega) _ | refine below_drewN ?_ _ | refine Below.drew ?_))⟩
    · have hno : Hid (chk S = 50) := by have := ld.out; have := ls.out; simp at c4; simp [Hid, chk, vld]; omega
      go_enter Tryd.func27, Tryd.ntmps27
      go_wp2_with (go_at_call 79; (with_reducible refine (rwithin_any _ _ _ _).mono ?_); rintro e w' ⟨rfl, rfl⟩)
      go_ret
      exact ⟨ret_int hno.out.symm, (by repeat (first | exact Below.refl _ _ | assumption | refine bthen ?_ (by assumption) | refine Below.alloc ?_ (by first | exact Nat.le_refl _ | (simp; done) | (simp; omega) | omega) _ | refine Below.setCell ?_ (by first | exact Nat.le_refl _ | (simp; done) | (simp; omega) | omega) _ | refine below_drewN ?_ _ | refine Below.drew ?_))⟩
  · have hno : Hid (chk S = 50) := by have := ld.out; have := lr.out; simp at c3; simp [Hid, chk, vld]; omega
    go_enter Tryd.func27, Tryd.ntmps27
    go_wp2_with (go_at_call 79; (with_reducible refine (rwithin_any _ _ _ _).mono ?_); rintro e w' ⟨rfl, rfl⟩)
    go_ret
    exact ⟨ret_int hno.out.symm, (by repeat (first | exact Below.refl _ _ | assumption | refine bthen ?_ (by assumption) | refine Below.alloc ?_ (by first | exact Nat.le_refl _ | (simp; done) | (simp; omega) | omega) _ | refine Below.setCell ?_ (by first | exact Nat.le_refl _ | (simp; done) | (simp; omega) | omega) _ | refine below_drewN ?_ _ | refine Below.drew ?_))⟩
end Go.Proofs.YtpjnlcdmbkbfcaaDoor
