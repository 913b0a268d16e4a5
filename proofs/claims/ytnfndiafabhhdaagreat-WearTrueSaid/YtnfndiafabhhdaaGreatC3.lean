/- Walk of wear's region.pair: a line from below and one from above (Wear). -/
import Derived.Test.YtnfndiafabhhdaaGreatC2
namespace Go.Proofs.YtnfndiafabhhdaaGreat
open Go.ChangeShapes Go.WideShapes Go.ChangeAt Go.RowKit
theorem bd_of_lo {r : Rn} (h : RnB r) : BdB r.lo := ⟨Int.le_of_lt h.a0, by have := h.a1; omega, h.b0, by have := h.b1; omega⟩
theorem bd_of_hi {r : Rn} (h : RnB r) : BdB r.hi := ⟨Int.le_of_lt h.c0, by have := h.c1; omega, h.d0, by have := h.d1; omega⟩
set_option maxHeartbeats 2000000 in
theorem pair_any (rb : Nat) (r : Rn) (va vb : Value) (l u : Ln) (w : World) (hB : Bk w rb 100 (rnC r va vb)) (hr : RnB r) (hl : LnB l) (hu : LnB u) :
    Calls Tryz.prog 174 #[.pointer (some ⟨rb, 0, none⟩), lnV l, lnV u] w fun e w' => e = .returned (.tuple #[]) ∧ Bes rb w w' ∧ Bk w' rb 100 (rnC (pairW r l u) va vb) := by
  have hlt := hB.lt
  have hlt2 : rb < w.heap.size + 1 + 1 := by omega
  have c8 := hB.cell 8
  have f8 := hB.frozen 8
  simp only [rnC, List.getElem?_cons_zero, List.getElem?_cons_succ] at c8
  have hB := Lib.hid hB
  obtain ⟨⟨n1, n2⟩, d1, d2⟩ := ln_bd hl hu
  have kb : (-2097152 ≤ l.k - u.k ∧ l.k - u.k ≤ 2097152) ∧ (0 ≤ l.k ∧ l.k ≤ 2097152) ∧ (0 ≤ u.k ∧ u.k ≤ 2097152) := by
    have := hl.k0; have := hl.k1; have := hu.k0; have := hu.k1; omega
  have HL : ∀ w : World, _ := fun w => wless_any u.n u.d l.n l.d w (by have := mul_bd hu.n0 hu.n1 (Int.le_of_lt hl.d0) hl.d1; omega) (by have := mul_bd hl.n0 hl.n1 (Int.le_of_lt hu.d0) hu.d1; omega) (by have := mul_bd (Int.le_of_lt hu.d0) hu.d1 (Int.le_of_lt hl.d0) hl.d1; omega)
  have HLO := Lib.hid (bd_of_lo hr)
  have HHI := Lib.hid (bd_of_hi hr)
  have HP := Lib.hid (rfl : pairW r l u = pairW r l u)
  obtain ⟨lk, ln, ld, ls⟩ := l
  obtain ⟨uk, un, ud, us⟩ := u
  obtain ⟨lo, hi, re⟩ := r
  simp only [lnN, lnD] at n1 n2 d1 d2
  simp only at kb c8 HLO HHI
  obtain ⟨⟨kb1, kb2⟩, ⟨kb3, kb4⟩, kb5, kb6⟩ := kb
  obtain ⟨N, hN⟩ : ∃ x, un * ld - ln * ud = x := ⟨_, rfl⟩
  obtain ⟨D, hD⟩ : ∃ x, ld * ud = x := ⟨_, rfl⟩
  have hD' : ud * ld = D := by rw [Int.mul_comm]; exact hD
  have hlN : ∀ s s' : Bool, lnN ⟨lk, ln, ld, s⟩ ⟨uk, un, ud, s'⟩ = N := fun _ _ => hN
  have hlD : ∀ s s' : Bool, lnD ⟨lk, ln, ld, s⟩ ⟨uk, un, ud, s'⟩ = D := fun _ _ => hD
  rw [hN] at n1 n2
  rw [hD] at d1 d2
  simp only [hN, hD'] at HL
  have HLL := Lib.hid HL; clear HL
  clear hN hD hD' hr hl hu HP
  obtain ⟨K, hK⟩ : ∃ x, lk - uk = x := ⟨_, rfl⟩
  rw [hK] at kb1 kb2
  have hP : pairW ⟨lo, hi, re⟩ ⟨lk, ln, ld, ls⟩ ⟨uk, un, ud, us⟩ = if K = 0 then ⟨lo, hi, re || decide (N < 0) || (decide (N = 0) && (ls || us))⟩
      else if 0 < K ∧ N ≤ 0 then ⟨lo, hi, true⟩
      else if 0 < K then ⟨lo, mnW hi ⟨N, D * K, ls || us⟩, re⟩
      else if N < 0 then ⟨mxW lo ⟨-N, D * -K, ls || us⟩, hi, re⟩ else ⟨lo, hi, re⟩ := by
    simp only [pairW, hlN, hlD, hK]
  clear hlN hlD
  rcases Int.lt_trichotomy K 0 with hk | hk | hk
  · rw [if_neg (by omega), if_neg (by omega), if_neg (by omega)] at hP
    by_cases hn : N < 0
    · have m1 := mul_bd (a := D) (b := -K) (A := 1000000) (B := 2097152) (by omega) d2 (by omega) (by omega)
      have m2 : 0 < D * -K := Int.mul_pos d1 (by omega)
      rw [if_pos hn] at hP
      cases ls
      · cases us
        · have HR := Lib.hid hP; clear hP
          go_enter Tryz.func174, Tryz.ntmps174
          go_wp2_with fail
          refine (HLL.out _).mono ?_
          rintro e w1 ⟨rfl, hb1⟩
          obtain ⟨hc1, hf1⟩ := bcell hb1
          go_wp2_with fail
          refine (least_any rb ⟨lo, hi, re⟩ va vb ⟨-N, D * -K, false⟩ _ (hB.out.below (bafter (bafter hb1))) HLO.out ⟨by simp only; omega, by simp only; omega, by simp only; omega, by simp only; omega⟩).mono ?_
          rintro e w2 ⟨rfl, hbs, hbk⟩
          go_wp2_with fail
          go_end0
          refine ⟨rfl, (bes_of rb (bafter (bafter hb1))).trans hbs, ?_⟩
          rw [HR.out]
          exact hbk
        · have HR := Lib.hid hP; clear hP
          go_enter Tryz.func174, Tryz.ntmps174
          go_wp2_with fail
          refine (HLL.out _).mono ?_
          rintro e w1 ⟨rfl, hb1⟩
          obtain ⟨hc1, hf1⟩ := bcell hb1
          go_wp2_with fail
          refine (least_any rb ⟨lo, hi, re⟩ va vb ⟨-N, D * -K, true⟩ _ (hB.out.below (bafter (bafter hb1))) HLO.out ⟨by simp only; omega, by simp only; omega, by simp only; omega, by simp only; omega⟩).mono ?_
          rintro e w2 ⟨rfl, hbs, hbk⟩
          go_wp2_with fail
          go_end0
          refine ⟨rfl, (bes_of rb (bafter (bafter hb1))).trans hbs, ?_⟩
          rw [HR.out]
          exact hbk
      · have HR := Lib.hid hP; clear hP
        go_enter Tryz.func174, Tryz.ntmps174
        go_wp2_with fail
        refine (HLL.out _).mono ?_
        rintro e w1 ⟨rfl, hb1⟩
        obtain ⟨hc1, hf1⟩ := bcell hb1
        go_wp2_with fail
        refine (least_any rb ⟨lo, hi, re⟩ va vb ⟨-N, D * -K, true⟩ _ (hB.out.below (bafter (bafter hb1))) HLO.out ⟨by simp only; omega, by simp only; omega, by simp only; omega, by simp only; omega⟩).mono ?_
        rintro e w2 ⟨rfl, hbs, hbk⟩
        go_wp2_with fail
        go_end0
        refine ⟨rfl, (bes_of rb (bafter (bafter hb1))).trans hbs, ?_⟩
        rw [HR.out]
        exact hbk
    · rw [if_neg hn] at hP
      cases ls
      · cases us
        · have HR := Lib.hid hP; clear hP
          go_enter Tryz.func174, Tryz.ntmps174
          go_wp2_with fail
          refine (HLL.out _).mono ?_
          rintro e w1 ⟨rfl, hb1⟩
          obtain ⟨hc1, hf1⟩ := bcell hb1
          go_wp2_with fail
          go_end0
          refine ⟨rfl, ?_, ?_⟩
          · exact bes_of rb (bafter (bafter hb1))
          · rw [HR.out]
            exact hB.out.below (bafter (bafter hb1))
        · have HR := Lib.hid hP; clear hP
          go_enter Tryz.func174, Tryz.ntmps174
          go_wp2_with fail
          refine (HLL.out _).mono ?_
          rintro e w1 ⟨rfl, hb1⟩
          obtain ⟨hc1, hf1⟩ := bcell hb1
          go_wp2_with fail
          go_end0
          refine ⟨rfl, ?_, ?_⟩
          · exact bes_of rb (bafter (bafter hb1))
          · rw [HR.out]
            exact hB.out.below (bafter (bafter hb1))
      · have HR := Lib.hid hP; clear hP
        go_enter Tryz.func174, Tryz.ntmps174
        go_wp2_with fail
        refine (HLL.out _).mono ?_
        rintro e w1 ⟨rfl, hb1⟩
        obtain ⟨hc1, hf1⟩ := bcell hb1
        go_wp2_with fail
        go_end0
        refine ⟨rfl, ?_, ?_⟩
        · exact bes_of rb (bafter (bafter hb1))
        · rw [HR.out]
          exact hB.out.below (bafter (bafter hb1))
  · rw [if_pos hk] at hP
    have hk0 : (K == 0) = true := by simpa using hk
    rcases bool_ft re with he | he
    · subst he
      rw [Bool.false_or] at hP
      by_cases hn : N < 0
      · have hn1 : decide (N < 0) = true := by simpa using hn
        rw [hn1, Bool.true_or] at hP
        cases ls
        · cases us
          · have HR := Lib.hid hP; clear hP
            go_enter Tryz.func174, Tryz.ntmps174
            go_wp2_with fail
            refine (HLL.out _).mono ?_
            rintro e w1 ⟨rfl, hb1⟩
            obtain ⟨hc1, hf1⟩ := bcell hb1
            go_wp2_with fail
            go_end0
            refine ⟨rfl, ?_, ?_⟩
            · exact (bes_of rb (bafter (bafter hb1))).setCell 8 _
            · rw [HR.out]
              exact (hB.out.below (bafter (bafter hb1))).set 8 _
          · have HR := Lib.hid hP; clear hP
            go_enter Tryz.func174, Tryz.ntmps174
            go_wp2_with fail
            refine (HLL.out _).mono ?_
            rintro e w1 ⟨rfl, hb1⟩
            obtain ⟨hc1, hf1⟩ := bcell hb1
            go_wp2_with fail
            go_end0
            refine ⟨rfl, ?_, ?_⟩
            · exact (bes_of rb (bafter (bafter hb1))).setCell 8 _
            · rw [HR.out]
              exact (hB.out.below (bafter (bafter hb1))).set 8 _
        · have HR := Lib.hid hP; clear hP
          go_enter Tryz.func174, Tryz.ntmps174
          go_wp2_with fail
          refine (HLL.out _).mono ?_
          rintro e w1 ⟨rfl, hb1⟩
          obtain ⟨hc1, hf1⟩ := bcell hb1
          go_wp2_with fail
          go_end0
          refine ⟨rfl, ?_, ?_⟩
          · exact (bes_of rb (bafter (bafter hb1))).setCell 8 _
          · rw [HR.out]
            exact (hB.out.below (bafter (bafter hb1))).set 8 _
      · have hn1 : decide (N < 0) = false := by simpa using hn
        rw [hn1, Bool.false_or] at hP
        by_cases h0 : N = 0
        · have h01 : decide (N = 0) = true := by simpa using h0
          have h02 : (N == 0) = true := by simpa using h0
          rw [h01, Bool.true_and] at hP
          clear h01 h0
          cases ls
          · cases us
            · have HR := Lib.hid hP; clear hP
              go_enter Tryz.func174, Tryz.ntmps174
              go_wp2_with fail
              refine (HLL.out _).mono ?_
              rintro e w1 ⟨rfl, hb1⟩
              obtain ⟨hc1, hf1⟩ := bcell hb1
              go_wp2_with fail
              go_end0
              refine ⟨rfl, ?_, ?_⟩
              · exact (bes_of rb (bafter (bafter hb1))).setCell 8 _
              · rw [HR.out]
                exact (hB.out.below (bafter (bafter hb1))).set 8 _
            · have HR := Lib.hid hP; clear hP
              go_enter Tryz.func174, Tryz.ntmps174
              go_wp2_with fail
              refine (HLL.out _).mono ?_
              rintro e w1 ⟨rfl, hb1⟩
              obtain ⟨hc1, hf1⟩ := bcell hb1
              go_wp2_with fail
              go_end0
              refine ⟨rfl, ?_, ?_⟩
              · exact (bes_of rb (bafter (bafter hb1))).setCell 8 _
              · rw [HR.out]
                exact (hB.out.below (bafter (bafter hb1))).set 8 _
          · have HR := Lib.hid hP; clear hP
            go_enter Tryz.func174, Tryz.ntmps174
            go_wp2_with fail
            refine (HLL.out _).mono ?_
            rintro e w1 ⟨rfl, hb1⟩
            obtain ⟨hc1, hf1⟩ := bcell hb1
            go_wp2_with fail
            go_end0
            refine ⟨rfl, ?_, ?_⟩
            · exact (bes_of rb (bafter (bafter hb1))).setCell 8 _
            · rw [HR.out]
              exact (hB.out.below (bafter (bafter hb1))).set 8 _
        · have h01 : decide (N = 0) = false := by simpa using h0
          have h02 : (N == 0) = false := by simpa using h0
          rw [h01, Bool.false_and] at hP
          clear h01 h0
          cases ls
          · cases us
            · have HR := Lib.hid hP; clear hP
              go_enter Tryz.func174, Tryz.ntmps174
              go_wp2_with fail
              refine (HLL.out _).mono ?_
              rintro e w1 ⟨rfl, hb1⟩
              obtain ⟨hc1, hf1⟩ := bcell hb1
              go_wp2_with fail
              go_end0
              refine ⟨rfl, ?_, ?_⟩
              · exact (bes_of rb (bafter (bafter hb1))).setCell 8 _
              · rw [HR.out]
                exact (hB.out.below (bafter (bafter hb1))).set 8 _
            · have HR := Lib.hid hP; clear hP
              go_enter Tryz.func174, Tryz.ntmps174
              go_wp2_with fail
              refine (HLL.out _).mono ?_
              rintro e w1 ⟨rfl, hb1⟩
              obtain ⟨hc1, hf1⟩ := bcell hb1
              go_wp2_with fail
              go_end0
              refine ⟨rfl, ?_, ?_⟩
              · exact (bes_of rb (bafter (bafter hb1))).setCell 8 _
              · rw [HR.out]
                exact (hB.out.below (bafter (bafter hb1))).set 8 _
          · have HR := Lib.hid hP; clear hP
            go_enter Tryz.func174, Tryz.ntmps174
            go_wp2_with fail
            refine (HLL.out _).mono ?_
            rintro e w1 ⟨rfl, hb1⟩
            obtain ⟨hc1, hf1⟩ := bcell hb1
            go_wp2_with fail
            go_end0
            refine ⟨rfl, ?_, ?_⟩
            · exact (bes_of rb (bafter (bafter hb1))).setCell 8 _
            · rw [HR.out]
              exact (hB.out.below (bafter (bafter hb1))).set 8 _
    · subst he
      rw [Bool.true_or, Bool.true_or] at hP
      cases ls
      · cases us
        · have HR := Lib.hid hP; clear hP
          go_enter Tryz.func174, Tryz.ntmps174
          go_wp2_with fail
          refine (HLL.out _).mono ?_
          rintro e w1 ⟨rfl, hb1⟩
          obtain ⟨hc1, hf1⟩ := bcell hb1
          go_wp2_with fail
          go_end0
          refine ⟨rfl, ?_, ?_⟩
          · exact (bes_of rb (bafter (bafter hb1))).setCell 8 _
          · rw [HR.out]
            exact (hB.out.below (bafter (bafter hb1))).set 8 _
        · have HR := Lib.hid hP; clear hP
          go_enter Tryz.func174, Tryz.ntmps174
          go_wp2_with fail
          refine (HLL.out _).mono ?_
          rintro e w1 ⟨rfl, hb1⟩
          obtain ⟨hc1, hf1⟩ := bcell hb1
          go_wp2_with fail
          go_end0
          refine ⟨rfl, ?_, ?_⟩
          · exact (bes_of rb (bafter (bafter hb1))).setCell 8 _
          · rw [HR.out]
            exact (hB.out.below (bafter (bafter hb1))).set 8 _
      · have HR := Lib.hid hP; clear hP
        go_enter Tryz.func174, Tryz.ntmps174
        go_wp2_with fail
        refine (HLL.out _).mono ?_
        rintro e w1 ⟨rfl, hb1⟩
        obtain ⟨hc1, hf1⟩ := bcell hb1
        go_wp2_with fail
        go_end0
        refine ⟨rfl, ?_, ?_⟩
        · exact (bes_of rb (bafter (bafter hb1))).setCell 8 _
        · rw [HR.out]
          exact (hB.out.below (bafter (bafter hb1))).set 8 _
  · rw [if_neg (by omega)] at hP
    by_cases hn : N ≤ 0
    · rw [if_pos ⟨hk, hn⟩] at hP
      cases ls
      · cases us
        · have HR := Lib.hid hP; clear hP
          go_enter Tryz.func174, Tryz.ntmps174
          go_wp2_with fail
          refine (HLL.out _).mono ?_
          rintro e w1 ⟨rfl, hb1⟩
          obtain ⟨hc1, hf1⟩ := bcell hb1
          go_wp2_with fail
          go_end0
          refine ⟨rfl, ?_, ?_⟩
          · exact (bes_of rb (bafter (bafter hb1))).setCell 8 _
          · rw [HR.out]
            exact (hB.out.below (bafter (bafter hb1))).set 8 _
        · have HR := Lib.hid hP; clear hP
          go_enter Tryz.func174, Tryz.ntmps174
          go_wp2_with fail
          refine (HLL.out _).mono ?_
          rintro e w1 ⟨rfl, hb1⟩
          obtain ⟨hc1, hf1⟩ := bcell hb1
          go_wp2_with fail
          go_end0
          refine ⟨rfl, ?_, ?_⟩
          · exact (bes_of rb (bafter (bafter hb1))).setCell 8 _
          · rw [HR.out]
            exact (hB.out.below (bafter (bafter hb1))).set 8 _
      · have HR := Lib.hid hP; clear hP
        go_enter Tryz.func174, Tryz.ntmps174
        go_wp2_with fail
        refine (HLL.out _).mono ?_
        rintro e w1 ⟨rfl, hb1⟩
        obtain ⟨hc1, hf1⟩ := bcell hb1
        go_wp2_with fail
        go_end0
        refine ⟨rfl, ?_, ?_⟩
        · exact (bes_of rb (bafter (bafter hb1))).setCell 8 _
        · rw [HR.out]
          exact (hB.out.below (bafter (bafter hb1))).set 8 _
    · have m1 := mul_bd (a := D) (b := K) (A := 1000000) (B := 2097152) (by omega) d2 (by omega) (by omega)
      have m2 : 0 < D * K := Int.mul_pos d1 (by omega)
      rw [if_neg (by omega), if_pos hk] at hP
      cases ls
      · cases us
        · have HR := Lib.hid hP; clear hP
          go_enter Tryz.func174, Tryz.ntmps174
          go_wp2_with fail
          refine (HLL.out _).mono ?_
          rintro e w1 ⟨rfl, hb1⟩
          obtain ⟨hc1, hf1⟩ := bcell hb1
          go_wp2_with fail
          refine (most_any rb ⟨lo, hi, re⟩ va vb ⟨N, D * K, false⟩ _ (hB.out.below (bafter (bafter hb1))) HHI.out ⟨by simp only; omega, by simp only; omega, by simp only; omega, by simp only; omega⟩).mono ?_
          rintro e w2 ⟨rfl, hbs, hbk⟩
          go_wp2_with fail
          go_end0
          refine ⟨rfl, (bes_of rb (bafter (bafter hb1))).trans hbs, ?_⟩
          rw [HR.out]
          exact hbk
        · have HR := Lib.hid hP; clear hP
          go_enter Tryz.func174, Tryz.ntmps174
          go_wp2_with fail
          refine (HLL.out _).mono ?_
          rintro e w1 ⟨rfl, hb1⟩
          obtain ⟨hc1, hf1⟩ := bcell hb1
          go_wp2_with fail
          refine (most_any rb ⟨lo, hi, re⟩ va vb ⟨N, D * K, true⟩ _ (hB.out.below (bafter (bafter hb1))) HHI.out ⟨by simp only; omega, by simp only; omega, by simp only; omega, by simp only; omega⟩).mono ?_
          rintro e w2 ⟨rfl, hbs, hbk⟩
          go_wp2_with fail
          go_end0
          refine ⟨rfl, (bes_of rb (bafter (bafter hb1))).trans hbs, ?_⟩
          rw [HR.out]
          exact hbk
      · have HR := Lib.hid hP; clear hP
        go_enter Tryz.func174, Tryz.ntmps174
        go_wp2_with fail
        refine (HLL.out _).mono ?_
        rintro e w1 ⟨rfl, hb1⟩
        obtain ⟨hc1, hf1⟩ := bcell hb1
        go_wp2_with fail
        refine (most_any rb ⟨lo, hi, re⟩ va vb ⟨N, D * K, true⟩ _ (hB.out.below (bafter (bafter hb1))) HHI.out ⟨by simp only; omega, by simp only; omega, by simp only; omega, by simp only; omega⟩).mono ?_
        rintro e w2 ⟨rfl, hbs, hbk⟩
        go_wp2_with fail
        go_end0
        refine ⟨rfl, (bes_of rb (bafter (bafter hb1))).trans hbs, ?_⟩
        rw [HR.out]
        exact hbk
end Go.Proofs.YtnfndiafabhhdaaGreat
