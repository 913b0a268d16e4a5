/- Walk of wear's region.solved: all lines from below against all from above (Wear). -/
import Derived.Test.YtnfndiafabhhdaaGreatC3
import Derived.Test.YtnfndiafabhhdaaGreatA1
import Derived.Laws.Rows
namespace Go.Proofs.YtnfndiafabhhdaaGreat
open Go.ChangeShapes Go.WideShapes Go.ChangeAt Go.RowKit
theorem innerW_bd {B : List Ln} (lB : ∀ u ∈ B, LnB u) {l : Ln} (hl : LnB l) : ∀ {r : Rn}, RnB r → RnB (B.foldl (fun r u => pairW r l u) r) := by
  induction B with
  | nil => intro r h; exact h
  | cons u B ih => intro r h; exact ih (fun x hx => lB x (by simp [hx])) (pairW_bd h hl (lB u (by simp)))
theorem allW_bd {B : List Ln} (lB : ∀ u ∈ B, LnB u) : ∀ {A : List Ln} {r : Rn}, (∀ l ∈ A, LnB l) → RnB r → RnB (allP pairW r A B)
  | [], _, _, h => h
  | l :: A, r, lA, h => allW_bd (A := A) lB (fun x hx => lA x (by simp [hx])) (innerW_bd lB (lA l (by simp)) h)
def lnAt (L : List Ln) (i : Nat) : Ln := L[i]?.getD ⟨0, 0, 1, false⟩
theorem lnAt_mem {L : List Ln} {i : Nat} (h : i < L.length) : lnAt L i ∈ L := by
  simp [lnAt, List.getElem?_eq_getElem h]
theorem lnAt_take {L : List Ln} {i : Nat} (h : i < L.length) : L.take (i + 1) = L.take i ++ [lnAt L i] := by
  rw [List.take_succ_eq_append_getElem h]; simp [lnAt, List.getElem?_eq_getElem h]
def lnF (L : List Ln) (i j : Nat) : Value := match j with
  | 0 => .int .i64 (lnAt L i).k
  | 1 => .int .i64 (lnAt L i).n
  | 2 => .int .i64 (lnAt L i).d
  | _ => .bool (lnAt L i).s
abbrev LnR (w : World) (v : Value) (L : List Ln) : Prop := Row w v 4 L.length (lnF L)
abbrev rnV (r : Rn) (va vb : Value) : Value := .agg #[.int .i64 r.lo.n, .int .i64 r.lo.d, .bool r.lo.s, .int .i64 r.hi.n, .int .i64 r.hi.d, .bool r.hi.s, va, vb, .bool r.e]
def solW (r : Rn) (A B : List Ln) : Rn := ⟨(allP pairW r A B).lo, (allP pairW r A B).hi, !(allP pairW r A B).some⟩
set_option maxHeartbeats 2000000 in
theorem solved_any (r : Rn) (va vb : Value) (A B : List Ln) (w : World) (hA : LnR w va A) (hB : LnR w vb B) (hr : RnB r) (lA : ∀ l ∈ A, LnB l) (lB : ∀ u ∈ B, LnB u) :
    Calls Tryz.prog 134 #[rnV r va vb] w fun e w' => e = .returned (rnV (solW r A B) va vb) ∧ Below w.heap.size w w' := by
  obtain ⟨oa, ca, rfl, ma⟩ := hA.parts
  obtain ⟨ob, cb, rfl, mb⟩ := hB.parts
  obtain ⟨n, hn⟩ : ∃ n, A.length = n := ⟨_, rfl⟩
  obtain ⟨m, hm⟩ : ∃ n, B.length = n := ⟨_, rfl⟩
  have HA := Lib.hid hA; clear hA
  have HB := Lib.hid hB; clear hB
  have HN := Lib.hid hn
  have HM := Lib.hid hm
  rw [hn] at ma ⊢
  rw [hm] at mb ⊢
  have HR := Lib.hid hr
  have LA := Lib.hid lA
  have LB := Lib.hid lB
  clear hn hm hr lA lB
  go_enter Tryz.func134, Tryz.ntmps134
  go_wp2_with fail
  go_loopw [11] (fun i wr => ∃ k : Nat, k ≤ n ∧ i = .int .i64 (k : Int) ∧ Hid (Bk wr w.heap.size 100 (rnC (allP pairW r (A.take k) B) (.slice oa n ca) (.slice ob m cb))) ∧ Hid (Bk wr (w.heap.size + 1) 100 [.int .i64 0, .int .i64 0, .bool false, .int .i64 0, .int .i64 0, .bool false, .slice none 0 0, .slice none 0 0, .bool false]) ∧ Below w.heap.size w wr) (fun i _ => n - (intOf i).toNat)
  case atStart => exact ⟨0, Nat.zero_le _, rfl, (Bk.new w _ (rnC r (.slice oa n ca) (.slice ob m cb))).alloc _, Bk.new1 _ _ _ [.int .i64 0, .int .i64 0, .bool false, .int .i64 0, .int .i64 0, .bool false, .slice none 0 0, .slice none 0 0, .bool false], belw⟩
  case round =>
    obtain ⟨k, hk, rfl, hbk, hbz, hbl⟩ := hrel
    have hz : w.heap.size + 1 < wr.heap.size := hbz.out.lt
    by_cases h0 : k < n
    · have c7 := hbk.out.cell 7
      simp only [rnC, List.getElem?_cons_zero, List.getElem?_cons_succ] at c7
      obtain ⟨ba, fa, rfl, hba, hca⟩ := HA.out.cells (by rw [HN.out]; omega)
      have d0 := (hbl.cell (p := ⟨ba, fa + k * 4, none⟩) hba).trans (hca k 0 (by rw [HN.out]; exact h0) (by omega))
      have d1 := (hbl.cell (p := ⟨ba, fa + k * 4 + 1, none⟩) hba).trans (hca k 1 (by rw [HN.out]; exact h0) (by omega))
      have d2 := (hbl.cell (p := ⟨ba, fa + k * 4 + 2, none⟩) hba).trans (hca k 2 (by rw [HN.out]; exact h0) (by omega))
      have d3 := (hbl.cell (p := ⟨ba, fa + k * 4 + 3, none⟩) hba).trans (hca k 3 (by rw [HN.out]; exact h0) (by omega))
      simp only [lnF] at d0 d1 d2 d3
      clear hca
      have hlk := LA.out _ (lnAt_mem (by rw [HN.out]; exact h0))
      have htk := lnAt_take (L := A) (i := k) (by rw [HN.out]; exact h0)
      have HT := Lib.hid htk; clear htk
      have hrk : RnB (allP pairW r (A.take k) B) := allW_bd LB.out (fun x hx => LA.out x (List.mem_of_mem_take hx)) HR.out
      have hz0 : w.heap.size < wr.heap.size := by omega
      obtain ⟨R, hR⟩ : ∃ R, allP pairW r (A.take k) B = R := ⟨_, rfl⟩
      rw [hR] at hrk
      have HRK := Lib.hid hR; clear hR
      obtain ⟨l, hl⟩ : ∃ l, lnAt A k = l := ⟨_, rfl⟩
      rw [hl] at d0 d1 d2 d3 hlk
      have HLK := Lib.hid hl; clear hl
      go_wp2_with fail
      obtain ⟨wo, rfl⟩ : ∃ wo : World, wo = wr := ⟨_, rfl⟩
      go_loopw [18] (fun i wr2 => ∃ j : Nat, j ≤ m ∧ i = .int .i64 (j : Int) ∧ Hid (Bk wr2 w.heap.size 100 (rnC ((B.take j).foldl (fun r u => pairW r l u) R) (.slice (some ⟨ba, fa, none⟩) n ca) (.slice ob m cb))) ∧ Hid (Bk wr2 (w.heap.size + 1) 100 [.int .i64 0, .int .i64 0, .bool false, .int .i64 0, .int .i64 0, .bool false, .slice none 0 0, .slice none 0 0, .bool false]) ∧ Hid (Bk wr2 wo.heap.size 142 [.int .i64 l.k, .int .i64 l.n, .int .i64 l.d, .bool l.s]) ∧ Below w.heap.size w wr2) (fun i _ => m - (intOf i).toNat)
      case atStart =>
        exact ⟨0, Nat.zero_le _, rfl, by rw [← HRK.out]; exact hbk.out.alloc _, hbz.out.alloc _, Bk.new _ _ _, hbl.alloc (by omega) _⟩
      case round =>
        obtain ⟨j, hj, rfl, hb2, hz2, hl2, hbl2⟩ := hrel
        by_cases h1 : j < m
        · obtain ⟨bb, fb, rfl, hbb, hcb⟩ := HB.out.cells (by rw [HM.out]; omega)
          have e0 := (hbl2.cell (p := ⟨bb, fb + j * 4, none⟩) hbb).trans (hcb j 0 (by rw [HM.out]; exact h1) (by omega))
          have e1 := (hbl2.cell (p := ⟨bb, fb + j * 4 + 1, none⟩) hbb).trans (hcb j 1 (by rw [HM.out]; exact h1) (by omega))
          have e2 := (hbl2.cell (p := ⟨bb, fb + j * 4 + 2, none⟩) hbb).trans (hcb j 2 (by rw [HM.out]; exact h1) (by omega))
          have e3 := (hbl2.cell (p := ⟨bb, fb + j * 4 + 3, none⟩) hbb).trans (hcb j 3 (by rw [HM.out]; exact h1) (by omega))
          simp only [lnF] at e0 e1 e2 e3
          clear hcb
          have huk := LB.out _ (lnAt_mem (by rw [HM.out]; exact h1))
          have htj := lnAt_take (L := B) (i := j) (by rw [HM.out]; exact h1)
          have HTJ := Lib.hid htj; clear htj
          have hrj : RnB ((B.take j).foldl (fun r u => pairW r l u) R) := innerW_bd (fun x hx => LB.out x (List.mem_of_mem_take hx)) hlk hrk
          obtain ⟨R2, hR2⟩ : ∃ R2, (B.take j).foldl (fun r u => pairW r l u) R = R2 := ⟨_, rfl⟩
          rw [hR2] at hrj hb2
          have HR2 := Lib.hid hR2; clear hR2
          obtain ⟨u, hu⟩ : ∃ l, lnAt B j = l := ⟨_, rfl⟩
          rw [hu] at e0 e1 e2 e3 huk
          have HU := Lib.hid hu; clear hu
          have l0 := hl2.out.cell 0
          have l1 := hl2.out.cell 1
          have l2 := hl2.out.cell 2
          have l3 := hl2.out.cell 3
          simp only [List.getElem?_cons_zero, List.getElem?_cons_succ] at l0 l1 l2 l3
          have zl := hl2.out.lt
          have hz3 : w.heap.size + 1 < wr.heap.size := hz2.out.lt
          go_wp2_with fail
          refine (pair_any _ R2 _ _ l u _ (hb2.out.alloc _) hrj hlk huk).mono ?_
          rintro e w3 ⟨rfl, hbs, hbk3⟩
          go_wp2_with fail
          refine ⟨⟨j + 1, by omega, by go_num, ?_, ?_, ?_, ?_⟩, by simp [intOf]; omega⟩
          · rw [HTJ.out, List.foldl_append, HR2.out, HU.out]; exact hbk3
          · exact (hz2.out.alloc _).bes hbs (by omega)
          · exact (hl2.out.alloc _).bes hbs (by omega)
          · exact bes_then (hbl2.alloc (by omega) _) hbs (Nat.le_refl _) (by simp; omega)
        · obtain rfl : j = m := by omega
          go_wp2_with fail
          refine ⟨⟨k + 1, by omega, by go_num, ?_, hz2, hbl2⟩, by simp [intOf]; omega⟩
          have e : B.take j = B := by rw [← HM.out]; exact List.take_length
          rw [e] at hb2
          rw [HT.out, HLK.out, allP, List.foldl_append]
          have e2 := HRK.out
          rw [allP] at e2
          rw [e2]
          exact hb2
    · obtain rfl : k = n := by omega
      have e : A.take k = A := by rw [← HN.out]; exact List.take_length
      rw [e] at hbk
      have hrk : RnB (allP pairW r A B) := allW_bd LB.out LA.out HR.out
      have hsol : solW r A B = ⟨(allP pairW r A B).lo, (allP pairW r A B).hi, !(allP pairW r A B).some⟩ := rfl
      obtain ⟨R, hR⟩ : ∃ R, allP pairW r A B = R := ⟨_, rfl⟩
      rw [hR] at hrk hbk hsol
      have HS := Lib.hid hsol
      clear hR e hsol
      obtain ⟨⟨ln, ld, ls⟩, ⟨hn, hd, hs⟩, re⟩ := R
      have c0 := hbk.out.cell 0
      have c1 := hbk.out.cell 1
      have c2 := hbk.out.cell 2
      have c3 := hbk.out.cell 3
      have c4 := hbk.out.cell 4
      have c5 := hbk.out.cell 5
      have c6 := hbk.out.cell 6
      have c7 := hbk.out.cell 7
      have c8 := hbk.out.cell 8
      have f8 := hbk.out.frozen 8
      have z0 := hbz.out.cell 0
      have y0 := hbz.out.frozen 0
      have z1 := hbz.out.cell 1
      have y1 := hbz.out.frozen 1
      have z2 := hbz.out.cell 2
      have y2 := hbz.out.frozen 2
      have z3 := hbz.out.cell 3
      have y3 := hbz.out.frozen 3
      have z4 := hbz.out.cell 4
      have y4 := hbz.out.frozen 4
      have z5 := hbz.out.cell 5
      have y5 := hbz.out.frozen 5
      have z6 := hbz.out.cell 6
      have y6 := hbz.out.frozen 6
      have z7 := hbz.out.cell 7
      have y7 := hbz.out.frozen 7
      have z8 := hbz.out.cell 8
      have y8 := hbz.out.frozen 8
      simp only [rnC, List.getElem?_cons_zero, List.getElem?_cons_succ] at c0 c1 c2 c3 c4 c5 c6 c7 c8 z0 z1 z2 z3 z4 z5 z6 z7 z8
      have hz0 : w.heap.size < wr.heap.size := by omega
      have hcmp := fun w => bcmp_any ⟨ln, ld, ls⟩ ⟨hn, hd, hs⟩ w (bd_of_lo hrk) (bd_of_hi hrk)
      simp only at hcmp
      rcases sgn_cases (ln * hd - hn * ld) with ⟨h, hx⟩ | ⟨h, hx⟩ | ⟨h, hx⟩
      · rw [h] at hcmp
        have hso : (!Rn.some ⟨⟨ln, ld, ls⟩, ⟨hn, hd, hs⟩, re⟩) = true := by
          simp [Rn.some, show ¬ ln * hd < hn * ld by omega, show ¬ ln * hd = hn * ld by omega]
        have HSO := Lib.hid hso
        have HC := Lib.hid hcmp
        clear h hx hso hcmp
        cases re
        all_goals
          go_wp2_with fail
          refine (HC.out _).mono ?_
          rintro e w3 ⟨rfl, hb3⟩
          obtain ⟨hc3, hf3⟩ := bcell hb3
          go_wp2_with fail
          refine bodyPost_ret (v := rnV ⟨⟨ln, ld, ls⟩, ⟨hn, hd, hs⟩, true⟩ (.slice oa k ca) (.slice ob m cb)) (results_cell_row rfl _ _ (w.heap.size + 1) _ _ (0, 0) _ rfl ((((((((((((hbz.out.below hb3).far (by simp) _).set 0 _).set 1 _).set 2 _).set 3 _).set 4 _).set 5 _).set 6 _).set 7 _).set 8 _)) Tryz.underlying100 rfl (by kernel_rfl)) rfl ⟨by first | (rw [HS.out, HSO.out]; done) | (rw [HS.out, HSO.out]; rfl), ?_⟩
          exact ((((((((((hbl.trans (hb3.mono hbl.size)).setCell (Nat.le_refl _) _).setCell (Nat.le_succ _) _).setCell (Nat.le_succ _) _).setCell (Nat.le_succ _) _).setCell (Nat.le_succ _) _).setCell (Nat.le_succ _) _).setCell (Nat.le_succ _) _).setCell (Nat.le_succ _) _).setCell (Nat.le_succ _) _).setCell (Nat.le_succ _) _
      · rw [h] at hcmp
        have hso : (!Rn.some ⟨⟨ln, ld, ls⟩, ⟨hn, hd, hs⟩, re⟩) = (re || ls || hs) := by
          simp [Rn.some, show ln * hd = hn * ld by omega]
          cases re <;> cases ls <;> cases hs <;> rfl
        have HC := Lib.hid hcmp
        clear h hx hcmp
        cases re
        · cases ls
          · cases hs
            all_goals (have HSO := Lib.hid hso; clear hso)
            · go_wp2_with fail
              refine (HC.out _).mono ?_
              rintro e w3 ⟨rfl, hb3⟩
              obtain ⟨hc3, hf3⟩ := bcell hb3
              go_wp2_with fail
              refine bodyPost_ret (v := rnV ⟨⟨ln, ld, false⟩, ⟨hn, hd, false⟩, false⟩ (.slice oa k ca) (.slice ob m cb)) (results_cell_row rfl _ _ (w.heap.size + 1) _ _ (0, 0) _ rfl ((((((((((((hbz.out.below hb3).far (by simp) _).set 0 _).set 1 _).set 2 _).set 3 _).set 4 _).set 5 _).set 6 _).set 7 _).set 8 _)) Tryz.underlying100 rfl (by kernel_rfl)) rfl ⟨by first | (rw [HS.out, HSO.out]; done) | (rw [HS.out, HSO.out]; rfl), ?_⟩
              exact ((((((((((hbl.trans (hb3.mono hbl.size)).setCell (Nat.le_refl _) _).setCell (Nat.le_succ _) _).setCell (Nat.le_succ _) _).setCell (Nat.le_succ _) _).setCell (Nat.le_succ _) _).setCell (Nat.le_succ _) _).setCell (Nat.le_succ _) _).setCell (Nat.le_succ _) _).setCell (Nat.le_succ _) _).setCell (Nat.le_succ _) _
            · go_wp2_with fail
              refine (HC.out _).mono ?_
              rintro e w3 ⟨rfl, hb3⟩
              obtain ⟨hc3, hf3⟩ := bcell hb3
              go_wp2_with fail
              refine bodyPost_ret (v := rnV ⟨⟨ln, ld, false⟩, ⟨hn, hd, true⟩, true⟩ (.slice oa k ca) (.slice ob m cb)) (results_cell_row rfl _ _ (w.heap.size + 1) _ _ (0, 0) _ rfl ((((((((((((hbz.out.below hb3).far (by simp) _).set 0 _).set 1 _).set 2 _).set 3 _).set 4 _).set 5 _).set 6 _).set 7 _).set 8 _)) Tryz.underlying100 rfl (by kernel_rfl)) rfl ⟨by first | (rw [HS.out, HSO.out]; done) | (rw [HS.out, HSO.out]; rfl), ?_⟩
              exact ((((((((((hbl.trans (hb3.mono hbl.size)).setCell (Nat.le_refl _) _).setCell (Nat.le_succ _) _).setCell (Nat.le_succ _) _).setCell (Nat.le_succ _) _).setCell (Nat.le_succ _) _).setCell (Nat.le_succ _) _).setCell (Nat.le_succ _) _).setCell (Nat.le_succ _) _).setCell (Nat.le_succ _) _).setCell (Nat.le_succ _) _
          · rw [show (false || true || hs) = true from rfl] at hso
            have HSO := Lib.hid hso
            clear hso
            go_wp2_with fail
            refine (HC.out _).mono ?_
            rintro e w3 ⟨rfl, hb3⟩
            obtain ⟨hc3, hf3⟩ := bcell hb3
            go_wp2_with fail
            refine bodyPost_ret (v := rnV ⟨⟨ln, ld, true⟩, ⟨hn, hd, hs⟩, true⟩ (.slice oa k ca) (.slice ob m cb)) (results_cell_row rfl _ _ (w.heap.size + 1) _ _ (0, 0) _ rfl ((((((((((((hbz.out.below hb3).far (by simp) _).set 0 _).set 1 _).set 2 _).set 3 _).set 4 _).set 5 _).set 6 _).set 7 _).set 8 _)) Tryz.underlying100 rfl (by kernel_rfl)) rfl ⟨by first | (rw [HS.out, HSO.out]; done) | (rw [HS.out, HSO.out]; rfl), ?_⟩
            exact ((((((((((hbl.trans (hb3.mono hbl.size)).setCell (Nat.le_refl _) _).setCell (Nat.le_succ _) _).setCell (Nat.le_succ _) _).setCell (Nat.le_succ _) _).setCell (Nat.le_succ _) _).setCell (Nat.le_succ _) _).setCell (Nat.le_succ _) _).setCell (Nat.le_succ _) _).setCell (Nat.le_succ _) _).setCell (Nat.le_succ _) _
        · rw [show (true || ls || hs) = true from rfl] at hso
          have HSO := Lib.hid hso
          clear hso
          go_wp2_with fail
          refine (HC.out _).mono ?_
          rintro e w3 ⟨rfl, hb3⟩
          obtain ⟨hc3, hf3⟩ := bcell hb3
          go_wp2_with fail
          refine bodyPost_ret (v := rnV ⟨⟨ln, ld, ls⟩, ⟨hn, hd, hs⟩, true⟩ (.slice oa k ca) (.slice ob m cb)) (results_cell_row rfl _ _ (w.heap.size + 1) _ _ (0, 0) _ rfl ((((((((((((hbz.out.below hb3).far (by simp) _).set 0 _).set 1 _).set 2 _).set 3 _).set 4 _).set 5 _).set 6 _).set 7 _).set 8 _)) Tryz.underlying100 rfl (by kernel_rfl)) rfl ⟨by first | (rw [HS.out, HSO.out]; done) | (rw [HS.out, HSO.out]; rfl), ?_⟩
          exact ((((((((((hbl.trans (hb3.mono hbl.size)).setCell (Nat.le_refl _) _).setCell (Nat.le_succ _) _).setCell (Nat.le_succ _) _).setCell (Nat.le_succ _) _).setCell (Nat.le_succ _) _).setCell (Nat.le_succ _) _).setCell (Nat.le_succ _) _).setCell (Nat.le_succ _) _).setCell (Nat.le_succ _) _).setCell (Nat.le_succ _) _
      · rw [h] at hcmp
        have hso : (!Rn.some ⟨⟨ln, ld, ls⟩, ⟨hn, hd, hs⟩, re⟩) = re := by
          simp [Rn.some, show ln * hd < hn * ld by omega]
        have HC := Lib.hid hcmp
        clear h hx hcmp
        cases re
        all_goals (have HSO := Lib.hid hso; clear hso)
        · go_wp2_with fail
          refine (HC.out _).mono ?_
          rintro e w3 ⟨rfl, hb3⟩
          obtain ⟨hc3, hf3⟩ := bcell hb3
          go_wp2_with fail
          refine bodyPost_ret (v := rnV ⟨⟨ln, ld, ls⟩, ⟨hn, hd, hs⟩, false⟩ (.slice oa k ca) (.slice ob m cb)) (results_cell_row rfl _ _ (w.heap.size + 1) _ _ (0, 0) _ rfl ((((((((((((hbz.out.below hb3).far (by simp) _).set 0 _).set 1 _).set 2 _).set 3 _).set 4 _).set 5 _).set 6 _).set 7 _).set 8 _)) Tryz.underlying100 rfl (by kernel_rfl)) rfl ⟨by first | (rw [HS.out, HSO.out]; done) | (rw [HS.out, HSO.out]; rfl), ?_⟩
          exact ((((((((((hbl.trans (hb3.mono hbl.size)).setCell (Nat.le_refl _) _).setCell (Nat.le_succ _) _).setCell (Nat.le_succ _) _).setCell (Nat.le_succ _) _).setCell (Nat.le_succ _) _).setCell (Nat.le_succ _) _).setCell (Nat.le_succ _) _).setCell (Nat.le_succ _) _).setCell (Nat.le_succ _) _).setCell (Nat.le_succ _) _
        · go_wp2_with fail
          refine (HC.out _).mono ?_
          rintro e w3 ⟨rfl, hb3⟩
          obtain ⟨hc3, hf3⟩ := bcell hb3
          go_wp2_with fail
          refine bodyPost_ret (v := rnV ⟨⟨ln, ld, ls⟩, ⟨hn, hd, hs⟩, true⟩ (.slice oa k ca) (.slice ob m cb)) (results_cell_row rfl _ _ (w.heap.size + 1) _ _ (0, 0) _ rfl ((((((((((((hbz.out.below hb3).far (by simp) _).set 0 _).set 1 _).set 2 _).set 3 _).set 4 _).set 5 _).set 6 _).set 7 _).set 8 _)) Tryz.underlying100 rfl (by kernel_rfl)) rfl ⟨by first | (rw [HS.out, HSO.out]; done) | (rw [HS.out, HSO.out]; rfl), ?_⟩
          exact ((((((((((hbl.trans (hb3.mono hbl.size)).setCell (Nat.le_refl _) _).setCell (Nat.le_succ _) _).setCell (Nat.le_succ _) _).setCell (Nat.le_succ _) _).setCell (Nat.le_succ _) _).setCell (Nat.le_succ _) _).setCell (Nat.le_succ _) _).setCell (Nat.le_succ _) _).setCell (Nat.le_succ _) _).setCell (Nat.le_succ _) _
end Go.Proofs.YtnfndiafabhhdaaGreat
