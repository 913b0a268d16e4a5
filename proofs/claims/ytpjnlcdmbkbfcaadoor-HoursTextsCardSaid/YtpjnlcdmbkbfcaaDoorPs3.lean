/- The walk of Parse of the reference. -/
import Derived.Test.YtpjnlcdmbkbfcaaDoorPs2
namespace Go.Proofs.YtpjnlcdmbkbfcaaDoor
open Go.ChangeShapes Go.WideShapes Go.ChangeAt Go.RowKit Go.BigFrame

/-- The text of the hour with a number. -/
def hT (k : Nat) : List UInt8 := prT (decide (720 ≤ (k : Int))) ((k : Int) / 60 % 12) ((k : Int) % 60)
theorem rPrint_c (nt : Bool) (h p : Int) (l : List UInt8) (w : World) (hk : okH h p = true) (hl : prT nt h p = l) :
    Calls Tryd.prog 64 #[.agg #[.bool nt, .int .i64 h, .int .i64 p]] w fun e w' => e = .returned (.tuple #[.string ⟨l.toArray⟩, .int .i64 0]) ∧ Below w.heap.size w w' := by
  refine (rPrint_any nt h p w).mono ?_
  rintro e w' ⟨rfl, hb⟩
  refine ⟨?_, hb⟩
  rw [show prV nt h p = prT nt h p by unfold prV; rw [hk]; rfl, show prE h p = 0 by unfold prE; rw [hk]; rfl, hl]
theorem hT_of {nt : Bool} {h p : Int} (hk : okH h p = true) : ∃ k, k < 1440 ∧ hT k = prT nt h p := by
  obtain ⟨⟨h1, h2⟩, p1, p2⟩ := okH_bd hk
  refine ⟨((if nt then 720 else 0) + 60 * h + p).toNat, by split <;> omega, ?_⟩
  unfold hT
  cases nt
  · simp only [Bool.false_eq_true, if_false]
    rw [show ((0 + 60 * h + p).toNat : Int) = 60 * h + p by omega, decide_eq_false (by omega), show (60 * h + p) / 60 % 12 = h by omega, show (60 * h + p) % 60 = p by omega]
  · simp only [if_true]
    rw [show ((720 + 60 * h + p).toNat : Int) = 720 + 60 * h + p by omega, decide_eq_true (by omega), show (720 + 60 * h + p) / 60 % 12 = h by omega, show (720 + 60 * h + p) % 60 = p by omega]
set_option maxRecDepth 100000 in
set_option maxHeartbeats 1000000 in
theorem rParse_yes (nt : Bool) (h p : Int) (w : World) (hk : okH h p = true) :
    Calls Tryd.prog 66 #[.string ⟨(prT nt h p).toArray⟩] w fun e w' => e = .returned (.tuple #[.agg #[.bool nt, .int .i64 h, .int .i64 p], .int .i64 0]) ∧ Below w.heap.size w w' := by
  have HT := Lib.hid (hT_of (nt := nt) hk)
  have HI := Lib.hid (fun nt' h' p' (hk' : okH h' p' = true) => prT_inj (nt := nt) (nt' := nt') hk hk')
  obtain ⟨s, hs⟩ : ∃ s, prT nt h p = s := ⟨_, rfl⟩
  rw [hs] at HT HI ⊢
  clear hs hk
  go_enter Tryd.func66, Tryd.ntmps66
  go_wp2_with fail
  go_loopw [4, 5, 6] (fun i _ _ wr => ∃ k : Nat, k ≤ 1440 ∧ i = .int .i64 (k : Int) ∧ Hid (∀ j, j < k → hT j ≠ s) ∧ Below (w.alloc (hrO false 0 0)).heap.size (w.alloc (hrO false 0 0)) wr) (fun i _ _ _ => 1440 - (intOf i).toNat)
  case atStart => exact ⟨0, by omega, rfl, Lib.hid (fun j hj => by omega), Below.refl _ _⟩
  case round =>
    obtain ⟨k, hk, rfl, hmiss, hB⟩ := hrel
    by_cases hlt : k < 1440
    · obtain ⟨nb, hnb⟩ : ∃ x, decide (720 ≤ (k : Int)) = x := ⟨_, rfl⟩
      obtain ⟨hh, hhh⟩ : ∃ x, (k : Int) / 60 % 12 = x := ⟨_, rfl⟩
      obtain ⟨pp, hpp⟩ : ∃ x, (k : Int) % 60 = x := ⟨_, rfl⟩
      obtain ⟨l, hl⟩ : ∃ x, prT nb hh pp = x := ⟨_, rfl⟩
      have HTK := Lib.hid (show hT k = l by unfold hT; rw [hnb, hhh, hpp, hl])
      have NB := Lib.hid hnb
      have HH := Lib.hid hhh
      have PP := Lib.hid hpp
      have HK : Hid (okH hh pp = true) := Lib.hid (okH_mk (by omega) (by omega) (by omega) (by omega))
      have HL := Lib.hid hl
      clear hnb hhh hpp hl
      go_wp2_with fail
      refine (rhour_c (k : Int) nb hh pp _ (by omega) (by omega) NB.out HH.out PP.out).mono ?_
      rintro e w1 ⟨rfl, hb1⟩
      go_wp2_with fail
      refine (rPrint_c nb hh pp l _ HK.out HL.out).mono ?_
      rintro e w2 ⟨rfl, hb2⟩
      have hA2 := bthen (bthen hB hb1) hb2
      by_cases e : l = s
      · obtain ⟨rfl, rfl, rfl⟩ := HI.out nb hh pp HK.out (by rw [HL.out, e])
        subst e
        go_wp2_with fail
        refine (rhour_c (k : Int) nt h p _ (by omega) (by omega) NB.out HH.out PP.out).mono ?_
        rintro e w3 ⟨rfl, hb3⟩
        have hA3 := bthen hA2 hb3
        have hL := (((Bx.none w).cons [.bool false, .int .i64 0, .int .i64 0] 37).below hA3)
        have hC := hL.facts
        simp only [AllC, RowC, Nat.zero_add, Nat.reduceAdd] at hC
        have fr0 := ((hA3).frozen (p := ⟨w.heap.size, 0, none⟩) (by simp)).trans (frozen_new_row w #[.bool false, .int .i64 0, .int .i64 0] 37 0)
        have fr1 := ((hA3).frozen (p := ⟨w.heap.size, 1, none⟩) (by simp)).trans (frozen_new_row w #[.bool false, .int .i64 0, .int .i64 0] 37 1)
        have fr2 := ((hA3).frozen (p := ⟨w.heap.size, 2, none⟩) (by simp)).trans (frozen_new_row w #[.bool false, .int .i64 0, .int .i64 0] 37 2)
        go_wp2_with fail
        have hBx := (hL (w.heap.size, [.bool false, .int .i64 0, .int .i64 0]) (by simp)).trio (.bool nt) (.int .i64 h) (.int .i64 p)
        have q0 := hBx.c 0 (by simp)
        have q1 := hBx.c 1 (by simp)
        have q2 := hBx.c 2 (by simp)
        simp only [List.getElem?_cons_zero, List.getElem?_cons_succ, Option.getD_some] at q0 q1 q2
        refine bodyPost_ret (v := .tuple #[.agg #[.bool nt, .int .i64 h, .int .i64 p], .int .i64 0]) (by simp [results, Tryd.results66, go_sem, q0, q1, q2]) rfl ⟨rfl, ?_⟩
        exact (((bafter (hA3)).setCell (Nat.le_refl _) _).setCell (Nat.le_refl _) _).setCell (Nat.le_refl _) _
      · have e2 : (l == s) = false := by simpa using e
        have HM := Lib.hid (fun j (hj : j < k + 1) => show hT j ≠ s by
          by_cases hjk : j < k
          · exact hmiss.out j hjk
          · obtain rfl : j = k := by omega
            rw [HTK.out]; exact e)
        go_wp2_with fail
        exact ⟨⟨k + 1, by omega, by go_num, HM, hA2⟩, by simp [intOf]; omega⟩
    · obtain ⟨k0, h0, h1⟩ := HT.out
      exact absurd h1 (hmiss.out k0 (by omega))
set_option maxRecDepth 100000 in
set_option maxHeartbeats 1000000 in
theorem rParse_no (s : List UInt8) (w : World) (hno : ∀ nt h p, okH h p = true → prT nt h p ≠ s) :
    Calls Tryd.prog 66 #[.string ⟨s.toArray⟩] w fun e w' => e = .returned (.tuple #[.agg #[.bool false, .int .i64 0, .int .i64 0], .int .i64 3]) ∧ Below w.heap.size w w' := by
  have HNO := Lib.hid hno
  clear hno
  go_enter Tryd.func66, Tryd.ntmps66
  go_wp2_with fail
  go_loopw [4, 5, 6] (fun i _ _ wr => ∃ k : Nat, k ≤ 1440 ∧ i = .int .i64 (k : Int) ∧ Hid (∀ j, j < k → hT j ≠ s) ∧ Below (w.alloc (hrO false 0 0)).heap.size (w.alloc (hrO false 0 0)) wr) (fun i _ _ _ => 1440 - (intOf i).toNat)
  case atStart => exact ⟨0, by omega, rfl, Lib.hid (fun j hj => by omega), Below.refl _ _⟩
  case round =>
    obtain ⟨k, hk, rfl, hmiss, hB⟩ := hrel
    by_cases hlt : k < 1440
    · obtain ⟨nb, hnb⟩ : ∃ x, decide (720 ≤ (k : Int)) = x := ⟨_, rfl⟩
      obtain ⟨hh, hhh⟩ : ∃ x, (k : Int) / 60 % 12 = x := ⟨_, rfl⟩
      obtain ⟨pp, hpp⟩ : ∃ x, (k : Int) % 60 = x := ⟨_, rfl⟩
      obtain ⟨l, hl⟩ : ∃ x, prT nb hh pp = x := ⟨_, rfl⟩
      have NB := Lib.hid hnb
      have HH := Lib.hid hhh
      have PP := Lib.hid hpp
      have HK : Hid (okH hh pp = true) := Lib.hid (okH_mk (by omega) (by omega) (by omega) (by omega))
      have HL := Lib.hid hl
      clear hnb hhh hpp hl
      go_wp2_with fail
      refine (rhour_c (k : Int) nb hh pp _ (by omega) (by omega) NB.out HH.out PP.out).mono ?_
      rintro e w1 ⟨rfl, hb1⟩
      go_wp2_with fail
      refine (rPrint_c nb hh pp l _ HK.out HL.out).mono ?_
      rintro e w2 ⟨rfl, hb2⟩
      have hA2 := bthen (bthen hB hb1) hb2
      have e : ¬ l = s := by rw [← HL.out]; exact HNO.out nb hh pp HK.out
      have e2 : (l == s) = false := by simpa using e
      go_wp2_with fail
      exact ⟨⟨k + 1, by omega, by go_num, Lib.hid (fun j _ => HNO.out _ _ _ (okH_mk (by omega) (by omega) (by omega) (by omega))), hA2⟩, by simp [intOf]; omega⟩
    · obtain rfl : k = 1440 := by omega
      have hL := (((Bx.none w).cons [.bool false, .int .i64 0, .int .i64 0] 37).below hB)
      have hC := hL.facts
      simp only [AllC, RowC, Nat.zero_add, Nat.reduceAdd] at hC
      have fr0 := ((hB).frozen (p := ⟨w.heap.size, 0, none⟩) (by simp)).trans (frozen_new_row w #[.bool false, .int .i64 0, .int .i64 0] 37 0)
      have fr1 := ((hB).frozen (p := ⟨w.heap.size, 1, none⟩) (by simp)).trans (frozen_new_row w #[.bool false, .int .i64 0, .int .i64 0] 37 1)
      have fr2 := ((hB).frozen (p := ⟨w.heap.size, 2, none⟩) (by simp)).trans (frozen_new_row w #[.bool false, .int .i64 0, .int .i64 0] 37 2)
      go_wp2_with fail
      have hBx := (hL (w.heap.size, [.bool false, .int .i64 0, .int .i64 0]) (by simp)).trio (.bool false) (.int .i64 0) (.int .i64 0)
      have q0 := hBx.c 0 (by simp)
      have q1 := hBx.c 1 (by simp)
      have q2 := hBx.c 2 (by simp)
      simp only [List.getElem?_cons_zero, List.getElem?_cons_succ, Option.getD_some] at q0 q1 q2
      refine bodyPost_ret (v := .tuple #[.agg #[.bool false, .int .i64 0, .int .i64 0], .int .i64 3]) (by simp [results, Tryd.results66, go_sem, q0, q1, q2]) rfl ⟨rfl, ?_⟩
      exact (((bafter (hB)).setCell (Nat.le_refl _) _).setCell (Nat.le_refl _) _).setCell (Nat.le_refl _) _
end Go.Proofs.YtpjnlcdmbkbfcaaDoor
