/- The walk of HoursTexts. -/
import Derived.Test.YtpjnlcdmbkbfcaaDoorPs3
import Derived.Test.YtpjnlcdmbkbfcaaDoorLaw
namespace Go.Proofs.YtpjnlcdmbkbfcaaDoor
open Go.ChangeShapes Go.WideShapes Go.ChangeAt Go.RowKit Go.BigFrame
theorem rPrint_d (nt : Bool) (h p : Int) (l : List UInt8) (c : Int) (w : World) (hl : prV nt h p = l) (hc : prE h p = c) :
    Calls Tryd.prog 64 #[.agg #[.bool nt, .int .i64 h, .int .i64 p]] w fun e w' => e = .returned (.tuple #[.string ⟨l.toArray⟩, .int .i64 c]) ∧ Below w.heap.size w w' := by
  rw [← hl, ← hc]; exact rPrint_any nt h p w
theorem Parse_yes' (nt : Bool) (h p : Int) (l : List UInt8) (w : World) (hk : okH h p = true) (hl : prV nt h p = l) (hv : VarC w) :
    Calls Tryd.prog 65 #[.string ⟨l.toArray⟩] w fun e w' => e = .returned (.tuple #[.agg #[.bool nt, .int .i64 h, .int .i64 p], .int .i64 0]) ∧ Below w.heap.size w w' := by
  rw [← hl, show prV nt h p = prT nt h p by unfold prV; rw [hk]; rfl]; exact Parse_yes nt h p w hk hv
theorem rParse_yes' (nt : Bool) (h p : Int) (l : List UInt8) (w : World) (hk : okH h p = true) (hl : prV nt h p = l) :
    Calls Tryd.prog 66 #[.string ⟨l.toArray⟩] w fun e w' => e = .returned (.tuple #[.agg #[.bool nt, .int .i64 h, .int .i64 p], .int .i64 0]) ∧ Below w.heap.size w w' := by
  rw [← hl, show prV nt h p = prT nt h p by unfold prV; rw [hk]; rfl]; exact rParse_yes nt h p w hk
set_option maxRecDepth 100000 in
set_option maxHeartbeats 4000000 in
theorem law_texts (nt : Bool) (h p : Int) (s : ByteArray) (w : World) (hv : VarC w) :
    Calls Tryd.prog 17 #[.agg #[.bool nt, .int .i64 h, .int .i64 p], .string s] w fun e w' => e = .returned (.bool true) ∧ Below w.heap.size w w' := by
  obtain ⟨l, rfl⟩ : ∃ l : List UInt8, s = ⟨l.toArray⟩ := ⟨s.data.toList, by cases s; simp⟩
  have hV0 := hv.alloc (hrO nt h p)
  have hL0 := (Bx.none w).cons [.bool nt, .int .i64 h, .int .i64 p] 37
  have hB0 : Below w.heap.size w (w.alloc (hrO nt h p)) := ballo w _
  have hC := True.intro
  clear hv
  by_cases hlen : 100 < l.length
  · have hlen2 : (100 : Int) < (l.length : Int) := by omega
    go_enter Tryd.func17, Tryd.ntmps17
    go_wp2_with fail
    clear hC
    refine (sane_any _).mono ?_
    rintro e w1 ⟨rfl, hb⟩
    have hV1 := hV0.below hb
    have hL1 := hL0.below hb
    have hB1 := bnext hB0 hb
    have hC := hL1.facts
    simp only [AllC, RowC, Nat.zero_add, Nat.reduceAdd] at hC
    go_wp2_with fail
    go_ret
    exact ⟨rfl, hB1⟩
  have hlen2 : ¬ (100 : Int) < (l.length : Int) := by omega
  obtain ⟨a, ha⟩ : ∃ x, prV nt h p = x := ⟨_, rfl⟩
  obtain ⟨c, hc⟩ : ∃ x, prE h p = x := ⟨_, rfl⟩
  have PV := Lib.hid ha
  have PE := Lib.hid hc
  by_cases hy : ∃ nt2 h2 p2, okH h2 p2 = true ∧ prT nt2 h2 p2 = l
  · obtain ⟨nt2, h2, p2, k2, e2⟩ := hy
    have K2 := Lib.hid k2
    have XV := Lib.hid (show prV nt2 h2 p2 = l by unfold prV; rw [k2]; exact e2)
    have XE := Lib.hid (show prE h2 p2 = 0 by unfold prE; rw [k2]; rfl)
    clear k2 e2
    rcases bool_ft (okH h p) with hk | hk
    · obtain rfl : c = 1 := by rw [← hc]; unfold prE; rw [hk]; rfl
      clear ha hc hk
      go_enter Tryd.func17, Tryd.ntmps17
      go_wp2_with fail
      clear hC
      refine (sane_any _).mono ?_
      rintro e w1 ⟨rfl, hb⟩
      have hV1 := hV0.below hb
      have hL1 := hL0.below hb
      have hB1 := bnext hB0 hb
      have hC := hL1.facts
      simp only [AllC, RowC, Nat.zero_add, Nat.reduceAdd] at hC
      go_wp2_with fail
      clear hC
      refine (Print_c nt h p a 1 _ PV.out PE.out).mono ?_
      rintro e w2 ⟨rfl, hb⟩
      have hV2 := hV1.below hb
      have hL2 := hL1.below hb
      have hB2 := bnext hB1 hb
      have hC := hL2.facts
      simp only [AllC, RowC, Nat.zero_add, Nat.reduceAdd] at hC
      go_wp2_with fail
      clear hC
      refine (rPrint_d nt h p a 1 _ PV.out PE.out).mono ?_
      rintro e w3 ⟨rfl, hb⟩
      have hV3 := hV2.below hb
      have hL3 := hL2.below hb
      have hB3 := bnext hB2 hb
      have hC := hL3.facts
      simp only [AllC, RowC, Nat.zero_add, Nat.reduceAdd] at hC
      go_wp2_with fail
      clear hC
      refine (Parse_yes' nt2 h2 p2 l _ K2.out XV.out hV3).mono ?_
      rintro e w4 ⟨rfl, hb⟩
      have hV4 := hV3.below hb
      have hL4 := hL3.below hb
      have hB4 := bnext hB3 hb
      have hC := hL4.facts
      simp only [AllC, RowC, Nat.zero_add, Nat.reduceAdd] at hC
      go_wp2_with fail
      clear hC
      refine (rParse_yes' nt2 h2 p2 l _ K2.out XV.out).mono ?_
      rintro e w5 ⟨rfl, hb⟩
      have hV5 := (hV4.alloc _).below hb
      have hL5 := (hL4.cons _ _).below hb
      have hB5 := bnextA hB4 hb
      have hC := hL5.facts
      simp only [AllC, RowC, Nat.zero_add, Nat.reduceAdd] at hC
      go_wp2_with fail
      clear hC
      refine (Print_c nt2 h2 p2 l 0 _ XV.out XE.out).mono ?_
      rintro e w6 ⟨rfl, hb⟩
      have hV6 := (hV5.alloc _).below hb
      have hL6 := (hL5.cons _ _).below hb
      have hB6 := bnextA hB5 hb
      have hC := hL6.facts
      simp only [AllC, RowC, Nat.zero_add, Nat.reduceAdd] at hC
      go_wp2_with fail
      go_ret
      exact ⟨ret_bool (by simp), (by repeat (first | exact Below.refl _ _ | assumption | refine bthen ?_ (by assumption) | refine Below.alloc ?_ (by first | exact Nat.le_refl _ | (simp; done) | (simp; omega) | omega) _ | refine Below.setCell ?_ (by first | exact Nat.le_refl _ | (simp; done) | (simp; omega) | omega) _ | refine below_drewN ?_ _ | refine Below.drew ?_))⟩
    · obtain rfl : c = 0 := by rw [← hc]; unfold prE; rw [hk]; rfl
      have HK := Lib.hid hk
      clear ha hc hk
      go_enter Tryd.func17, Tryd.ntmps17
      go_wp2_with fail
      clear hC
      refine (sane_any _).mono ?_
      rintro e w1 ⟨rfl, hb⟩
      have hV1 := hV0.below hb
      have hL1 := hL0.below hb
      have hB1 := bnext hB0 hb
      have hC := hL1.facts
      simp only [AllC, RowC, Nat.zero_add, Nat.reduceAdd] at hC
      go_wp2_with fail
      clear hC
      refine (Print_c nt h p a 0 _ PV.out PE.out).mono ?_
      rintro e w2 ⟨rfl, hb⟩
      have hV2 := hV1.below hb
      have hL2 := hL1.below hb
      have hB2 := bnext hB1 hb
      have hC := hL2.facts
      simp only [AllC, RowC, Nat.zero_add, Nat.reduceAdd] at hC
      go_wp2_with fail
      clear hC
      refine (rPrint_d nt h p a 0 _ PV.out PE.out).mono ?_
      rintro e w3 ⟨rfl, hb⟩
      have hV3 := hV2.below hb
      have hL3 := hL2.below hb
      have hB3 := bnext hB2 hb
      have hC := hL3.facts
      simp only [AllC, RowC, Nat.zero_add, Nat.reduceAdd] at hC
      go_wp2_with fail
      clear hC
      refine (Parse_yes' nt2 h2 p2 l _ K2.out XV.out hV3).mono ?_
      rintro e w4 ⟨rfl, hb⟩
      have hV4 := hV3.below hb
      have hL4 := hL3.below hb
      have hB4 := bnext hB3 hb
      have hC := hL4.facts
      simp only [AllC, RowC, Nat.zero_add, Nat.reduceAdd] at hC
      go_wp2_with fail
      clear hC
      refine (rParse_yes' nt2 h2 p2 l _ K2.out XV.out).mono ?_
      rintro e w5 ⟨rfl, hb⟩
      have hV5 := (hV4.alloc _).below hb
      have hL5 := (hL4.cons _ _).below hb
      have hB5 := bnextA hB4 hb
      have hC := hL5.facts
      simp only [AllC, RowC, Nat.zero_add, Nat.reduceAdd] at hC
      go_wp2_with fail
      clear hC
      refine (Parse_yes' nt h p a _ HK.out PV.out (hV5.alloc _)).mono ?_
      rintro e w6 ⟨rfl, hb⟩
      have hV6 := (hV5.alloc _).below hb
      have hL6 := (hL5.cons _ _).below hb
      have hB6 := bnextA hB5 hb
      have hC := hL6.facts
      simp only [AllC, RowC, Nat.zero_add, Nat.reduceAdd] at hC
      go_wp2_with fail
      clear hC
      refine (Print_c nt2 h2 p2 l 0 _ XV.out XE.out).mono ?_
      rintro e w7 ⟨rfl, hb⟩
      have hV7 := (hV6.alloc _).below hb
      have hL7 := (hL6.cons _ _).below hb
      have hB7 := bnextA hB6 hb
      have hC := hL7.facts
      simp only [AllC, RowC, Nat.zero_add, Nat.reduceAdd] at hC
      go_wp2_with fail
      go_ret
      exact ⟨ret_bool (by simp), (by repeat (first | exact Below.refl _ _ | assumption | refine bthen ?_ (by assumption) | refine Below.alloc ?_ (by first | exact Nat.le_refl _ | (simp; done) | (simp; omega) | omega) _ | refine Below.setCell ?_ (by first | exact Nat.le_refl _ | (simp; done) | (simp; omega) | omega) _ | refine below_drewN ?_ _ | refine Below.drew ?_))⟩
  · have hno : ∀ nt2 h2 p2, okH h2 p2 = true → prT nt2 h2 p2 ≠ l := fun n2 h2 p2 k2 e2 => hy ⟨n2, h2, p2, k2, e2⟩
    have HNO := Lib.hid hno
    clear hy hno
    obtain ⟨xl, hxl⟩ : ∃ x, prV false 0 0 = x := ⟨_, rfl⟩
    obtain ⟨xc, hxc⟩ : ∃ x, prE 0 0 = x := ⟨_, rfl⟩
    have XV := Lib.hid hxl
    have XE := Lib.hid hxc
    clear hxl hxc
    rcases bool_ft (okH h p) with hk | hk
    · obtain rfl : c = 1 := by rw [← hc]; unfold prE; rw [hk]; rfl
      clear ha hc hk
      go_enter Tryd.func17, Tryd.ntmps17
      go_wp2_with fail
      clear hC
      refine (sane_any _).mono ?_
      rintro e w1 ⟨rfl, hb⟩
      have hV1 := hV0.below hb
      have hL1 := hL0.below hb
      have hB1 := bnext hB0 hb
      have hC := hL1.facts
      simp only [AllC, RowC, Nat.zero_add, Nat.reduceAdd] at hC
      go_wp2_with fail
      clear hC
      refine (Print_c nt h p a 1 _ PV.out PE.out).mono ?_
      rintro e w2 ⟨rfl, hb⟩
      have hV2 := hV1.below hb
      have hL2 := hL1.below hb
      have hB2 := bnext hB1 hb
      have hC := hL2.facts
      simp only [AllC, RowC, Nat.zero_add, Nat.reduceAdd] at hC
      go_wp2_with fail
      clear hC
      refine (rPrint_d nt h p a 1 _ PV.out PE.out).mono ?_
      rintro e w3 ⟨rfl, hb⟩
      have hV3 := hV2.below hb
      have hL3 := hL2.below hb
      have hB3 := bnext hB2 hb
      have hC := hL3.facts
      simp only [AllC, RowC, Nat.zero_add, Nat.reduceAdd] at hC
      go_wp2_with fail
      clear hC
      refine (Parse_no l _ (by omega) HNO.out hV3).mono ?_
      rintro e w4 ⟨rfl, hb⟩
      have hV4 := hV3.below hb
      have hL4 := hL3.below hb
      have hB4 := bnext hB3 hb
      have hC := hL4.facts
      simp only [AllC, RowC, Nat.zero_add, Nat.reduceAdd] at hC
      go_wp2_with fail
      clear hC
      refine (rParse_no l _ HNO.out).mono ?_
      rintro e w5 ⟨rfl, hb⟩
      have hV5 := (hV4.alloc _).below hb
      have hL5 := (hL4.cons _ _).below hb
      have hB5 := bnextA hB4 hb
      have hC := hL5.facts
      simp only [AllC, RowC, Nat.zero_add, Nat.reduceAdd] at hC
      go_wp2_with fail
      clear hC
      refine (Print_c false 0 0 xl xc _ XV.out XE.out).mono ?_
      rintro e w6 ⟨rfl, hb⟩
      have hV6 := (hV5.alloc _).below hb
      have hL6 := (hL5.cons _ _).below hb
      have hB6 := bnextA hB5 hb
      have hC := hL6.facts
      simp only [AllC, RowC, Nat.zero_add, Nat.reduceAdd] at hC
      go_wp2_with fail
      go_ret
      exact ⟨ret_bool (by simp), (by repeat (first | exact Below.refl _ _ | assumption | refine bthen ?_ (by assumption) | refine Below.alloc ?_ (by first | exact Nat.le_refl _ | (simp; done) | (simp; omega) | omega) _ | refine Below.setCell ?_ (by first | exact Nat.le_refl _ | (simp; done) | (simp; omega) | omega) _ | refine below_drewN ?_ _ | refine Below.drew ?_))⟩
    · obtain rfl : c = 0 := by rw [← hc]; unfold prE; rw [hk]; rfl
      have HK := Lib.hid hk
      clear ha hc hk
      go_enter Tryd.func17, Tryd.ntmps17
      go_wp2_with fail
      clear hC
      refine (sane_any _).mono ?_
      rintro e w1 ⟨rfl, hb⟩
      have hV1 := hV0.below hb
      have hL1 := hL0.below hb
      have hB1 := bnext hB0 hb
      have hC := hL1.facts
      simp only [AllC, RowC, Nat.zero_add, Nat.reduceAdd] at hC
      go_wp2_with fail
      clear hC
      refine (Print_c nt h p a 0 _ PV.out PE.out).mono ?_
      rintro e w2 ⟨rfl, hb⟩
      have hV2 := hV1.below hb
      have hL2 := hL1.below hb
      have hB2 := bnext hB1 hb
      have hC := hL2.facts
      simp only [AllC, RowC, Nat.zero_add, Nat.reduceAdd] at hC
      go_wp2_with fail
      clear hC
      refine (rPrint_d nt h p a 0 _ PV.out PE.out).mono ?_
      rintro e w3 ⟨rfl, hb⟩
      have hV3 := hV2.below hb
      have hL3 := hL2.below hb
      have hB3 := bnext hB2 hb
      have hC := hL3.facts
      simp only [AllC, RowC, Nat.zero_add, Nat.reduceAdd] at hC
      go_wp2_with fail
      clear hC
      refine (Parse_no l _ (by omega) HNO.out hV3).mono ?_
      rintro e w4 ⟨rfl, hb⟩
      have hV4 := hV3.below hb
      have hL4 := hL3.below hb
      have hB4 := bnext hB3 hb
      have hC := hL4.facts
      simp only [AllC, RowC, Nat.zero_add, Nat.reduceAdd] at hC
      go_wp2_with fail
      clear hC
      refine (rParse_no l _ HNO.out).mono ?_
      rintro e w5 ⟨rfl, hb⟩
      have hV5 := (hV4.alloc _).below hb
      have hL5 := (hL4.cons _ _).below hb
      have hB5 := bnextA hB4 hb
      have hC := hL5.facts
      simp only [AllC, RowC, Nat.zero_add, Nat.reduceAdd] at hC
      go_wp2_with fail
      clear hC
      refine (Parse_yes' nt h p a _ HK.out PV.out (hV5.alloc _)).mono ?_
      rintro e w6 ⟨rfl, hb⟩
      have hV6 := (hV5.alloc _).below hb
      have hL6 := (hL5.cons _ _).below hb
      have hB6 := bnextA hB5 hb
      have hC := hL6.facts
      simp only [AllC, RowC, Nat.zero_add, Nat.reduceAdd] at hC
      go_wp2_with fail
      clear hC
      refine (Print_c false 0 0 xl xc _ XV.out XE.out).mono ?_
      rintro e w7 ⟨rfl, hb⟩
      have hV7 := (hV6.alloc _).below hb
      have hL7 := (hL6.cons _ _).below hb
      have hB7 := bnextA hB6 hb
      have hC := hL7.facts
      simp only [AllC, RowC, Nat.zero_add, Nat.reduceAdd] at hC
      go_wp2_with fail
      go_ret
      exact ⟨ret_bool (by simp), (by repeat (first | exact Below.refl _ _ | assumption | refine bthen ?_ (by assumption) | refine Below.alloc ?_ (by first | exact Nat.le_refl _ | (simp; done) | (simp; omega) | omega) _ | refine Below.setCell ?_ (by first | exact Nat.le_refl _ | (simp; done) | (simp; omega) | omega) _ | refine below_drewN ?_ _ | refine Below.drew ?_))⟩
end Go.Proofs.YtpjnlcdmbkbfcaaDoor
