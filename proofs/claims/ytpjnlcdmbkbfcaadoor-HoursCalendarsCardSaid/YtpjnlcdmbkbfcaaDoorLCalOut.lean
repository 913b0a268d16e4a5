/- The walk of HoursCalendars at a day that is out of range. -/
import Derived.Test.YtpjnlcdmbkbfcaaDoorCal
import Derived.Deep.CutRange
namespace Go.Proofs.YtpjnlcdmbkbfcaaDoor
open Go.ChangeShapes Go.WideShapes Go.ChangeAt Go.RowKit Go.BigFrame
set_option maxRecDepth 100000 in
set_option maxHeartbeats 16000000 in
theorem law_cal_out (day ye mo da : Int) (w : World) (hr : ¬ (0 ≤ day ∧ day ≤ 3000000)) (_lo : -9223372036854775808 ≤ day) (_hi : day ≤ 9223372036854775807) :
    Calls Tryd.prog 7 #[.int .i64 day, .agg #[.int .i64 ye, .int .i64 mo, .int .i64 da]] w fun e w' => e = .returned (.bool true) ∧ Below w.heap.size w w' := by
  go_enter Tryd.func7, Tryd.ntmps7
  go_wp2_with fail
  refine (sane_any _).mono ?_
  rintro e w1 ⟨rfl, hb1⟩
  have hD1 : Box w1 w.heap.size [.int .i64 ye, .int .i64 mo, .int .i64 da] := (Box.new w _ 50).below hb1
  have hlt1 := hD1.lt
  go_wp2_with fail
  have hw1 := hb1.size
  simp only [World.size_alloc] at hw1
  go_loopw [28] (fun i wr => Ix3' i ∧ Below (w1.heap.size + 1) (w1.alloc (.cells #[.func (.func 34) #[] #[], .func (.func 37) #[] #[], .int .i64 13, .int .i64 128, .int .i64 46751, .func (.func 35) #[] #[], .func (.func 40) #[] #[], .int .i64 12, .int .i64 30, .int .i64 10631] 56)) wr) (fun i _ => (2 - intOf i).toNat)
  case atStart => exact ⟨.inl rfl, Below.refl _ _⟩
  case round =>
    obtain ⟨hk, hB⟩ := hrel
    have hz := hB.size
    simp only [World.size_alloc] at hz
    have hB' : Below (w1.alloc (.cells #[.func (.func 34) #[] #[], .func (.func 37) #[] #[], .int .i64 13, .int .i64 128, .int .i64 46751, .func (.func 35) #[] #[], .func (.func 40) #[] #[], .int .i64 12, .int .i64 30, .int .i64 10631] 56)).heap.size (w1.alloc (.cells #[.func (.func 34) #[] #[], .func (.func 37) #[] #[], .int .i64 13, .int .i64 128, .int .i64 46751, .func (.func 35) #[] #[], .func (.func 40) #[] #[], .int .i64 12, .int .i64 30, .int .i64 10631] 56)) wr := by rw [World.size_alloc]; exact hB
    have hDr : Box wr w.heap.size [.int .i64 ye, .int .i64 mo, .int .i64 da] := (hD1.alloc _).below hB'
    have hTr : Box wr w1.heap.size [.func (.func 34) #[] #[], .func (.func 37) #[] #[], .int .i64 13, .int .i64 128, .int .i64 46751, .func (.func 35) #[] #[], .func (.func 40) #[] #[], .int .i64 12, .int .i64 30, .int .i64 10631] := (Box.new w1 _ _).below hB'
    have hL0 := ((Bx.none wr).putc hDr).putc hTr
    have hC := hL0.facts
    simp only [AllC, RowC, Nat.zero_add, Nat.reduceAdd] at hC
    rcases hk with rfl | rfl | rfl
    · as_aux_lemma =>
        have hL1 := ((Bx.none wr).putc hDr).cons [.func (.func 34) #[] #[], .func (.func 37) #[] #[], .int .i64 13, .int .i64 128, .int .i64 46751] 56
        have hB1 : Below wr.heap.size wr (wr.alloc (.cells #[.func (.func 34) #[] #[], .func (.func 37) #[] #[], .int .i64 13, .int .i64 128, .int .i64 46751] 56)) := ballo _ _
        obtain ⟨nv, ne, e1, e2, hne⟩ := num_cases false ye mo da
        have NV := Lib.hid e1
        have NE := Lib.hid e2
        have HNE := Lib.hid hne
        clear e1 e2 hne
        go_wp2_with fail
        clear hC
        refine (CourtDay_c ye mo da _ _ _ NV.out NE.out).mono ?_
        rintro e w2 ⟨rfl, hb⟩
        have hL2 := hL1.below hb
        have hB2 := bnext hB1 hb
        have hC := hL2.facts
        simp only [AllC, RowC, Nat.zero_add, Nat.reduceAdd] at hC
        have hX2 := hb
        have HL2 := Lib.hid hL2
        go_upto_if 40 with fail
        go_cut [10] from 39 to 40 (fun _ wx => Below w2.heap.size w2 wx)
        case first =>
          rcases HNE.out with rfl | ⟨rfl, nd, nc⟩
          · go_wp2_with fail
            go_meet
            case rel => exact Below.refl _ _
          · have ND := Lib.hid nd
            have NC := Lib.hid nc
            clear nd nc
            go_wp2_with fail
            clear hC
            refine (Court_c _ _ _ _ _ _ ND.out NC.out).mono ?_
            rintro e w3 ⟨rfl, hb⟩
            have hL3 := hL2.below hb
            have hB3 := bnext hB2 hb
            have hC := hL3.facts
            simp only [AllC, RowC, Nat.zero_add, Nat.reduceAdd] at hC
            have hX3 := hb
            go_wp2_with fail
            go_meet
            case rel => exact hX3.alloc hX3.size _
        case rest =>
          rename World => w3
          have hL3 := HL2.out.below hcut
          have hB3 := bnext hB2 hcut
          clear hC
          have hC := hL3.facts
          simp only [AllC, RowC, Nat.zero_add, Nat.reduceAdd] at hC
          have HL3 := Lib.hid hL3
          have HC := Lib.hid hC
          go_upto_region 11 with fail
          go_cut [68] from 55 to 56 (fun s wx => s = .bool (or (decide (day < 0)) (decide (3000000 < day))) ∧ wx = w3)
          case first =>
            clear hC hL3 HL3
            rcases HNE.out with rfl | ⟨rfl, nd, nc⟩
            all_goals
              go_wp2_with fail
              all_goals
                go_meet
                exact ⟨congrArg Value.bool (by first | rfl | (simp; done) | (simp; omega)), rfl⟩
          case rest =>
            obtain ⟨rfl, hcw⟩ := hcut
            subst hcw
            rename World => w3
            have hL3 := HL3.out; have hC := HC.out
            rw [show (or (decide (day < 0)) (decide (3000000 < day))) = true by simp; omega]
            obtain ⟨y, m, d, c, e1, e2, hc⟩ := cal_out false day
            have XD := Lib.hid e1
            have XC := Lib.hid e2
            clear e1 e2
            by_cases hr1 : day < 0
            · obtain rfl := hc hr1
              clear hr hc
              go_wp2_with fail
              clear hC
              refine (Court_c day _ _ _ _ _ XD.out XC.out).mono ?_
              rintro e w4 ⟨rfl, hb⟩
              have hL4 := hL3.below hb
              have hB4 := bnext hB3 hb
              have hC := hL4.facts
              simp only [AllC, RowC, Nat.zero_add, Nat.reduceAdd] at hC
              go_wp2_with fail
              go_roundw
              case rel =>
                refine ⟨.inr (.inl rfl), hB.trans ?_⟩
                exact (hB4.mono (by omega)).alloc (by have := hB4.size; omega) _
              case measure => simp [intOf]
            · have hr2 : 3000000 < day := by omega
              clear hr hc
              go_wp2_with fail
              clear hC
              refine (Court_c day _ _ _ _ _ XD.out XC.out).mono ?_
              rintro e w4 ⟨rfl, hb⟩
              have hL4 := hL3.below hb
              have hB4 := bnext hB3 hb
              have hC := hL4.facts
              simp only [AllC, RowC, Nat.zero_add, Nat.reduceAdd] at hC
              go_wp2_with fail
              go_roundw
              case rel =>
                refine ⟨.inr (.inl rfl), hB.trans ?_⟩
                exact (hB4.mono (by omega)).alloc (by have := hB4.size; omega) _
              case measure => simp [intOf]
    · as_aux_lemma =>
        have hL1 := ((Bx.none wr).putc hDr).cons [.func (.func 35) #[] #[], .func (.func 40) #[] #[], .int .i64 12, .int .i64 30, .int .i64 10631] 56
        have hB1 : Below wr.heap.size wr (wr.alloc (.cells #[.func (.func 35) #[] #[], .func (.func 40) #[] #[], .int .i64 12, .int .i64 30, .int .i64 10631] 56)) := ballo _ _
        obtain ⟨nv, ne, e1, e2, hne⟩ := num_cases true ye mo da
        have NV := Lib.hid e1
        have NE := Lib.hid e2
        have HNE := Lib.hid hne
        clear e1 e2 hne
        go_wp2_with fail
        clear hC
        refine (MarketDay_c ye mo da _ _ _ NV.out NE.out).mono ?_
        rintro e w2 ⟨rfl, hb⟩
        have hL2 := hL1.below hb
        have hB2 := bnext hB1 hb
        have hC := hL2.facts
        simp only [AllC, RowC, Nat.zero_add, Nat.reduceAdd] at hC
        have hX2 := hb
        have HL2 := Lib.hid hL2
        go_upto_if 40 with fail
        go_cut [10] from 39 to 40 (fun _ wx => Below w2.heap.size w2 wx)
        case first =>
          rcases HNE.out with rfl | ⟨rfl, nd, nc⟩
          · go_wp2_with fail
            go_meet
            case rel => exact Below.refl _ _
          · have ND := Lib.hid nd
            have NC := Lib.hid nc
            clear nd nc
            go_wp2_with fail
            clear hC
            refine (Market_c _ _ _ _ _ _ ND.out NC.out).mono ?_
            rintro e w3 ⟨rfl, hb⟩
            have hL3 := hL2.below hb
            have hB3 := bnext hB2 hb
            have hC := hL3.facts
            simp only [AllC, RowC, Nat.zero_add, Nat.reduceAdd] at hC
            have hX3 := hb
            go_wp2_with fail
            go_meet
            case rel => exact hX3.alloc hX3.size _
        case rest =>
          rename World => w3
          have hL3 := HL2.out.below hcut
          have hB3 := bnext hB2 hcut
          clear hC
          have hC := hL3.facts
          simp only [AllC, RowC, Nat.zero_add, Nat.reduceAdd] at hC
          have HL3 := Lib.hid hL3
          have HC := Lib.hid hC
          go_upto_region 11 with fail
          go_cut [68] from 55 to 56 (fun s wx => s = .bool (or (decide (day < 0)) (decide (3000000 < day))) ∧ wx = w3)
          case first =>
            clear hC hL3 HL3
            rcases HNE.out with rfl | ⟨rfl, nd, nc⟩
            all_goals
              go_wp2_with fail
              all_goals
                go_meet
                exact ⟨congrArg Value.bool (by first | rfl | (simp; done) | (simp; omega)), rfl⟩
          case rest =>
            obtain ⟨rfl, hcw⟩ := hcut
            subst hcw
            rename World => w3
            have hL3 := HL3.out; have hC := HC.out
            rw [show (or (decide (day < 0)) (decide (3000000 < day))) = true by simp; omega]
            obtain ⟨y, m, d, c, e1, e2, hc⟩ := cal_out true day
            have XD := Lib.hid e1
            have XC := Lib.hid e2
            clear e1 e2
            by_cases hr1 : day < 0
            · obtain rfl := hc hr1
              clear hr hc
              go_wp2_with fail
              clear hC
              refine (Market_c day _ _ _ _ _ XD.out XC.out).mono ?_
              rintro e w4 ⟨rfl, hb⟩
              have hL4 := hL3.below hb
              have hB4 := bnext hB3 hb
              have hC := hL4.facts
              simp only [AllC, RowC, Nat.zero_add, Nat.reduceAdd] at hC
              go_wp2_with fail
              go_roundw
              case rel =>
                refine ⟨.inr (.inr rfl), hB.trans ?_⟩
                exact (hB4.mono (by omega)).alloc (by have := hB4.size; omega) _
              case measure => simp [intOf]
            · have hr2 : 3000000 < day := by omega
              clear hr hc
              go_wp2_with fail
              clear hC
              refine (Market_c day _ _ _ _ _ XD.out XC.out).mono ?_
              rintro e w4 ⟨rfl, hb⟩
              have hL4 := hL3.below hb
              have hB4 := bnext hB3 hb
              have hC := hL4.facts
              simp only [AllC, RowC, Nat.zero_add, Nat.reduceAdd] at hC
              go_wp2_with fail
              go_roundw
              case rel =>
                refine ⟨.inr (.inr rfl), hB.trans ?_⟩
                exact (hB4.mono (by omega)).alloc (by have := hB4.size; omega) _
              case measure => simp [intOf]
    · go_wp2_with fail
      go_ret
      exact ⟨rfl, (bthen (bafter hb1) (ballo w1 _)).trans (hB.mono (by omega))⟩
end Go.Proofs.YtpjnlcdmbkbfcaaDoor
