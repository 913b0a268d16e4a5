/- The walk of HoursCalendars at a day that is in range. -/
import Derived.Test.YtpjnlcdmbkbfcaaDoorCal
import Derived.Deep.CutRange
namespace Go.Proofs.YtpjnlcdmbkbfcaaDoor
open Go.ChangeShapes Go.WideShapes Go.ChangeAt Go.RowKit Go.BigFrame
set_option maxRecDepth 100000 in
set_option maxHeartbeats 16000000 in
theorem law_cal_in (day ye mo da : Int) (w : World) (r1 : 0 ≤ day) (r2 : day ≤ 3000000) :
    Calls Tryd.prog 7 #[.int .i64 day, .agg #[.int .i64 ye, .int .i64 mo, .int .i64 da]] w fun e w' => e = .returned (.bool true) ∧ Below w.heap.size w w' := by
  go_enter Tryd.func7, Tryd.ntmps7
  go_wp2_with fail
  refine (sane_any _).mono ?_
  rintro e w1 ⟨rfl, hb1⟩
  have hD1 : Box w1 w.heap.size [.int .i64 ye, .int .i64 mo, .int .i64 da] := (Box.new w _ 50).below hb1
  have hlt1 := hD1.lt
  go_wp2_with fail
  have hw1 := hb1.size
  simp only [World.size_alloc] at hw1
  go_loopw [28] (fun i wr => Ix3' i ∧ Below (w1.heap.size + 1) (w1.alloc (.cells #[.func (.func 34) #[] #[], .func (.func 37) #[] #[], .int .i64 13, .int .i64 128, .int .i64 46751, .func (.func 35) #[] #[], .func (.func 40) #[] #[], .int .i64 12, .int .i64 30, .int .i64 10631] 56)) wr) (fun i _ => (2 - intOf i).toNat)
  case atStart => exact ⟨.inl rfl, Below.refl _ _⟩
  case round =>
    obtain ⟨hk, hB⟩ := hrel
    have hz := hB.size
    simp only [World.size_alloc] at hz
    have hB' : Below (w1.alloc (.cells #[.func (.func 34) #[] #[], .func (.func 37) #[] #[], .int .i64 13, .int .i64 128, .int .i64 46751, .func (.func 35) #[] #[], .func (.func 40) #[] #[], .int .i64 12, .int .i64 30, .int .i64 10631] 56)).heap.size (w1.alloc (.cells #[.func (.func 34) #[] #[], .func (.func 37) #[] #[], .int .i64 13, .int .i64 128, .int .i64 46751, .func (.func 35) #[] #[], .func (.func 40) #[] #[], .int .i64 12, .int .i64 30, .int .i64 10631] 56)) wr := by rw [World.size_alloc]; exact hB
    have hDr : Box wr w.heap.size [.int .i64 ye, .int .i64 mo, .int .i64 da] := (hD1.alloc _).below hB'
    have hTr : Box wr w1.heap.size [.func (.func 34) #[] #[], .func (.func 37) #[] #[], .int .i64 13, .int .i64 128, .int .i64 46751, .func (.func 35) #[] #[], .func (.func 40) #[] #[], .int .i64 12, .int .i64 30, .int .i64 10631] := (Box.new w1 _ _).below hB'
    have hL0 := ((Bx.none wr).putc hDr).putc hTr
    have hC := hL0.facts
    simp only [AllC, RowC, Nat.zero_add, Nat.reduceAdd] at hC
    rcases hk with rfl | rfl | rfl
    · as_aux_lemma =>
        have hL1 := ((Bx.none wr).putc hDr).cons [.func (.func 34) #[] #[], .func (.func 37) #[] #[], .int .i64 13, .int .i64 128, .int .i64 46751] 56
        have hB1 : Below wr.heap.size wr (wr.alloc (.cells #[.func (.func 34) #[] #[], .func (.func 37) #[] #[], .int .i64 13, .int .i64 128, .int .i64 46751] 56)) := ballo _ _
        obtain ⟨nv, ne, e1, e2, hne⟩ := num_cases false ye mo da
        have NV := Lib.hid e1
        have NE := Lib.hid e2
        have HNE := Lib.hid hne
        clear e1 e2 hne
        go_wp2_with fail
        clear hC
        refine (CourtDay_c ye mo da _ _ _ NV.out NE.out).mono ?_
        rintro e w2 ⟨rfl, hb⟩
        have hL2 := hL1.below hb
        have hB2 := bnext hB1 hb
        have hC := hL2.facts
        simp only [AllC, RowC, Nat.zero_add, Nat.reduceAdd] at hC
        have hX2 := hb
        have HL2 := Lib.hid hL2
        go_upto_if 40 with fail
        go_cut [10] from 39 to 40 (fun _ wx => Below w2.heap.size w2 wx)
        case first =>
          rcases HNE.out with rfl | ⟨rfl, nd, nc⟩
          · go_wp2_with fail
            go_meet
            case rel => exact Below.refl _ _
          · have ND := Lib.hid nd
            have NC := Lib.hid nc
            clear nd nc
            go_wp2_with fail
            clear hC
            refine (Court_c _ _ _ _ _ _ ND.out NC.out).mono ?_
            rintro e w3 ⟨rfl, hb⟩
            have hL3 := hL2.below hb
            have hB3 := bnext hB2 hb
            have hC := hL3.facts
            simp only [AllC, RowC, Nat.zero_add, Nat.reduceAdd] at hC
            have hX3 := hb
            go_wp2_with fail
            go_meet
            case rel => exact hX3.alloc hX3.size _
        case rest =>
          rename World => w3
          have hL3 := HL2.out.below hcut
          have hB3 := bnext hB2 hcut
          clear hC
          have hC := hL3.facts
          simp only [AllC, RowC, Nat.zero_add, Nat.reduceAdd] at hC
          have HL3 := Lib.hid hL3
          have HC := Lib.hid hC
          go_upto_region 11 with fail
          go_cut [68] from 55 to 56 (fun s wx => s = .bool (or (decide (day < 0)) (decide (3000000 < day))) ∧ wx = w3)
          case first =>
            clear hC hL3 HL3
            rcases HNE.out with rfl | ⟨rfl, nd, nc⟩
            all_goals
              go_wp2_with fail
              all_goals
                go_meet
                exact ⟨congrArg Value.bool (by first | rfl | (simp; done) | (simp; omega)), rfl⟩
          case rest =>
            obtain ⟨rfl, hcw⟩ := hcut
            subst hcw
            rename World => w3
            have hL3 := HL3.out; have hC := HC.out
            rw [show (or (decide (day < 0)) (decide (3000000 < day))) = false by simp; omega]
            obtain ⟨y, m, d, s, ⟨e1, e2⟩, ⟨f1, f2⟩, ⟨y1, y2'⟩, ⟨m1, m2'⟩, ⟨c1, c2⟩, ⟨s1, s2⟩, ⟨h1, h2⟩, ⟨i1, i2⟩, y2, m2, d2, ⟨g1, g2⟩, hnx⟩ := cal_in_Court r1 r2
            have HNX := Lib.hid hnx
            have E1 := Lib.hid e1
            have E2 := Lib.hid e2
            have F1 := Lib.hid f1
            have F2 := Lib.hid f2
            have G1 := Lib.hid g1
            have G2 := Lib.hid g2
            have H1 := Lib.hid h1
            have H2 := Lib.hid h2
            have I1 := Lib.hid i1
            have I2 := Lib.hid i2
            clear e1 e2 f1 f2 g1 g2 h1 h2 i1 i2 hnx
            go_wp2_with fail
            clear hC
            refine (Court_c day _ _ _ _ _ E1.out E2.out).mono ?_
            rintro e w4 ⟨rfl, hb⟩
            have hL4 := hL3.below hb
            have hB4 := bnext hB3 hb
            have hC := hL4.facts
            simp only [AllC, RowC, Nat.zero_add, Nat.reduceAdd] at hC
            go_wp2_with fail
            clear hC
            refine (CourtDay_c _ _ _ _ _ _ F1.out F2.out).mono ?_
            rintro e w5 ⟨rfl, hb⟩
            have hL5 := (hL4.cons _ _).below hb
            have hB5 := bnextA hB4 hb
            have hC := hL5.facts
            simp only [AllC, RowC, Nat.zero_add, Nat.reduceAdd] at hC
            go_wp2_with fail
            clear hC
            refine (Court_c (day + 1) _ _ _ _ _ G1.out G2.out).mono ?_
            rintro e w6 ⟨rfl, hb⟩
            have hL6 := hL5.below hb
            have hB6 := bnext hB5 hb
            have hC := hL6.facts
            simp only [AllC, RowC, Nat.zero_add, Nat.reduceAdd] at hC
            go_upto_region 20 with fail
            have hL7 := hL6.cons [.int .i64 y2, .int .i64 m2, .int .i64 d2] 50
            have hB7 := bthen hB6 (ballo w6 (Obj.cells #[.int .i64 y2, .int .i64 m2, .int .i64 d2] 50))
            clear hC
            generalize hwq : w6.alloc (Obj.cells #[.int .i64 y2, .int .i64 m2, .int .i64 d2] 50) = w7 at *
            clear hwq
            have hC := hL7.facts
            simp only [AllC, RowC, Nat.zero_add, Nat.reduceAdd] at hC
            go_cut [19] from 119 to 120 (fun s wx => (s = .bool false ∧ y2 = y ∧ m2 = m ∧ d2 = d + 1 ∨ s = .bool true ∧ y2 = y ∧ m2 = m + 1 ∧ d2 = 1 ∨ s = .bool true ∧ y2 = y + 1 ∧ m2 = 1 ∧ d2 = 1 ∧ m = 13) ∧ wx = w7)
            case first =>
              rcases HNX.out with ⟨rfl, rfl, rfl⟩ | ⟨rfl, rfl, rfl⟩ | ⟨rfl, rfl, rfl, rfl⟩
              all_goals
                go_wp2_with fail
                go_meet
                refine ⟨by simp, rfl⟩
            case rest =>
              obtain ⟨hs, hcw⟩ := hcut
              subst hcw
              rename World => w7
              go_upto_region 21 with fail
              go_cut [192] from 157 to 158 (fun s wx => s = .bool false ∧ wx = w7)
              case first =>
                rcases hs with ⟨rfl, rfl, rfl, rfl⟩ | ⟨rfl, rfl, rfl, rfl⟩ | ⟨rfl, rfl, rfl, rfl, rfl⟩
                all_goals
                  go_wp2_with fail
                  all_goals
                    go_meet
                    exact ⟨congrArg Value.bool (by first | rfl | (simp; done) | (simp; omega)), rfl⟩
              case rest =>
                obtain ⟨rfl, hcw⟩ := hcut
                subst hcw
                rename World => w7
                clear hs
                go_wp2_with fail
                clear hC
                refine (CourtDay_c _ 1 1 _ _ _ H1.out H2.out).mono ?_
                rintro e w8 ⟨rfl, hb⟩
                have hL8 := hL7.below hb
                have hB8 := bnext hB7 hb
                have hC := hL8.facts
                simp only [AllC, RowC, Nat.zero_add, Nat.reduceAdd] at hC
                go_wp2_with fail
                clear hC
                refine (CourtDay_c _ 1 1 _ _ _ I1.out I2.out).mono ?_
                rintro e w9 ⟨rfl, hb⟩
                have hL9 := hL8.below hb
                have hB9 := bnext hB8 hb
                have hC := hL9.facts
                simp only [AllC, RowC, Nat.zero_add, Nat.reduceAdd] at hC
                go_wp2_with fail
                go_roundw
                case rel =>
                  refine ⟨.inr (.inl rfl), hB.trans ?_⟩
                  exact hB9.mono (by omega)
                case measure => simp [intOf]
    · as_aux_lemma =>
        have hL1 := ((Bx.none wr).putc hDr).cons [.func (.func 35) #[] #[], .func (.func 40) #[] #[], .int .i64 12, .int .i64 30, .int .i64 10631] 56
        have hB1 : Below wr.heap.size wr (wr.alloc (.cells #[.func (.func 35) #[] #[], .func (.func 40) #[] #[], .int .i64 12, .int .i64 30, .int .i64 10631] 56)) := ballo _ _
        obtain ⟨nv, ne, e1, e2, hne⟩ := num_cases true ye mo da
        have NV := Lib.hid e1
        have NE := Lib.hid e2
        have HNE := Lib.hid hne
        clear e1 e2 hne
        go_wp2_with fail
        clear hC
        refine (MarketDay_c ye mo da _ _ _ NV.out NE.out).mono ?_
        rintro e w2 ⟨rfl, hb⟩
        have hL2 := hL1.below hb
        have hB2 := bnext hB1 hb
        have hC := hL2.facts
        simp only [AllC, RowC, Nat.zero_add, Nat.reduceAdd] at hC
        have hX2 := hb
        have HL2 := Lib.hid hL2
        go_upto_if 40 with fail
        go_cut [10] from 39 to 40 (fun _ wx => Below w2.heap.size w2 wx)
        case first =>
          rcases HNE.out with rfl | ⟨rfl, nd, nc⟩
          · go_wp2_with fail
            go_meet
            case rel => exact Below.refl _ _
          · have ND := Lib.hid nd
            have NC := Lib.hid nc
            clear nd nc
            go_wp2_with fail
            clear hC
            refine (Market_c _ _ _ _ _ _ ND.out NC.out).mono ?_
            rintro e w3 ⟨rfl, hb⟩
            have hL3 := hL2.below hb
            have hB3 := bnext hB2 hb
            have hC := hL3.facts
            simp only [AllC, RowC, Nat.zero_add, Nat.reduceAdd] at hC
            have hX3 := hb
            go_wp2_with fail
            go_meet
            case rel => exact hX3.alloc hX3.size _
        case rest =>
          rename World => w3
          have hL3 := HL2.out.below hcut
          have hB3 := bnext hB2 hcut
          clear hC
          have hC := hL3.facts
          simp only [AllC, RowC, Nat.zero_add, Nat.reduceAdd] at hC
          have HL3 := Lib.hid hL3
          have HC := Lib.hid hC
          go_upto_region 11 with fail
          go_cut [68] from 55 to 56 (fun s wx => s = .bool (or (decide (day < 0)) (decide (3000000 < day))) ∧ wx = w3)
          case first =>
            clear hC hL3 HL3
            rcases HNE.out with rfl | ⟨rfl, nd, nc⟩
            all_goals
              go_wp2_with fail
              all_goals
                go_meet
                exact ⟨congrArg Value.bool (by first | rfl | (simp; done) | (simp; omega)), rfl⟩
          case rest =>
            obtain ⟨rfl, hcw⟩ := hcut
            subst hcw
            rename World => w3
            have hL3 := HL3.out; have hC := HC.out
            rw [show (or (decide (day < 0)) (decide (3000000 < day))) = false by simp; omega]
            obtain ⟨y, m, d, s, ⟨e1, e2⟩, ⟨f1, f2⟩, ⟨y1, y2'⟩, ⟨m1, m2'⟩, ⟨c1, c2⟩, ⟨s1, s2⟩, ⟨h1, h2⟩, ⟨i1, i2⟩, y2, m2, d2, ⟨g1, g2⟩, hnx⟩ := cal_in_Market r1 r2
            have HNX := Lib.hid hnx
            have E1 := Lib.hid e1
            have E2 := Lib.hid e2
            have F1 := Lib.hid f1
            have F2 := Lib.hid f2
            have G1 := Lib.hid g1
            have G2 := Lib.hid g2
            have H1 := Lib.hid h1
            have H2 := Lib.hid h2
            have I1 := Lib.hid i1
            have I2 := Lib.hid i2
            clear e1 e2 f1 f2 g1 g2 h1 h2 i1 i2 hnx
            go_wp2_with fail
            clear hC
            refine (Market_c day _ _ _ _ _ E1.out E2.out).mono ?_
            rintro e w4 ⟨rfl, hb⟩
            have hL4 := hL3.below hb
            have hB4 := bnext hB3 hb
            have hC := hL4.facts
            simp only [AllC, RowC, Nat.zero_add, Nat.reduceAdd] at hC
            go_wp2_with fail
            clear hC
            refine (MarketDay_c _ _ _ _ _ _ F1.out F2.out).mono ?_
            rintro e w5 ⟨rfl, hb⟩
            have hL5 := (hL4.cons _ _).below hb
            have hB5 := bnextA hB4 hb
            have hC := hL5.facts
            simp only [AllC, RowC, Nat.zero_add, Nat.reduceAdd] at hC
            go_wp2_with fail
            clear hC
            refine (Market_c (day + 1) _ _ _ _ _ G1.out G2.out).mono ?_
            rintro e w6 ⟨rfl, hb⟩
            have hL6 := hL5.below hb
            have hB6 := bnext hB5 hb
            have hC := hL6.facts
            simp only [AllC, RowC, Nat.zero_add, Nat.reduceAdd] at hC
            go_upto_region 20 with fail
            have hL7 := hL6.cons [.int .i64 y2, .int .i64 m2, .int .i64 d2] 50
            have hB7 := bthen hB6 (ballo w6 (Obj.cells #[.int .i64 y2, .int .i64 m2, .int .i64 d2] 50))
            clear hC
            generalize hwq : w6.alloc (Obj.cells #[.int .i64 y2, .int .i64 m2, .int .i64 d2] 50) = w7 at *
            clear hwq
            have hC := hL7.facts
            simp only [AllC, RowC, Nat.zero_add, Nat.reduceAdd] at hC
            go_cut [19] from 119 to 120 (fun s wx => (s = .bool false ∧ y2 = y ∧ m2 = m ∧ d2 = d + 1 ∨ s = .bool true ∧ y2 = y ∧ m2 = m + 1 ∧ d2 = 1 ∨ s = .bool true ∧ y2 = y + 1 ∧ m2 = 1 ∧ d2 = 1 ∧ m = 12) ∧ wx = w7)
            case first =>
              rcases HNX.out with ⟨rfl, rfl, rfl⟩ | ⟨rfl, rfl, rfl⟩ | ⟨rfl, rfl, rfl, rfl⟩
              all_goals
                go_wp2_with fail
                go_meet
                refine ⟨by simp, rfl⟩
            case rest =>
              obtain ⟨hs, hcw⟩ := hcut
              subst hcw
              rename World => w7
              go_upto_region 21 with fail
              go_cut [192] from 157 to 158 (fun s wx => s = .bool false ∧ wx = w7)
              case first =>
                rcases hs with ⟨rfl, rfl, rfl, rfl⟩ | ⟨rfl, rfl, rfl, rfl⟩ | ⟨rfl, rfl, rfl, rfl, rfl⟩
                all_goals
                  go_wp2_with fail
                  all_goals
                    go_meet
                    exact ⟨congrArg Value.bool (by first | rfl | (simp; done) | (simp; omega)), rfl⟩
              case rest =>
                obtain ⟨rfl, hcw⟩ := hcut
                subst hcw
                rename World => w7
                clear hs
                go_wp2_with fail
                clear hC
                refine (MarketDay_c _ 1 1 _ _ _ H1.out H2.out).mono ?_
                rintro e w8 ⟨rfl, hb⟩
                have hL8 := hL7.below hb
                have hB8 := bnext hB7 hb
                have hC := hL8.facts
                simp only [AllC, RowC, Nat.zero_add, Nat.reduceAdd] at hC
                go_wp2_with fail
                clear hC
                refine (MarketDay_c _ 1 1 _ _ _ I1.out I2.out).mono ?_
                rintro e w9 ⟨rfl, hb⟩
                have hL9 := hL8.below hb
                have hB9 := bnext hB8 hb
                have hC := hL9.facts
                simp only [AllC, RowC, Nat.zero_add, Nat.reduceAdd] at hC
                go_wp2_with fail
                go_roundw
                case rel =>
                  refine ⟨.inr (.inr rfl), hB.trans ?_⟩
                  exact hB9.mono (by omega)
                case measure => simp [intOf]
    · go_wp2_with fail
      go_ret
      exact ⟨rfl, (bthen (bafter hb1) (ballo w1 _)).trans (hB.mono (by omega))⟩
end Go.Proofs.YtpjnlcdmbkbfcaaDoor
