/- Walks of the reference's Clashes, CheckClash (Wear). -/
import Derived.Test.YtnfndiafabhhdaaGreatG7
import Derived.Test.YtnfndiafabhhdaaGreatD1
namespace Go.Proofs.YtnfndiafabhhdaaGreat
open Go.ChangeShapes Go.WideShapes Go.ChangeAt Go.RowKit
set_option maxRecDepth 100000 in
set_option maxHeartbeats 2000000 in
theorem rClashes_any (F : Fl) (vv vs vI : Value) (I : List Int) (w : World) (hF : FlIn w F vv vs) (hO : OkF F) (hI : Ints w vI I) (hIt : ItOk F I) (hn : I.length ≤ 1000) :
    Calls Tryz.prog 122 #[flV F vv vs, vI] w fun e w' => e = .returned (.bool (!canI F I)) ∧ Below w.heap.size w w' := by
  have hR := rnR_c hO I
  have hL := lines_B1 hO hIt
  have hcan : (leftR (rnR F I) (linesL F I)).some = canI F I := canI_R hO fun i hi => (hIt i hi).2
  have hLC : RnC (leftR (rnR F I) (linesL F I)) := outR_bd hL hL hR
  have g1 := fun w h1 h2 => Of_any F vv vs vI I w h1 hO h2 hIt hn
  have g2 := fun v w h => Left_any (linesL F I) (rnR F I) v w h hL hR
  have g3 := fun w => rSome_any (leftR (rnR F I) (linesL F I)) w hLC.lo hLC.hi
  rw [hcan] at g3
  obtain ⟨S, hS⟩ : ∃ S, leftR (rnR F I) (linesL F I) = S := ⟨_, rfl⟩
  obtain ⟨R, hRR⟩ : ∃ R, rnR F I = R := ⟨_, rfl⟩
  rw [hS] at g2 g3
  rw [hRR] at g1 g2
  obtain ⟨⟨r1, r2, r3⟩, ⟨r4, r5, r6⟩, r7⟩ := R
  have BP := Lib.hid (Bk.new w 30 (flL' F vv vs))
  have HF0 := Lib.hid (hF.alloc (flO F vv vs))
  have HI0 := Lib.hid (hI.alloc (flO F vv vs))
  have G1 := Lib.hid g1
  have G2 := Lib.hid g2
  have G3 := Lib.hid g3
  clear g1 g2 g3 hR hL hcan hLC hS hRR hF hI hIt hn
  go_enter Tryz.func122, Tryz.ntmps122
  go_wp2_with (first | (refine ld_at rfl (T := 30) rfl rfl BP.out Tryz.underlying30 rfl (by kernel_rfl) ?_) | fail)
  refine (G1.out _ HF0.out HI0.out).mono ?_
  rintro e w1 ⟨s, rfl, hb, hOw⟩
  have HW1 := Lib.hid (bafter hb)
  have HRow := Lib.hid (OwnRl.row (owns_below hOw (ballo w1 (Obj.cells #[.int .i64 r1, .int .i64 r2, .int .i64 r4, .int .i64 r5, .bool r3, .bool r6, .bool r7] 129))))
  clear hb hOw
  go_wp2_with fail
  refine (G2.out _ _ HRow.out).mono ?_
  rintro e w2 ⟨rfl, hb2⟩
  have HW2 := Lib.hid (HW1.out.trans (((ballo w1 _).trans (hb2.mono (by simp))).mono HW1.out.size))
  clear hb2
  go_wp2_with fail
  refine (G3.out _).mono ?_
  rintro e w3 ⟨rfl, hb3⟩
  have HW3 := Lib.hid (bthen HW2.out hb3)
  clear hb3
  go_wp2_with fail
  go_ret
  exact ⟨rfl, HW3.out⟩
theorem but_take {l : List Int} {i k : Nat} (hk : k < l.length) : butL (l.take (k + 1)) i = butL (l.take k) i ++ (if k = i then [] else [liA l k]) := by
  have e : l.take (k + 1) = l.take k ++ [liA l k] := by
    unfold liA
    rw [List.take_add_one, List.getElem?_eq_getElem hk]
    rfl
  have hlen : (l.take k).length = k := by rw [List.length_take]; omega
  rw [e]
  obtain ⟨A, hA⟩ : ∃ A, l.take k = A := ⟨_, rfl⟩
  rw [hA] at hlen ⊢
  unfold butL
  rcases Nat.lt_trichotomy k i with c | c | c
  · rw [if_neg (by omega), List.take_of_length_le (by simp; omega), List.take_of_length_le (show A.length ≤ i by omega), List.drop_of_length_le (by simp; omega), List.drop_of_length_le (show A.length ≤ i + 1 by omega)]
    simp
  · subst c
    rw [if_pos rfl, List.take_append_of_le_length (by omega), List.drop_of_length_le (by simp; omega), List.drop_of_length_le (show A.length ≤ k + 1 by omega)]
    simp
  · rw [if_neg (by omega), List.take_append_of_le_length (by omega), List.drop_append_of_le_length (by omega), List.append_assoc]
theorem but_zero {l : List Int} {i : Nat} : butL (l.take 0) i = [] := by simp [butL]
theorem but_full {l : List Int} {i : Nat} : butL (l.take l.length) i = butL l i := by rw [List.take_length]
set_option maxRecDepth 100000 in
set_option maxHeartbeats 4000000 in
theorem rCheckClash_any (F : Fl) (vv vs : Value) (l : List Int) (o : Option Addr) (m c : Nat) (w : World) (hF : FlIn w F vv vs) (hl : Ints w (.slice o m c) l) (h4 : m ≤ 400) :
    Calls Tryz.prog 52 #[flV F vv vs, .slice o m c] w fun e w' => e = .returned (.int .i64 (ckV F l)) ∧ Below w.heap.size w w' := by
  obtain ⟨os, cs, rfl, ms⟩ := hF.s.parts
  have hlen := hl.len
  have BP := Lib.hid (Bk.new w 30 (flL' F vv (.slice os F.s.length cs)))
  have HF0 := Lib.hid (hF.alloc (flO F vv (.slice os F.s.length cs)))
  have HL0 := Lib.hid (hl.alloc (flO F vv (.slice os F.s.length cs)))
  clear hF hl
  obtain ⟨N, hN⟩ : ∃ n, F.s.length = n := ⟨_, rfl⟩
  rw [hN] at BP HF0 HL0 ms ⊢
  have HN := Lib.hid hN
  clear hN
  cases hok : okFl F with
  | false =>
    have HC := Lib.hid (show chkF F = 30 by unfold chkF; rw [if_neg (by rw [hok]; decide)])
    have HV := Lib.hid (show ckV F l = 30 by unfold ckV; rw [hok]; rfl)
    go_enter Tryz.func52, Tryz.ntmps52
    go_wp2_with (first | (refine ld_at rfl (T := 30) rfl rfl BP.out Tryz.underlying30 rfl (by kernel_rfl) ?_) | fail)
    refine (rCheck_any F _ _ _ HF0.out).mono ?_
    rw [HC.out]
    rintro e w1 ⟨rfl, hb⟩
    go_wp2_with fail
    go_ret
    exact ⟨by rw [HV.out]; rfl, bafter hb⟩
  | true =>
    have HC := Lib.hid (show chkF F = 0 by unfold chkF; rw [if_pos hok])
    have hO := (okFl_iff F).1 hok
    have n24 := hO.n
    rw [HN.out] at n24
    have hno : ∀ q : Ending, ckB F l = false → q = Ending.returned (.int .i64 32) → q = Ending.returned (.int .i64 (ckV F l)) := fun _ h e => by rw [ck_no hok h]; exact e
    have HNO := Lib.hid hno
    clear hno
    go_enter Tryz.func52, Tryz.ntmps52
    go_wp2_with (first | (refine ld_at rfl (T := 30) rfl rfl BP.out Tryz.underlying30 rfl (by kernel_rfl) ?_) | fail)
    refine (rCheck_any F _ _ _ HF0.out).mono ?_
    rw [HC.out]
    rintro e w1 ⟨rfl, hb⟩
    have HB1 := Lib.hid (bafter hb)
    have BP1 := Lib.hid (BP.out.below hb)
    have HF1 := Lib.hid (HF0.out.below hb)
    have HL1 := Lib.hid (HL0.out.below hb)
    clear hb BP HF0 HL0
    go_wp2_with fail
    go_loopw [6] (fun i wr => ∃ k : Nat, k ≤ m ∧ i = .int .i64 (k : Int) ∧ Hid (Below w1.heap.size w1 wr) ∧ Hid (∀ j, j < k → itB F l j = true)) (fun i _ => m - (intOf i).toNat)
    case atStart => exact ⟨0, Nat.zero_le _, rfl, Lib.hid (Below.refl _ _), Lib.hid (fun j hj => by omega)⟩
    case round =>
      obtain ⟨k, hk, rfl, hbl, hits⟩ := hrel
      by_cases h1 : k < m
      · obtain ⟨p, off, rfl, hp, hcs⟩ := (HL1.out.below hbl.out).cells (by omega)
        have d0 := hcs k h1
        have hx : l[k]?.getD 0 = liA l k := rfl
        rw [hx] at d0
        have hib : itB F l k = (inB (liA l k) (-2) ((N : Int) - 1) && !(decide (0 < k) && decide (liA l k ≤ liA l (k - 1)))) := by rw [← HN.out]; rfl
        have hbad : itB F l k = false → ckB F l = false := fun h => by
          unfold ckB itsB
          rw [hlen, all_ff h1 h]
          rfl
        have c5 := (BP1.out.below hbl.out).cell 5
        have cl := (BP1.out.below hbl.out).lt
        simp only [flL', List.getElem?_cons_zero, List.getElem?_cons_succ] at c5
        cases k with
        | zero =>
          obtain ⟨x, hxx⟩ : ∃ x, liA l 0 = x := ⟨_, rfl⟩
          rw [hxx] at d0 hib
          rw [Nat.add_zero] at d0
          clear hcs hx
          by_cases q1 : x < -2
          · have hd : decide (x < -2) = true := by simpa using q1
            have HB := Lib.hid (hbad (hib.trans (by simp [inB]; omega)))
            clear hib hbad hits
            go_wp2_with fail
            go_quiet (fail)
            go_wp2_with fail
            go_ret
            exact ⟨HNO.out _ HB.out rfl, HB1.out.trans ((below_drewN hbl.out _).mono HB1.out.size)⟩
          · have hd : decide (x < -2) = false := by simpa using q1
            by_cases q2 : (N : Int) ≤ x
            · have hd2 : decide ((N : Int) ≤ x) = true := by simpa using q2
              have HB := Lib.hid (hbad (hib.trans (by simp [inB]; omega)))
              clear hib hbad hits
              go_wp2_with fail
              go_quiet (fail)
              go_wp2_with fail
              go_ret
              exact ⟨HNO.out _ HB.out rfl, HB1.out.trans ((below_drewN hbl.out _).mono HB1.out.size)⟩
            · have hd2 : decide ((N : Int) ≤ x) = false := by simpa using q2
              have HB := Lib.hid (show itB F l 0 = true from hib.trans (by simp [inB]; omega))
              have HITS := Lib.hid hits.out
              clear hib hbad hits
              go_wp2_with fail
              go_quiet (fail)
              go_wp2_with fail
              refine ⟨⟨0 + 1, by omega, by go_num, Lib.hid (below_drewN hbl.out _), Lib.hid fun j hj => ?_⟩, by simp [intOf]; omega⟩
              rcases Nat.lt_or_ge j 0 with q | q
              · exact HITS.out j q
              · obtain rfl : j = 0 := by omega
                exact HB.out
        | succ k =>
          have d1 := hcs k (by omega)
          have hx1 : l[k]?.getD 0 = liA l k := rfl
          rw [hx1] at d1
          have hk1 : k + 1 - 1 = k := rfl
          rw [hk1] at hib
          obtain ⟨x, hxx⟩ : ∃ x, liA l (k + 1) = x := ⟨_, rfl⟩
          obtain ⟨y, hyy⟩ : ∃ x, liA l k = x := ⟨_, rfl⟩
          rw [hxx, hyy] at hib
          rw [hxx] at d0
          rw [hyy] at d1
          have hsub : IntKind.i64.wrap (((k + 1 : Nat) : Int) - 1) = (k : Int) := by rw [IntWalk.i64_in _ (by omega)]; omega
          have hpos : decide ((0 : Int) < ((k + 1 : Nat) : Int)) = true := by simp
          clear hcs hx hx1 hxx hyy hk1
          by_cases q1 : x < -2
          · have hd : decide (x < -2) = true := by simpa using q1
            have HB := Lib.hid (hbad (hib.trans (by simp [inB]; omega)))
            clear hib hbad hits
            go_wp2_with fail
            go_quiet (fail)
            go_wp2_with fail
            go_ret
            exact ⟨HNO.out _ HB.out rfl, HB1.out.trans ((below_drewN hbl.out _).mono HB1.out.size)⟩
          · have hd : decide (x < -2) = false := by simpa using q1
            by_cases q2 : (N : Int) ≤ x
            · have hd2 : decide ((N : Int) ≤ x) = true := by simpa using q2
              have HB := Lib.hid (hbad (hib.trans (by simp [inB]; omega)))
              clear hib hbad hits
              go_wp2_with fail
              go_quiet (fail)
              go_wp2_with fail
              go_ret
              exact ⟨HNO.out _ HB.out rfl, HB1.out.trans ((below_drewN hbl.out _).mono HB1.out.size)⟩
            · have hd2 : decide ((N : Int) ≤ x) = false := by simpa using q2
              by_cases q3 : x ≤ y
              · have hd3 : decide (x ≤ y) = true := by simpa using q3
                have HB := Lib.hid (hbad (hib.trans (by simp [q3])))
                clear hib hbad hits
                go_wp2_with fail
                go_quiet (fail)
                go_wp2_with fail
                go_ret
                exact ⟨HNO.out _ HB.out rfl, HB1.out.trans ((below_drewN hbl.out _).mono HB1.out.size)⟩
              · have hd3 : decide (x ≤ y) = false := by simpa using q3
                have HB := Lib.hid (show itB F l (k + 1) = true from hib.trans (by simp [inB]; omega))
                have HITS := Lib.hid hits.out
                clear hib hbad hits
                go_wp2_with fail
                go_quiet (fail)
                go_wp2_with fail
                refine ⟨⟨(k + 1) + 1, by omega, by go_num, Lib.hid (below_drewN hbl.out _), Lib.hid fun j hj => ?_⟩, by simp [intOf]; omega⟩
                rcases Nat.lt_or_ge j (k + 1) with q | q
                · exact HITS.out j q
                · obtain rfl : j = (k + 1) := by omega
                  exact HB.out
      · obtain rfl : k = m := by omega
        have hitb : itsB F l = true := by unfold itsB; rw [hlen]; exact all_tt hits.out
        have HIT := Lib.hid hitb
        have HITO := Lib.hid (itsB_ok hitb)
        have HBW := Lib.hid (HB1.out.trans (hbl.out.mono HB1.out.size))
        have BPr := Lib.hid (BP1.out.below hbl.out)
        have HFr := Lib.hid (HF1.out.below hbl.out)
        have HLr := Lib.hid (HL1.out.below hbl.out)
        clear hits hitb hbl HB1 BP1 HF1 HL1
        go_wp2_with (first | (refine ld_at rfl (T := 30) rfl rfl BPr.out Tryz.underlying30 rfl (by kernel_rfl) ?_) | fail)
        refine (rClashes_any F _ _ _ l _ HFr.out hO HLr.out HITO.out (by omega)).mono ?_
        rintro e w2 ⟨rfl, hb⟩
        have HB2 := Lib.hid (bthen HBW.out hb)
        have BP2 := Lib.hid (BPr.out.below hb)
        have HF2 := Lib.hid (HFr.out.below hb)
        have HL2 := Lib.hid (HLr.out.below hb)
        clear hb HBW BPr HFr HLr
        cases hc : canI F l with
        | true =>
          have HB := Lib.hid (show ckB F l = false by unfold ckB; rw [hc]; simp)
          go_wp2_with fail
          go_ret
          exact ⟨HNO.out _ HB.out rfl, HB2.out⟩
        | false =>
          go_wp2_with fail
          go_loopw [8] (fun i wr => ∃ j : Nat, j ≤ k ∧ i = .int .i64 (j : Int) ∧ Hid (Below w2.heap.size w2 wr) ∧ Hid (∀ t, t < j → canI F (butL l t) = true)) (fun i _ => k - (intOf i).toNat)
          case atStart => exact ⟨0, Nat.zero_le _, rfl, Lib.hid (Below.refl _ _), Lib.hid (fun t ht => by omega)⟩
          case round =>
            obtain ⟨j, hj, rfl, hbl, hmin⟩ := hrel
            obtain ⟨W3, hW3⟩ : ∃ W, W = wr := ⟨_, rfl⟩
            subst hW3
            by_cases h1 : j < k
            · go_wp2_with fail
              go_loopw [9, 10] (fun v i wr => ∃ t : Nat, t ≤ k ∧ i = .int .i64 (t : Int) ∧ Hid (OwnI wr W3.heap.size 3 v (butL (l.take t) j)) ∧ Hid (Below W3.heap.size W3 wr)) (fun _ i _ => k - (intOf i).toNat)
              case atStart => exact ⟨0, Nat.zero_le _, rfl, Lib.hid (by rw [but_zero]; exact World.ownsRow_nil _ _ _ _), Lib.hid (Below.refl _ _)⟩
              case round =>
                obtain ⟨t, ht, rfl, hO1, hbq⟩ := hrel
                have hszq := hbq.out.size
                by_cases h2 : t < k
                · have hst := but_take (l := l) (i := j) (k := t) (by omega)
                  by_cases h3 : t = j
                  · rw [if_pos h3, List.append_nil] at hst
                    have HST := Lib.hid hst
                    clear hst
                    subst h3
                    go_wp2_with fail
                    exact ⟨⟨t + 1, by omega, by go_num, Lib.hid (by rw [HST.out]; exact hO1.out), hbq⟩, by simp [intOf]; omega⟩
                  · rw [if_neg h3] at hst
                    have HST := Lib.hid hst
                    have hne : ((t : Int) == (j : Int)) = false := by simp; omega
                    obtain ⟨p, off, rfl, hp, hcs⟩ := ((HL2.out.below hbl.out).below hbq.out).cells (by omega)
                    have d0 := hcs t h2
                    have hx : l[t]?.getD 0 = liA l t := rfl
                    rw [hx] at d0
                    obtain ⟨x, hxx⟩ : ∃ x, liA l t = x := ⟨_, rfl⟩
                    rw [hxx] at d0
                    have HXX := Lib.hid hxx
                    have hln : (butL (l.take t) j).length ≤ 400 := by
                      have := butL_sub (L := l.take t) (k := j)
                      have := this.length_le
                      rw [List.length_take] at this
                      omega
                    have HLN := Lib.hid hln
                    clear hst hcs hx hxx h3 hln
                    go_wp2_with (with_reducible refine list_own Tryz.underlying51 int_el (by decide) (by decide) rfl (.tmp 74) (.tmp 79) rfl W3.heap.size _ _ _ rfl (owns_below hO1.out (ballo _ _)) ⟨wr.heap.size, 0, none⟩ _ [.int .i64 x] rfl rfl (news_bk (Bk.new _ _ [_])) ?_ ?_ ?_ ?_)
                    · intro u hu; simp at hu; subst hu; rfl
                    · have := HLN.out; omega
                    · simp; omega
                    intro g1 t2 q3 hO2 hP1 hG1 _
                    go_wp2_with fail
                    refine ⟨⟨t + 1, by omega, by go_num, Lib.hid ?_, Lib.hid ?_⟩, by simp [intOf]; omega⟩
                    · unfold OwnI
                      rw [HST.out, HXX.out, List.map_append, List.length_append]
                      exact hO2
                    · exact (hbq.out.alloc hszq _).trans hP1
                · obtain rfl : t = k := by omega
                  have hfull : butL (l.take t) j = butL l j := by rw [← hlen, but_full]
                  rw [hfull] at hO1
                  have hi5 := OwnI.ints hO1.out
                  have hl5 := butL_len (L := l) (k := j) (by omega)
                  have hit5 : ItOk F (butL l j) := fun x hx => HITO.out x (butL_sub.subset hx)
                  have hbr := hbl.out.trans (hbq.out.mono hbl.out.size)
                  have BP5 := Lib.hid (BP2.out.below hbr)
                  have HC5 := Lib.hid (fun vI hI => rClashes_any F _ _ vI (butL l j) wr (HF2.out.below hbr) hO hI hit5 (by omega))
                  have HI5 := Lib.hid hi5
                  have HBR := Lib.hid hbr
                  obtain ⟨o5, m5, c5, rfl, _, _⟩ := hi5.parts
                  clear hO1 hi5 hit5 hbr hfull
                  go_wp2_with (first | (refine ld_at rfl (T := 30) rfl rfl BP5.out Tryz.underlying30 rfl (by kernel_rfl) ?_) | fail)
                  refine (HC5.out _ HI5.out).mono ?_
                  rintro e w6 ⟨rfl, hb6⟩
                  have HB6 := Lib.hid (bthen HBR.out hb6)
                  clear hb6
                  cases hc5 : canI F (butL l j) with
                  | false =>
                    have HB := Lib.hid (show ckB F l = false by unfold ckB; rw [hlen, all_ff h1 hc5]; simp)
                    have hfin := Lib.hid (HB2.out.trans (HB6.out.mono HB2.out.size))
                    go_wp2_with fail
                    go_ret
                    exact ⟨HNO.out _ HB.out rfl, hfin.out⟩
                  | true =>
                    have HM := Lib.hid hmin.out
                    have HC6 := Lib.hid hc5
                    clear hmin
                    go_wp2_with fail
                    refine ⟨⟨j + 1, by omega, by go_num, HB6, Lib.hid fun u hu => ?_⟩, by simp [intOf]; omega⟩
                    rcases Nat.lt_or_ge u j with q | q
                    · exact HM.out u q
                    · obtain rfl : u = j := by omega
                      exact HC6.out
            · obtain rfl : j = k := by omega
              have HB := Lib.hid (ck_yes hok (show ckB F l = true by
                unfold ckB
                rw [HIT.out, hc, hlen, all_tt hmin.out]
                rfl))
              have hfin := Lib.hid (HB2.out.trans (hbl.out.mono HB2.out.size))
              go_wp2_with fail
              go_ret
              exact ⟨by rw [HB.out]; rfl, hfin.out⟩
set_option maxRecDepth 100000 in
set_option maxHeartbeats 2000000 in
theorem r2Same_any (l : List Rg) (va vb : Value) (w : World) (h1 : RgR w va l) (h2 : RgR w vb l) (hn : l.length ≤ 1000) : Calls Tryz.prog 124 #[va, vb] w fun e w' => e = .returned (.bool true) ∧ Below w.heap.size w w' := by
  obtain ⟨oa, ca, rfl, ma⟩ := h1.parts
  obtain ⟨ob, cb, rfl, mb⟩ := h2.parts
  obtain ⟨n, hnn⟩ : ∃ n, l.length = n := ⟨_, rfl⟩
  have HN := Lib.hid hnn
  have H1 := Lib.hid h1
  have H2 := Lib.hid h2
  clear h1 h2
  rw [hnn] at H1 H2 ma mb hn ⊢
  clear hnn
  go_enter Tryz.func124, Tryz.ntmps124
  go_wp2_with fail
  go_loopw [5] (fun i wr => ∃ k q : Nat, k ≤ n ∧ i = .int .i64 (k : Int) ∧ wr = w.drewN q) (fun i _ => n - (intOf i).toNat)
  case atStart => exact ⟨0, 0, Nat.zero_le _, rfl, rfl⟩
  case round =>
    obtain ⟨k, q, hk, rfl, rfl⟩ := hrel
    by_cases hkn : k < n
    · obtain ⟨ba, fa, rfl, hba, hca⟩ := H1.out.cells (by rw [HN.out]; omega)
      obtain ⟨bb, fb, rfl, hbb, hcb⟩ := H2.out.cells (by rw [HN.out]; omega)
      have a0 := hca k 0 (by rw [HN.out]; omega) (by omega)
      have a1 := hca k 1 (by rw [HN.out]; omega) (by omega)
      have a2 := hca k 2 (by rw [HN.out]; omega) (by omega)
      have b0 := hcb k 0 (by rw [HN.out]; omega) (by omega)
      have b1 := hcb k 1 (by rw [HN.out]; omega) (by omega)
      have b2 := hcb k 2 (by rw [HN.out]; omega) (by omega)
      simp only [rgF, Nat.add_zero] at a0 a1 a2 b0 b1 b2
      obtain ⟨r, hr⟩ : ∃ r, rg l k = r := ⟨_, rfl⟩
      rw [hr] at a0 a1 a2 b0 b1 b2
      obtain ⟨x, y, z⟩ := r
      simp only at a0 a1 a2 b0 b1 b2
      clear hca hcb hr
      go_wp2_with fail
      go_quiet (fail)
      go_wp2_with fail
      exact ⟨⟨k + 1, _, by omega, by go_num, by first | rfl | rw [World.drewN_drewN]⟩, by simp [intOf]; omega⟩
    · obtain rfl : k = n := by omega
      go_wp2_with fail
      go_ret
      exact ⟨rfl, below_drewN (Below.refl _ _) _⟩
set_option maxRecDepth 100000 in
set_option maxHeartbeats 4000000 in
theorem rSame_any (F : Fl) (v1 s1 v2 s2 : Value) (w : World) (h1 : FlIn w F v1 s1) (h2 : FlIn w F v2 s2) (hv : F.v.length ≤ 1000) (hs : F.s.length ≤ 1000) :
    Calls Tryz.prog 57 #[flV F v1 s1, flV F v2 s2] w fun e w' => e = .returned (.bool true) ∧ Below w.heap.size w w' := by
  obtain ⟨o1, c1, rfl, m1⟩ := h1.s.parts
  obtain ⟨o2, c2, rfl, m2⟩ := h2.s.parts
  obtain ⟨n, hnn⟩ : ∃ n, F.s.length = n := ⟨_, rfl⟩
  have HN := Lib.hid hnn
  rw [hnn] at h1 h2 m1 m2 hs ⊢
  clear hnn
  have hB1 := (Bk.new w 30 (flL' F v1 (.slice o1 n c1))).alloc (flO F v2 (.slice o2 n c2))
  have hB2 := Bk.new1 w (flO F v1 (.slice o1 n c1)) 30 (flL' F v2 (.slice o2 n c2))
  have H1 := Lib.hid ((h1.alloc (flO F v1 (.slice o1 n c1))).alloc (flO F v2 (.slice o2 n c2)))
  have H2 := Lib.hid ((h2.alloc (flO F v1 (.slice o1 n c1))).alloc (flO F v2 (.slice o2 n c2)))
  have HB1 := Lib.hid hB1
  have HB2 := Lib.hid hB2
  obtain ⟨a1, d1, rfl, _⟩ := h1.v.parts
  obtain ⟨a2, d2, rfl, _⟩ := h2.v.parts
  clear h1 h2 hB1 hB2
  go_enter Tryz.func57, Tryz.ntmps57
  go_wp2_with fail
  refine (r2Same_any F.v _ _ _ H1.out.v H2.out.v hv).mono ?_
  rintro e w1 ⟨rfl, hb⟩
  have hB1 := HB1.out.below hb
  have hB2 := HB2.out.below hb
  have x1 := hB1.cell 1
  have x2 := hB1.cell 2
  have x3 := hB1.cell 3
  have x4 := hB1.cell 4
  have x5 := hB1.cell 5
  have xl := hB1.lt
  have y1 := hB2.cell 1
  have y2 := hB2.cell 2
  have y3 := hB2.cell 3
  have y4 := hB2.cell 4
  have y5 := hB2.cell 5
  have yl := hB2.lt
  simp only [flL', List.getElem?_cons_zero, List.getElem?_cons_succ] at x1 x2 x3 x4 x5 y1 y2 y3 y4 y5
  have HW := Lib.hid (bafter (bafter hb))
  have G1 := Lib.hid (H1.out.below hb)
  have G2 := Lib.hid (H2.out.below hb)
  clear hb hB1 hB2 H1 H2
  go_wp2_with fail
  go_loopw [6] (fun i wr => ∃ k q : Nat, k ≤ n ∧ i = .int .i64 (k : Int) ∧ wr = w1.drewN q) (fun i _ => n - (intOf i).toNat)
  case atStart => exact ⟨0, 0, Nat.zero_le _, rfl, rfl⟩
  case round =>
    obtain ⟨k, q, hk, rfl, rfl⟩ := hrel
    by_cases hkn : k < n
    · obtain ⟨ba, fa, rfl, hba, hca⟩ := G1.out.s.cells (by rw [HN.out]; omega)
      obtain ⟨bb, fb, rfl, hbb, hcb⟩ := G2.out.s.cells (by rw [HN.out]; omega)
      have e0 := hca k 0 (by rw [HN.out]; omega) (by omega)
      have e1 := hca k 1 (by rw [HN.out]; omega) (by omega)
      have e2 := hca k 2 (by rw [HN.out]; omega) (by omega)
      have e3 := hca k 3 (by rw [HN.out]; omega) (by omega)
      have b0 := hcb k 0 (by rw [HN.out]; omega) (by omega)
      have b1 := hcb k 1 (by rw [HN.out]; omega) (by omega)
      have b2 := hcb k 2 (by rw [HN.out]; omega) (by omega)
      have b3 := hcb k 3 (by rw [HN.out]; omega) (by omega)
      simp only [snF, Nat.add_zero] at e0 e1 e2 e3 b0 b1 b2 b3
      obtain ⟨r, hr⟩ : ∃ r, snA F.s k = r := ⟨_, rfl⟩
      rw [hr] at e0 e1 e2 e3 b0 b1 b2 b3
      obtain ⟨x, y, z, u⟩ := r
      simp only at e0 e1 e2 e3 b0 b1 b2 b3
      clear hca hcb hr
      go_wp2_with fail
      go_quiet (fail)
      go_wp2_with fail
      exact ⟨⟨k + 1, _, by omega, by go_num, by first | rfl | rw [World.drewN_drewN]⟩, by simp [intOf]; omega⟩
    · obtain rfl : k = n := by omega
      go_wp2_with fail
      go_ret
      exact ⟨rfl, below_drewN HW.out _⟩
end Go.Proofs.YtnfndiafabhhdaaGreat
