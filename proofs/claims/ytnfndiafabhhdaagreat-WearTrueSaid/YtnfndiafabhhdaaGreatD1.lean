/- Walk of CheckClash (Wear). -/
import Derived.Test.YtnfndiafabhhdaaGreatC9
namespace Go.Proofs.YtnfndiafabhhdaaGreat
open Go.ChangeShapes Go.WideShapes Go.ChangeAt Go.RowKit
def liA (l : List Int) (k : Nat) : Int := l[k]?.getD 0
def itB (F : Fl) (l : List Int) (k : Nat) : Bool := inB (liA l k) (-2) ((F.s.length : Int) - 1) && !(decide (0 < k) && decide (liA l k ≤ liA l (k - 1)))
def itsB (F : Fl) (l : List Int) : Bool := (List.range l.length).all (itB F l)
def ckB (F : Fl) (l : List Int) : Bool := itsB F l && (!canI F l && (List.range l.length).all fun k => canI F (butL l k))
def ckV (F : Fl) (l : List Int) : Int := if okFl F then if ckB F l then 0 else 32 else 30
theorem itsB_ok {F : Fl} {l : List Int} (h : itsB F l = true) : ItOk F l := fun x hx => by
  obtain ⟨k, hk, rfl⟩ := List.mem_iff_getElem.1 hx
  have := List.all_eq_true.1 h k (List.mem_range.2 hk)
  simp only [itB, Bool.and_eq_true] at this
  have := inB_t this.1
  simp only [liA, List.getElem?_eq_getElem hk, Option.getD_some] at this
  omega
theorem ck_no {F : Fl} {l : List Int} (hok : okFl F = true) (h : ckB F l = false) : ckV F l = 32 := by unfold ckV; rw [hok, h]; rfl
theorem ck_yes {F : Fl} {l : List Int} (hok : okFl F = true) (h : ckB F l = true) : ckV F l = 0 := by unfold ckV; rw [hok, h]; rfl
theorem all_ff {n k : Nat} {f : Nat → Bool} (hk : k < n) (h : f k = false) : (List.range n).all f = false := by
  rw [List.all_eq_false]
  exact ⟨k, List.mem_range.2 hk, by rw [h]; decide⟩
theorem all_tt {n : Nat} {f : Nat → Bool} (h : ∀ k, k < n → f k = true) : (List.range n).all f = true := List.all_eq_true.2 fun k hk => h k (List.mem_range.1 hk)
set_option maxRecDepth 100000 in
set_option maxHeartbeats 4000000 in
theorem CheckClash_any (F : Fl) (vv vs : Value) (l : List Int) (o : Option Addr) (m c : Nat) (w : World) (hF : FlIn w F vv vs) (hl : Ints w (.slice o m c) l) (hmc : m ≤ c) (h4 : m ≤ 400) :
    Calls Tryz.prog 41 #[flV F vv vs, .slice o m c] w fun e w' => e = .returned (.int .i64 (ckV F l)) ∧ Below w.heap.size w w' := by
  have hO := opened_any F vv vs _ (hF.alloc (flO F vv vs))
  obtain ⟨os, cs, rfl, ms⟩ := hF.s.parts
  obtain ⟨ov, cv, rfl, mv⟩ := hF.v.parts
  have hlen := hl.len
  have HO := Lib.hid hO
  have HL0 := Lib.hid (hl.alloc (flO F (.slice ov F.v.length cv) (.slice os F.s.length cs)))
  clear hO hF hl
  go_enter Tryz.func41, Tryz.ntmps41
  go_wp2_with fail
  refine HO.out.mono ?_
  rintro e w1 (⟨h0, rfl, hb1⟩ | ⟨b, pv, rfl, hb1, hS⟩)
  · have hbw := Lib.hid (bafter hb1)
    have HV := Lib.hid (show ckV F l = 30 by unfold ckV; rw [h0]; rfl)
    clear hb1
    go_wp2_with fail
    go_ret
    exact ⟨by rw [HV.out]; rfl, hbw.out⟩
  · have hok : okFl F = true := (okFl_iff F).2 hS.o
    have hbw := Lib.hid (bafter hb1)
    have HS := Lib.hid hS
    have HL := Lib.hid (HL0.out.below hb1)
    have n24 := hS.o.n
    have c0 := hS.k.cell 5
    simp only [styC, List.getElem?_cons_zero, List.getElem?_cons_succ] at c0
    have hlt := hS.k.lt
    obtain ⟨N, hN⟩ : ∃ n, F.s.length = n := ⟨_, rfl⟩
    have HN := Lib.hid hN
    rw [hN] at c0 n24 ⊢
    clear hb1 hS HO HL0 hN
    have hno : ∀ q : Ending, ckB F l = false → q = Ending.returned (.int .i64 32) → q = Ending.returned (.int .i64 (ckV F l)) := fun _ h e => by rw [ck_no hok h]; exact e
    have HNO := Lib.hid hno
    clear hno
    go_wp2_with fail
    go_loopw [20] (fun i wr => ∃ k : Nat, k ≤ m ∧ i = .int .i64 (k : Int) ∧ wr = w1 ∧ Hid (∀ j, j < k → itB F l j = true)) (fun i _ => m - (intOf i).toNat)
    case atStart => exact ⟨0, Nat.zero_le _, rfl, rfl, fun j hj => by omega⟩
    case round =>
      obtain ⟨k, hk, rfl, hw, hits⟩ := hrel
      have hw := hw.symm
      subst hw
      by_cases h1 : k < m
      · obtain ⟨p, off, rfl, hp, hcs⟩ := HL.out.cells (by omega)
        have d0 := hcs k h1
        have hx : l[k]?.getD 0 = liA l k := rfl
        rw [hx] at d0
        have hib : itB F l k = (inB (liA l k) (-2) ((N : Int) - 1) && !(decide (0 < k) && decide (liA l k ≤ liA l (k - 1)))) := by rw [← HN.out]; rfl
        have hbad : itB F l k = false → ckB F l = false := fun h => by
          unfold ckB itsB
          rw [hlen, all_ff h1 h]
          rfl
        cases k with
        | zero =>
          obtain ⟨x, hxx⟩ : ∃ x, liA l 0 = x := ⟨_, rfl⟩
          rw [hxx] at d0 hib
          rw [Nat.add_zero] at d0
          clear hcs hx
          cases h2 : inB x (-2) ((N : Int) - 1) with
          | false =>
            rw [h2] at hib
            have HB := Lib.hid (hbad (hib.trans rfl))
            clear hib hbad hits hxx
            go_wp2_with (go_at_call 78; (with_reducible refine (from_any _ _ _ _).mono ?_); rintro e w' ⟨rfl, rfl⟩)
            go_ret
            exact ⟨HNO.out _ HB.out rfl, hbw.out⟩
          | true =>
            rw [h2] at hib
            have HB := Lib.hid (show itB F l 0 = true from hib.trans (by simp))
            clear hib hbad hits hxx
            go_wp2_with (go_at_call 78; (with_reducible refine (from_any _ _ _ _).mono ?_); rintro e w' ⟨rfl, rfl⟩)
            refine ⟨⟨1, by omega, by go_num, by first | rfl | trivial, fun j hj => ?_⟩, by simp [intOf]; omega⟩
            obtain rfl : j = 0 := by omega
            exact HB.out
        | succ k =>
          have d1 := hcs k (by omega)
          have hx1 : l[k]?.getD 0 = liA l k := rfl
          rw [hx1] at d1
          have hk1 : k + 1 - 1 = k := rfl
          rw [hk1] at hib
          obtain ⟨x, hxx⟩ : ∃ x, liA l (k + 1) = x := ⟨_, rfl⟩
          obtain ⟨y, hyy⟩ : ∃ x, liA l k = x := ⟨_, rfl⟩
          rw [hxx, hyy] at hib
          rw [hxx] at d0
          rw [hyy] at d1
          have hsub : IntKind.i64.wrap (((k + 1 : Nat) : Int) - 1) = (k : Int) := by rw [IntWalk.i64_in _ (by omega)]; omega
          clear hcs hx hx1 hxx hyy hk1
          cases h2 : inB x (-2) ((N : Int) - 1) with
          | false =>
            rw [h2] at hib
            have HB := Lib.hid (hbad (hib.trans rfl))
            clear hib hbad hits
            go_wp2_with (go_at_call 78; (with_reducible refine (from_any _ _ _ _).mono ?_); rintro e w' ⟨rfl, rfl⟩)
            go_ret
            exact ⟨HNO.out _ HB.out rfl, hbw.out⟩
          | true =>
            rw [h2] at hib
            by_cases h3 : x ≤ y
            · have HB := Lib.hid (hbad (hib.trans (by simp [h3])))
              clear hib hbad hits
              go_wp2_with (go_at_call 78; (with_reducible refine (from_any _ _ _ _).mono ?_); rintro e w' ⟨rfl, rfl⟩)
              all_goals try (exfalso; omega)
              go_ret
              exact ⟨HNO.out _ HB.out rfl, hbw.out⟩
            · have HB := Lib.hid (show itB F l (k + 1) = true from hib.trans (by simp [h3]))
              have HITS := Lib.hid hits.out
              clear hib hbad hits
              go_wp2_with (go_at_call 78; (with_reducible refine (from_any _ _ _ _).mono ?_); rintro e w' ⟨rfl, rfl⟩)
              all_goals try (exfalso; omega)
              refine ⟨⟨k + 2, by omega, by go_num, by first | rfl | trivial, fun j hj => ?_⟩, by simp [intOf]; omega⟩
              rcases Nat.lt_or_ge j (k + 1) with q | q
              · exact HITS.out j q
              · obtain rfl : j = k + 1 := by omega
                exact HB.out
      · obtain rfl : k = m := by omega
        have hitb : itsB F l = true := by unfold itsB; rw [hlen]; exact all_tt hits.out
        have HIT := Lib.hid hitb
        have HITO := Lib.hid (itsB_ok hitb)
        have HA := Lib.hid (apart_any F b _ _ pv _ l w1 HS.out HL.out (itsB_ok hitb) (by omega))
        clear hits hitb
        go_wp2_with fail
        refine HA.out.mono ?_
        rintro e w3 ⟨rfl, hb3⟩
        cases hc : canI F l with
        | true =>
          have HB := Lib.hid (show ckB F l = false by unfold ckB; rw [hc]; simp)
          have hfin := Lib.hid (bthen hbw.out hb3)
          clear hb3
          go_wp2_with fail
          go_ret
          exact ⟨HNO.out _ HB.out rfl, hfin.out⟩
        | false =>
          have HB3 := Lib.hid hb3
          clear hb3
          go_wp2_with fail
          go_loopw [55] (fun i wr => ∃ j : Nat, j ≤ k ∧ i = .int .i64 (j : Int) ∧ Below w1.heap.size w1 wr ∧ Hid (∀ t, t < j → canI F (butL l t) = true)) (fun i _ => k - (intOf i).toNat)
          case atStart => exact ⟨0, Nat.zero_le _, rfl, HB3.out, fun t ht => by omega⟩
          case round =>
            obtain ⟨j, hj, rfl, hbl, hmin⟩ := hrel
            by_cases h1 : j < k
            · have hLr := HL.out.below hbl
              obtain ⟨p, off, rfl, hp, hcs⟩ := hLr.cells (by omega)
              have hBut := Lib.hid (but_any p off k c j l wr ⟨hp, fun t ht => hcs t (by omega)⟩ hlen h1 hmc h4)
              clear hcs hLr
              go_wp2_with fail
              refine hBut.out.mono ?_
              rintro e w5 ⟨v5, rfl, hb5, hi5, hcap5⟩
              have hit5 : ItOk F (butL l j) := fun x hx => HITO.out x (butL_sub.subset hx)
              have hl5 := butL_len (L := l) (k := j) (by omega)
              have HA5 := Lib.hid (apart_any F b _ _ pv v5 (butL l j) w5 (HS.out.below (bthen hbl hb5)) hi5 hit5 (by omega))
              have HB5 := Lib.hid (bthen hbl hb5)
              clear hb5 hi5 hcap5 hit5 hBut
              go_wp2_with fail
              refine HA5.out.mono ?_
              rintro e w6 ⟨rfl, hb6⟩
              have HB6 := Lib.hid (bthen HB5.out hb6)
              clear hb6
              cases hc5 : canI F (butL l j) with
              | false =>
                have HB := Lib.hid (show ckB F l = false by unfold ckB; rw [hlen, all_ff h1 hc5]; simp)
                have hfin := Lib.hid (bthen hbw.out HB6.out)
                go_wp2_with fail
                go_ret
                exact ⟨HNO.out _ HB.out rfl, hfin.out⟩
              | true =>
                have HM := Lib.hid hmin.out
                have HC5 := Lib.hid hc5
                clear hmin
                go_wp2_with fail
                refine ⟨⟨j + 1, by omega, by go_num, HB6.out, fun t ht => ?_⟩, by simp [intOf]; omega⟩
                rcases Nat.lt_or_ge t j with q | q
                · exact HM.out t q
                · obtain rfl : t = j := by omega
                  exact HC5.out
            · have HB := Lib.hid (show ckB F l = true by
                unfold ckB
                rw [HIT.out, hc, hlen, all_tt (fun t ht => hmin.out t (by omega))]
                rfl)
              have hfin := Lib.hid (bthen hbw.out hbl)
              clear hmin hbl
              go_wp2_with fail
              go_ret
              exact ⟨by rw [ck_yes hok HB.out]; rfl, hfin.out⟩
end Go.Proofs.YtnfndiafabhhdaaGreat
