/- Walks of apart, Clash (Wear). -/
import Derived.Test.YtnfndiafabhhdaaGreatC7
import Derived.Test.YtnfndiafabhhdaaGreatC8
import Derived.Test.YtnfndiafabhhdaaGreatA3
namespace Go.Proofs.YtnfndiafabhhdaaGreat
open Go.ChangeShapes Go.WideShapes Go.ChangeAt Go.RowKit
set_option maxRecDepth 100000 in
theorem apart_any (F : Fl) (b : Nat) (vv vs pv vI : Value) (I : List Int) (w : World) (h : Sty w F b vv vs pv) (hI : Ints w vI I) (hIt : ItOk F I) (hn : I.length ≤ 1000) :
    Calls Tryz.prog 117 #[.pointer (some ⟨b, 0, none⟩), vI] w fun e w' => e = .returned (.bool (!canI F I)) ∧ Below w.heap.size w w' := by
  have hO := region_any F b vv vs pv vI I w h hI hIt hn
  have HOK := Lib.hid h.o
  have HIT := Lib.hid hIt
  have HO := Lib.hid hO
  obtain ⟨oi, ni, ci, rfl, _, _⟩ := hI.parts
  clear hO h hI hIt
  go_enter Tryz.func117, Tryz.ntmps117
  go_wp2_with fail
  refine HO.out.mono ?_
  rintro e w4 ⟨va, vb, rfl, hb4, ⟨hA4, hcA⟩, hB4, hcB⟩
  have hRB := rnW_b HOK.out I
  have hLB := lines_B HOK.out HIT.out
  have hS := solved_any (rnW F I) _ _ _ _ w4 hA4 hB4 hRB hLB.1 hLB.2
  obtain ⟨oa, ca, rfl, ma⟩ := hA4.parts
  obtain ⟨ob, cb, rfl, mb⟩ := hB4.parts
  have he : (solW (rnW F I) (lows (linesL F I)) (ups (linesL F I))).e = !canI F I := rfl
  obtain ⟨r, hr⟩ : ∃ r, rnW F I = r := ⟨_, rfl⟩
  obtain ⟨s, hs⟩ : ∃ r, solW (rnW F I) (lows (linesL F I)) (ups (linesL F I)) = r := ⟨_, rfl⟩
  rw [hs] at hS he
  rw [hr] at hS ⊢
  have HE := Lib.hid he
  have hfl : ∀ W, Sem.run Tryz.prog (Instr.field 100 (rnV s (.slice oa (lows (linesL F I)).length ca) (.slice ob (ups (linesL F I)).length cb)) 4) W = .ok (.bool s.e) W := fun _ => by kernel_rfl
  have HS := Lib.hid hS
  have HB := Lib.hid hb4
  clear hS hs hr he hRB hLB hA4 hB4 hb4
  go_wp2_with fail
  refine HS.out.mono ?_
  rintro e w5 ⟨rfl, hb5⟩
  go_wp2_with fail
  go_ret
  exact ⟨by rw [← HE.out]; rfl, bthen HB.out hb5⟩
structure ClOk (F : Fl) (L : List Int) : Prop where
  no : canI F L = false
  min : ∀ k, k < L.length → canI F (butL L k) = true
  sub : L.Sublist (allL F)
theorem butL_len {L : List Int} {k : Nat} (h : k < L.length) : (butL L k).length = L.length - 1 := by
  unfold butL
  rw [List.length_append, List.length_take, List.length_drop]
  omega
theorem butL_sub {L : List Int} {k : Nat} : (butL L k).Sublist L := by
  unfold butL
  have h1 : ((L.take k) ++ (L.drop k)).Sublist L := by rw [List.take_append_drop]; exact List.Sublist.refl _
  refine List.Sublist.trans (List.Sublist.append (List.Sublist.refl _) ?_) h1
  have : L.drop (k + 1) = (L.drop k).drop 1 := by rw [List.drop_drop]
  rw [this]
  exact List.drop_sublist 1 _
theorem mem_but {L : List Int} {k : Nat} {x : Int} : x ∈ butL L k ↔ ∃ j, j ≠ k ∧ L[j]? = some x := by
  unfold butL
  rw [List.mem_append]
  constructor
  · rintro (h | h)
    · obtain ⟨j, hj, rfl⟩ := List.mem_iff_getElem.1 h
      rw [List.length_take] at hj
      refine ⟨j, by omega, ?_⟩
      rw [List.getElem_take]
      exact List.getElem?_eq_getElem (by omega)
    · obtain ⟨j, hj, rfl⟩ := List.mem_iff_getElem.1 h
      rw [List.length_drop] at hj
      refine ⟨k + 1 + j, by omega, ?_⟩
      rw [List.getElem_drop]
      exact List.getElem?_eq_getElem (by omega)
  · rintro ⟨j, hj, h⟩
    have hl := (List.getElem?_eq_some_iff.1 h).1
    rcases Nat.lt_or_ge j k with c | c
    · refine .inl (List.mem_iff_getElem?.2 ⟨j, ?_⟩)
      rw [List.getElem?_take_of_lt c]
      exact h
    · refine .inr (List.mem_iff_getElem?.2 ⟨j - (k + 1), ?_⟩)
      rw [List.getElem?_drop, show k + 1 + (j - (k + 1)) = j by omega]
      exact h
theorem but_at {L : List Int} {k : Nat} (hk : k < L.length) {j : Nat} (hj : j < k) : (butL L k)[j]? = L[j]? := by
  unfold butL
  rw [List.getElem?_append_left (by rw [List.length_take]; omega), List.getElem?_take_of_lt hj]
theorem but_but {L : List Int} {i j : Nat} (hi : i < L.length) (hj : j < i) : ∀ x ∈ butL (butL L i) j, x ∈ butL L j := by
  intro x hx
  obtain ⟨m, hm, h⟩ := mem_but.1 hx
  rcases Nat.lt_or_ge m i with c | c
  · rw [but_at hi c] at h
    exact mem_but.2 ⟨m, hm, h⟩
  · refine mem_but.2 ⟨m + 1, by omega, ?_⟩
    unfold butL at h
    rw [List.getElem?_append_right (by rw [List.length_take]; omega), List.length_take, List.getElem?_drop] at h
    rw [← h]
    congr 1
    omega
def slLen : Value → Nat
  | .slice _ n _ => n
  | _ => 0
def ClPost (F : Fl) (e : Ending) (w' : World) : Prop :=
  (okFl F = false ∧ e = .returned (.tuple #[.slice none 0 0, .bool false, .int .i64 30])) ∨
  (okFl F = true ∧ canI F (allL F) = true ∧ e = .returned (.tuple #[.slice none 0 0, .bool false, .int .i64 0])) ∨
  (okFl F = true ∧ canI F (allL F) = false ∧ ∃ v L, e = .returned (.tuple #[v, .bool true, .int .i64 0]) ∧ Ints w' v L ∧ (∃ o m c, v = .slice o m c ∧ m ≤ c) ∧ ClOk F L)
set_option maxRecDepth 100000 in
set_option maxHeartbeats 4000000 in
theorem Clash_any (F : Fl) (vv vs : Value) (w : World) (hF : FlIn w F vv vs) : Calls Tryz.prog 40 #[flV F vv vs] w fun e w' => ClPost F e w' ∧ Below w.heap.size w w' := by
  have hO := opened_any F vv vs _ (hF.alloc (flO F vv vs))
  obtain ⟨os, cs, rfl, ms⟩ := hF.s.parts
  obtain ⟨ov, cv, rfl, mv⟩ := hF.v.parts
  have HO := Lib.hid hO
  clear hO hF
  go_enter Tryz.func40, Tryz.ntmps40
  go_wp2_with fail
  refine HO.out.mono ?_
  rintro e w1 (⟨h0, rfl, hb1⟩ | ⟨b, pv, rfl, hb1, hS⟩)
  · have hbw := Lib.hid (bafter hb1)
    clear hb1
    go_wp2_with fail
    refine bodyPost_ret (results_tmp3 rfl _ _ _) rfl ⟨.inl ⟨h0, rfl⟩, hbw.out⟩
  · have hok : okFl F = true := (okFl_iff F).2 hS.o
    have hbw := Lib.hid (bafter hb1)
    have HS := Lib.hid hS
    clear hb1 hS HO
    go_wp2_with fail
    refine (all_anyC F b _ _ pv _ HS.out).mono ?_
    rintro e w3 ⟨v3, rfl, hb3, hi3, hcap3⟩
    have hnn : (allL F).length ≤ 26 := by rw [all_len]; have := HS.out.o.n; omega
    have HA := Lib.hid (apart_any F b _ _ pv v3 (allL F) w3 (HS.out.below hb3) hi3 (allL_ok F) (by omega))
    have HB3 := Lib.hid hb3
    have HI3 := Lib.hid hi3
    have HCAP := Lib.hid hcap3
    clear hi3 hcap3 hb3
    go_wp2_with fail
    refine HA.out.mono ?_
    rintro e w4 ⟨rfl, hb4⟩
    cases hc : canI F (allL F) with
    | true =>
      have hfin := Lib.hid (bthen (bthen hbw.out HB3.out) hb4)
      clear hb4
      go_wp2_with fail
      refine bodyPost_ret (results_tmp3 rfl _ _ _) rfl ⟨.inr (.inl ⟨hok, hc, rfl⟩), hfin.out⟩
    | false =>
      have HB4 := Lib.hid (bthen HB3.out hb4)
      have HI4 := Lib.hid (HI3.out.below hb4)
      clear hb4
      go_wp2_with fail
      go_loopw [7, 8] (fun v i wr => ∃ (L : List Int) (k : Nat), k ≤ L.length ∧ i = .int .i64 (k : Int) ∧ Below w1.heap.size w1 wr ∧ Hid (Ints wr v L) ∧ Hid (∃ o m c, v = .slice o m c ∧ m ≤ c) ∧ L.Sublist (allL F) ∧ Hid (canI F L = false) ∧ Hid (∀ j, j < k → canI F (butL L j) = true)) (fun v i _ => slLen v - (intOf i).toNat)
      case atStart => exact ⟨allL F, 0, Nat.zero_le _, rfl, HB4.out, HI4, HCAP, List.Sublist.refl _, hc, fun j hj => by omega⟩
      case round =>
        obtain ⟨L, k, hk, rfl, hbl, hin, hcap, hsub, hno, hmin⟩ := hrel
        obtain ⟨o, m, c, rfl, hmc⟩ := hcap.out
        have hlen := hin.out.len
        have hll := hsub.length_le
        by_cases h1 : k < m
        · obtain ⟨p, off, rfl, hp, hcs⟩ := hin.out.cells (by omega)
          have hBut := Lib.hid (but_any p off m c k L wr ⟨hp, fun j hj => hcs j (by omega)⟩ hlen h1 hmc (by omega))
          clear hcs
          go_wp2_with fail
          refine hBut.out.mono ?_
          rintro e w5 ⟨v5, rfl, hb5, hi5, hcap5⟩
          have hsub5 := (butL_sub (L := L) (k := k)).trans hsub
          have hit5 : ItOk F (butL L k) := fun x hx => allL_ok F x (hsub5.subset hx)
          have hl5 := butL_len (L := L) (k := k) (by omega)
          have HA5 := Lib.hid (apart_any F b _ _ pv v5 (butL L k) w5 (HS.out.below (bthen hbl hb5)) hi5 hit5 (by omega))
          have HB5 := Lib.hid (bthen hbl hb5)
          have HB5r := Lib.hid hb5
          have HI5 := Lib.hid hi5
          have HCAP5 := Lib.hid hcap5
          clear hb5 hi5 hcap5 hit5
          go_wp2_with fail
          refine HA5.out.mono ?_
          rintro e w6 ⟨rfl, hb6⟩
          have HB6 := Lib.hid (bthen HB5.out hb6)
          have HIL := Lib.hid (hin.out.below (bthen HB5r.out hb6))
          have HI6 := Lib.hid (HI5.out.below hb6)
          clear hb6
          cases hc5 : canI F (butL L k) with
          | false =>
            go_wp2_with fail
            refine ⟨⟨butL L k, k, by omega, rfl, HB6.out, HI6, HCAP5, hsub5, hc5, fun j hj => ?_⟩, ?_⟩
            · exact can_sub HS.out.o (fun x hx => (allL_ok F x (hsub.subset (butL_sub.subset hx))).2) (but_but (by omega) hj) (hmin.out j hj)
            · obtain ⟨o5, m5, c5, rfl, _⟩ := HCAP5.out
              have := HI6.out.len
              simp only [slLen, intOf]
              omega
          | true =>
            go_wp2_with fail
            refine ⟨⟨L, k + 1, by omega, by go_num, HB6.out, HIL, hcap, hsub, hno, fun j hj => ?_⟩, by simp only [slLen, intOf]; omega⟩
            rcases Nat.lt_or_ge j k with q | q
            · exact hmin.out j q
            · obtain rfl : j = k := by omega
              exact hc5
        · have hfin := Lib.hid (bthen hbw.out hbl)
          have HCL : Hid (ClOk F L) := Lib.hid ⟨hno.out, fun j hj => hmin.out j (by omega), hsub⟩
          clear hbl hmin hno
          go_wp2_with fail
          refine bodyPost_ret (results_tmp3 rfl _ _ _) rfl ⟨.inr (.inr ⟨hok, hc, _, L, rfl, hin.out, ⟨_, _, _, rfl, hmc⟩, HCL.out⟩), hfin.out⟩
end Go.Proofs.YtnfndiafabhhdaaGreat
