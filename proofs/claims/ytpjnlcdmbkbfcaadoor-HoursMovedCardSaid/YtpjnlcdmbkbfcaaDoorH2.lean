/- Walks of hours.at and of the reference's line. -/
import Derived.Test.YtpjnlcdmbkbfcaaDoorHSpec
import Derived.Test.YtpjnlcdmbkbfcaaDoorH1
namespace Go.Proofs.YtpjnlcdmbkbfcaaDoor
open Go.ChangeShapes Go.WideShapes Go.ChangeAt Go.RowKit

theorem mul_bd {a b A B : Int} (h1 : -A ≤ a) (h2 : a ≤ A) (h3 : -B ≤ b) (h4 : b ≤ B) : -(A * B) ≤ a * b ∧ a * b ≤ A * B := by
  have e : (a * b).natAbs ≤ (A * B).natAbs := by
    rw [Int.natAbs_mul, Int.natAbs_mul]; exact Nat.mul_le_mul (by omega) (by omega)
  have h0 : 0 ≤ A * B := Int.mul_nonneg (by omega) (by omega)
  omega


theorem down_bd {a b : Int} (hb : 0 < b) (N : Int) (h1 : -N ≤ a) (h2 : a ≤ N) : -N ≤ a / b ∧ a / b ≤ N := by
  have h0 : 0 ≤ N := by omega
  constructor
  · apply Int.le_ediv_of_mul_le hb
    have : N * 1 ≤ N * b := Int.mul_le_mul_of_nonneg_left (by omega) h0
    rw [Int.neg_mul]; omega
  · have : a / b ≤ N / b := Int.ediv_le_ediv hb h2
    have := Int.ediv_le_self b h0
    omega

set_option maxHeartbeats 1000000 in
theorem at_core (L day : Int) (vr vs : Value) (bd off bt offt cd ct : Nat) (d t : List Int) (w : World) (hL : 360 ≤ L) (hL' : L ≤ 366) (hd : 0 ≤ day) (hd' : day ≤ 1000000)
    (h1 : 1 ≤ d.length) (h24 : d.length ≤ 24)
    (ad : allB d 0 (L - 1) = true) (up : risesB d d.length = true) (at_ : allB t 0 2000 = true) (ht : Hid (t.length = d.length))
    (cd_ : ∀ j, j < d.length → w.cell? ⟨bd, off + j, none⟩ = some (.int .i64 (d[j]?.getD 0)))
    (ct_ : ∀ j, j < d.length → w.cell? ⟨bt, offt + j, none⟩ = some (.int .i64 (t[j]?.getD 0)))
    (hbd : bd < w.heap.size) (hbt : bt < w.heap.size) :
    Calls Tryd.prog 69 #[.agg #[.int .i64 L, .slice (some ⟨bd, off, none⟩) d.length cd, vr, vs], .slice (some ⟨bt, offt, none⟩) d.length ct, .int .i64 day] w fun e w' => e = .returned (.int .i64 (lineV L d t (day % L))) ∧ Below w.heap.size w w' := by
  have hp0 := Int.emod_nonneg day (b := L) (by omega)
  have hp1 := Int.emod_lt_of_pos day (b := L) (by omega)
  have CD := Lib.hid cd_; clear cd_
  have CT := Lib.hid ct_; clear ct_
  have AD := Lib.hid ad; clear ad
  have UP := Lib.hid up; clear up
  have AT := Lib.hid at_; clear at_
  go_enter Tryd.func69, Tryd.ntmps69
  go_wp2_with fail
  obtain ⟨p, hp⟩ : ∃ p, day % L = p := ⟨_, rfl⟩
  rw [hp] at hp0 hp1 ⊢
  have HP := Lib.hid hp; clear hp
  go_loop [9] (fun i => ∃ k : Nat, k ≤ d.length ∧ i = .int .i64 ((k : Int) - 1) ∧ qLe d p k = qLe d p d.length) (fun i => (intOf i + 1).toNat)
  case atStart => exact ⟨d.length, Nat.le_refl _, rfl, rfl⟩
  case round =>
    obtain ⟨k, hk, rfl, hq⟩ := hrel
    have HQ := Lib.hid hq; clear hq
    by_cases h0 : k = 0
    · subst h0
      go_wp2_with fail
      go_quiet (fail)
      go_wp2_with fail
      have e1 : (-1 + (d.length : Int)) % (d.length : Int) = ((d.length - 1 : Nat) : Int) := by rw [Int.emod_eq_of_lt (by omega) (by omega)]; omega
      rw [e1]
      clear e1
      have hA : d.length - 1 < d.length := by omega
      have hB : 0 < d.length := by omega
      have ca := CD.out (d.length - 1) hA
      have cb := CD.out (0) hB
      have ta := CT.out (d.length - 1) hA
      have tb := CT.out (0) hB
      have xa := allB_el AD.out hA
      have xb := allB_el AD.out hB
      have ya := allB_el AT.out (show d.length - 1 < t.length by rw [ht.out]; exact hA)
      have yb := allB_el AT.out (show 0 < t.length by rw [ht.out]; exact hB)
      have hft := by have := frm_lt_tto AD.out UP.out h1 (q := 0) (by omega); rw [frm, tto, if_pos rfl, if_neg (by omega)] at this; exact this
      have hln : lineV L d t p = el t (d.length - 1) + (p - (el d (d.length - 1) - L)) * (el t (0) - el t (d.length - 1)) / (el d 0 - (el d (d.length - 1) - L)) := by unfold lineV; rw [← HQ.out]; simp [lineQ, iA, iB, frm, tto, qLe, show ¬ 0 = d.length by omega]
      simp only [el] at hln xa xb ya yb hft
      try simp only [Nat.add_zero] at ca cb ta tb
      have HLN := Lib.hid hln; clear hln
      generalize d[d.length - 1]?.getD 0 = x at *
      generalize d[0]?.getD 0 = y at *
      generalize t[d.length - 1]?.getD 0 = u at *
      generalize t[0]?.getD 0 = v at *
      obtain ⟨m1, m2⟩ := mul_bd (a := p - (x - L)) (b := v - u) (A := 1000) (B := 2000) (by omega) (by omega) (by omega) (by omega)
      obtain ⟨q1, q2⟩ := down_bd (a := (p - (x - L)) * (v - u)) (b := y - (x - L)) (by omega) 2000000 (by omega) (by omega)
      go_quiet (fail)
      go_wp2_with fail
      go_quiet ((go_at_call 81; exact quiet_add_left (down_any _ _ _ (by omega) (by omega) (by omega))))
      go_wp2_with fail
      go_ret
      exact ⟨ret_int (by rw [HP.out, HLN.out]), (by repeat (first | exact Below.refl _ _ | assumption | refine bthen ?_ (by assumption) | refine Below.alloc ?_ (by first | exact Nat.le_refl _ | (simp; done) | (simp; omega) | omega) _ | refine Below.setCell ?_ (by first | exact Nat.le_refl _ | (simp; done) | (simp; omega) | omega) _ | refine below_drewN ?_ _ | refine Below.drew ?_))⟩
    · have hkk : 0 < k := by omega
      have cc := CD.out (k - 1) (by omega)
      go_wp2_with fail
      · exact ⟨⟨k - 1, by omega, by congr 1; omega, (qLe_no hkk ‹_›).trans HQ.out⟩, by simp [intOf]; omega⟩
      · have hq : qLe d p d.length = k := by rw [← HQ.out]; exact qLe_yes hkk ‹_›
        clear HQ
        have HQ := Lib.hid hq; clear hq
        go_quiet (fail)
        go_wp2_with fail
        have e1 : ((k : Int) - 1 + (d.length : Int)) % (d.length : Int) = ((k - 1 : Nat) : Int) := by
          rw [Int.add_emod_right, Int.emod_eq_of_lt (by omega) (by omega)]; omega
        rw [e1]
        clear e1
        by_cases hn : k = d.length
        · have e2 : (k : Int) % (d.length : Int) = 0 := by rw [hn]; exact Int.emod_self
          rw [e2]
          clear e2
          have hn1 : k ≤ d.length := by omega
          have hn2 : d.length ≤ k := by omega
          have HN := Lib.hid hn; clear hn
          have hA : k - 1 < d.length := by omega
          have hB : 0 < d.length := by omega
          have ca := CD.out (k - 1) hA
          have cb := CD.out (0) hB
          have ta := CT.out (k - 1) hA
          have tb := CT.out (0) hB
          have xa := allB_el AD.out hA
          have xb := allB_el AD.out hB
          have ya := allB_el AT.out (show k - 1 < t.length by rw [ht.out]; exact hA)
          have yb := allB_el AT.out (show 0 < t.length by rw [ht.out]; exact hB)
          have hft := by have := frm_lt_tto AD.out UP.out h1 (q := k) (by omega); rw [frm, tto, if_neg (by omega), if_pos HN.out] at this; exact this
          have hln : lineV L d t p = el t (k - 1) + (p - (el d (k - 1))) * (el t (0) - el t (k - 1)) / ((el d 0 + L) - (el d (k - 1))) := by unfold lineV; rw [HQ.out]; simp [lineQ, iA, iB, frm, tto, HN.out, show ¬ d.length = 0 by omega]
          simp only [el] at hln xa xb ya yb hft
          try simp only [Nat.add_zero] at ca cb ta tb
          have HLN := Lib.hid hln; clear hln
          generalize d[k - 1]?.getD 0 = x at *
          generalize d[0]?.getD 0 = y at *
          generalize t[k - 1]?.getD 0 = u at *
          generalize t[0]?.getD 0 = v at *
          obtain ⟨m1, m2⟩ := mul_bd (a := p - x) (b := v - u) (A := 1000) (B := 2000) (by omega) (by omega) (by omega) (by omega)
          obtain ⟨q1, q2⟩ := down_bd (a := (p - x) * (v - u)) (b := (y + L) - x) (by omega) 2000000 (by omega) (by omega)
          go_quiet (fail)
          go_wp2_with fail
          go_quiet ((go_at_call 81; exact quiet_add_left (down_any _ _ _ (by omega) (by omega) (by omega))))
          go_wp2_with fail
          go_ret
          exact ⟨ret_int (by rw [HP.out, HLN.out]), (by repeat (first | exact Below.refl _ _ | assumption | refine bthen ?_ (by assumption) | refine Below.alloc ?_ (by first | exact Nat.le_refl _ | (simp; done) | (simp; omega) | omega) _ | refine Below.setCell ?_ (by first | exact Nat.le_refl _ | (simp; done) | (simp; omega) | omega) _ | refine below_drewN ?_ _ | refine Below.drew ?_))⟩
        · have e2 : (k : Int) % (d.length : Int) = k := by rw [Int.emod_eq_of_lt (by omega) (by omega)]
          rw [e2]
          clear e2
          have hn1 : k < d.length := by omega
          have hup := risesB_el UP.out hkk hn1
          simp only [el] at hup
          have hA : k - 1 < d.length := by omega
          have hB : k < d.length := by omega
          have ca := CD.out (k - 1) hA
          have cb := CD.out (k) hB
          have ta := CT.out (k - 1) hA
          have tb := CT.out (k) hB
          have xa := allB_el AD.out hA
          have xb := allB_el AD.out hB
          have ya := allB_el AT.out (show k - 1 < t.length by rw [ht.out]; exact hA)
          have yb := allB_el AT.out (show k < t.length by rw [ht.out]; exact hB)
          have hft := by have := frm_lt_tto AD.out UP.out h1 (q := k) (by omega); rw [frm, tto, if_neg (by omega), if_neg hn] at this; exact this
          have hln : lineV L d t p = el t (k - 1) + (p - (el d (k - 1))) * (el t (k) - el t (k - 1)) / ((el d k) - (el d (k - 1))) := by unfold lineV; rw [HQ.out]; simp [lineQ, iA, iB, frm, tto, show ¬ k = 0 by omega, hn]
          simp only [el] at hln xa xb ya yb hft
          try simp only [Nat.add_zero] at ca cb ta tb
          have HLN := Lib.hid hln; clear hln
          generalize d[k - 1]?.getD 0 = x at *
          generalize d[k]?.getD 0 = y at *
          generalize t[k - 1]?.getD 0 = u at *
          generalize t[k]?.getD 0 = v at *
          obtain ⟨m1, m2⟩ := mul_bd (a := p - x) (b := v - u) (A := 1000) (B := 2000) (by omega) (by omega) (by omega) (by omega)
          obtain ⟨q1, q2⟩ := down_bd (a := (p - x) * (v - u)) (b := y - x) (by omega) 2000000 (by omega) (by omega)
          go_quiet (fail)
          go_wp2_with fail
          go_quiet ((go_at_call 81; exact quiet_add_left (down_any _ _ _ (by omega) (by omega) (by omega))))
          go_wp2_with fail
          go_ret
          exact ⟨ret_int (by rw [HP.out, HLN.out]), (by repeat (first | exact Below.refl _ _ | assumption | refine bthen ?_ (by assumption) | refine Below.alloc ?_ (by first | exact Nat.le_refl _ | (simp; done) | (simp; omega) | omega) _ | refine Below.setCell ?_ (by first | exact Nat.le_refl _ | (simp; done) | (simp; omega) | omega) _ | refine below_drewN ?_ _ | refine Below.drew ?_))⟩


set_option maxHeartbeats 1000000 in
theorem rline_core (L p : Int) (vr vs : Value) (bd off bt offt cd ct : Nat) (d t : List Int) (w : World) (hL : 360 ≤ L) (hL' : L ≤ 366) (hp0 : 0 ≤ p) (hp1 : p < L)
    (h1 : 1 ≤ d.length) (h24 : d.length ≤ 24)
    (ad : allB d 0 (L - 1) = true) (up : risesB d d.length = true) (at_ : allB t 0 2000 = true) (ht : Hid (t.length = d.length))
    (cd_ : ∀ j, j < d.length → w.cell? ⟨bd, off + j, none⟩ = some (.int .i64 (d[j]?.getD 0)))
    (ct_ : ∀ j, j < d.length → w.cell? ⟨bt, offt + j, none⟩ = some (.int .i64 (t[j]?.getD 0)))
    (hbd : bd < w.heap.size) (hbt : bt < w.heap.size) :
    Calls Tryd.prog 107 #[.agg #[.int .i64 L, .slice (some ⟨bd, off, none⟩) d.length cd, vr, vs], .slice (some ⟨bt, offt, none⟩) d.length ct, .int .i64 p] w fun e w' => e = .returned (.int .i64 (lineV L d t p)) ∧ Below w.heap.size w w' := by
  have CD := Lib.hid cd_; clear cd_
  have CT := Lib.hid ct_; clear ct_
  have AD := Lib.hid ad; clear ad
  have UP := Lib.hid up; clear up
  have AT := Lib.hid at_; clear at_
  have cl := CD.out (d.length - 1) (by omega)
  have c0 := CD.out 0 (by omega)
  simp only [Nat.add_zero] at c0
  have xl := allB_el AD.out (k := d.length - 1) (by omega)
  have x0 := allB_el AD.out (k := 0) (by omega)
  simp only [el] at xl x0
  go_enter Tryd.func107, Tryd.ntmps107
  go_wp2_with fail
  go_quiet (fail)
  go_wp2_with fail
  go_loop [8, 9, 10] (fun at_ from_ i => ∃ k : Nat, k ≤ d.length ∧ i = .int .i64 (k : Int) ∧ at_ = .int .i64 (iA d.length (qLe d p k) : Nat) ∧ from_ = .int .i64 (frm L d (qLe d p k))) (fun _ _ i => d.length - (intOf i).toNat)
  case atStart => exact ⟨0, Nat.zero_le _, rfl, by simp only [qLe, iA, if_pos]; congr 1; omega, by simp [qLe, frm]⟩
  case round =>
    obtain ⟨k, hk, rfl, rfl, rfl⟩ := hrel
    by_cases h0 : k < d.length
    · have cc := CD.out k h0
      obtain ⟨x, hx⟩ : ∃ x, d[k]?.getD 0 = x := ⟨_, rfl⟩
      rw [hx] at cc
      have HX := Lib.hid hx; clear hx
      by_cases hle : x ≤ p
      · go_wp2_with fail
        have hq := qLe_yes (d := d) (p := p) (k := k + 1) (by omega) (by rw [Nat.add_sub_cancel, HX.out]; exact hle)
        exact ⟨⟨k + 1, by omega, by go_num, by rw [hq]; simp [iA], by rw [hq, ← HX.out]; simp [frm]⟩, by simp [intOf]; omega⟩
      · go_wp2_with fail
        have hq := qLe_no (d := d) (p := p) (k := k + 1) (by omega) (by rw [Nat.add_sub_cancel, HX.out]; omega)
        rw [Nat.add_sub_cancel] at hq
        exact ⟨⟨k + 1, by omega, by go_num, by rw [← hq], by rw [← hq]⟩, by simp [intOf]; omega⟩
    · obtain rfl : k = d.length := by omega
      have hq0 := qLe_le d p d.length
      have HV := Lib.hid (show lineV L d t p = lineQ L d t p (qLe d p d.length) from rfl)
      generalize qLe d p d.length = q at *
      have hft := frm_lt_tto AD.out UP.out h1 hq0
      by_cases hn : q = d.length
      · have eA : iA d.length q = d.length - 1 := by simp only [iA, hn]; rw [if_neg (by omega)]
        have eF : frm L d q = d[d.length - 1]?.getD 0 := by simp only [frm, hn, el]; rw [if_neg (by omega)]
        have eT : tto L d q = d[0]?.getD 0 + L := by simp [tto, hn, el]
        have eB : iB d.length q = 0 := by simp [iB, hn]
        have hln : lineV L d t p = t[d.length - 1]?.getD 0 + (p - d[d.length - 1]?.getD 0) * (t[0]?.getD 0 - t[d.length - 1]?.getD 0) / (d[0]?.getD 0 + L - d[d.length - 1]?.getD 0) := by rw [HV.out, lineQ, eA, eB, eF, eT]
        rw [eF, eT] at hft
        rw [eA, eF]
        clear eA eB eF eT HV hn hq0
        have HLN := Lib.hid hln; clear hln
        have hA : d.length - 1 < d.length := by omega
        have hB : 0 < d.length := by omega
        have cb := CD.out (0) hB
        have ta := CT.out (d.length - 1) hA
        have tb := CT.out (0) hB
        have xa := allB_el AD.out hA
        have xb := allB_el AD.out hB
        have ya := allB_el AT.out (show d.length - 1 < t.length by rw [ht.out]; exact hA)
        have yb := allB_el AT.out (show 0 < t.length by rw [ht.out]; exact hB)
        simp only [el] at xa xb ya yb
        try simp only [Nat.add_zero] at cb ta tb
        clear c0 cl xl x0
        generalize d[d.length - 1]?.getD 0 = x at *
        generalize d[0]?.getD 0 = y at *
        generalize t[d.length - 1]?.getD 0 = u at *
        generalize t[0]?.getD 0 = v at *
        obtain ⟨m1, m2⟩ := mul_bd (b := p - x) (a := v - u) (A := 2000) (B := 1000) (by omega) (by omega) (by omega) (by omega)
        obtain ⟨q1, q2⟩ := down_bd (a := (v - u) * (p - x)) (b := (y + L) - x) (by omega) 2000000 (by omega) (by omega)
        go_wp2_with fail
        go_quiet ((go_at_call 117; exact quiet_add_left (rdown_any _ _ _ (by omega) (by omega) (by omega))))
        go_wp2_with fail
        go_ret
        exact ⟨ret_int (by rw [HLN.out, Int.mul_comm]), (by repeat (first | exact Below.refl _ _ | assumption | refine bthen ?_ (by assumption) | refine Below.alloc ?_ (by first | exact Nat.le_refl _ | (simp; done) | (simp; omega) | omega) _ | refine Below.setCell ?_ (by first | exact Nat.le_refl _ | (simp; done) | (simp; omega) | omega) _ | refine below_drewN ?_ _ | refine Below.drew ?_))⟩
      · have hq1 : q < d.length := by omega
        by_cases h0 : q = 0
        · have eA : iA d.length q = d.length - 1 := by simp [iA, h0]
          have eF : frm L d q = d[d.length - 1]?.getD 0 - L := by simp [frm, h0, el]
          have eT : tto L d q = d[0]?.getD 0 := by simp only [tto, h0, el]; rw [if_neg (by omega)]
          have eB : iB d.length q = 0 := by simp [iB, h0]
          have hln : lineV L d t p = t[d.length - 1]?.getD 0 + (p - (d[d.length - 1]?.getD 0 - L)) * (t[0]?.getD 0 - t[d.length - 1]?.getD 0) / (d[0]?.getD 0 - (d[d.length - 1]?.getD 0 - L)) := by rw [HV.out, lineQ, eA, eB, eF, eT]
          rw [eF, eT] at hft
          rw [eA, eF]
          clear eA eB eF eT HV hn hq0 h0
          have HLN := Lib.hid hln; clear hln
          have hA : d.length - 1 < d.length := by omega
          have hB : 0 < d.length := by omega
          have cb := CD.out (0) hB
          have ta := CT.out (d.length - 1) hA
          have tb := CT.out (0) hB
          have xa := allB_el AD.out hA
          have xb := allB_el AD.out hB
          have ya := allB_el AT.out (show d.length - 1 < t.length by rw [ht.out]; exact hA)
          have yb := allB_el AT.out (show 0 < t.length by rw [ht.out]; exact hB)
          simp only [el] at xa xb ya yb
          try simp only [Nat.add_zero] at cb ta tb
          clear c0 cl xl x0
          generalize d[d.length - 1]?.getD 0 = x at *
          generalize d[0]?.getD 0 = y at *
          generalize t[d.length - 1]?.getD 0 = u at *
          generalize t[0]?.getD 0 = v at *
          obtain ⟨m1, m2⟩ := mul_bd (b := p - (x - L)) (a := v - u) (A := 2000) (B := 1000) (by omega) (by omega) (by omega) (by omega)
          obtain ⟨q1, q2⟩ := down_bd (a := (v - u) * (p - (x - L))) (b := y - (x - L)) (by omega) 2000000 (by omega) (by omega)
          go_wp2_with fail
          go_quiet ((go_at_call 117; exact quiet_add_left (rdown_any _ _ _ (by omega) (by omega) (by omega))))
          go_wp2_with fail
          go_ret
          exact ⟨ret_int (by rw [HLN.out, Int.mul_comm]), (by repeat (first | exact Below.refl _ _ | assumption | refine bthen ?_ (by assumption) | refine Below.alloc ?_ (by first | exact Nat.le_refl _ | (simp; done) | (simp; omega) | omega) _ | refine Below.setCell ?_ (by first | exact Nat.le_refl _ | (simp; done) | (simp; omega) | omega) _ | refine below_drewN ?_ _ | refine Below.drew ?_))⟩
        · obtain ⟨m, rfl⟩ : ∃ m, q = m + 1 := ⟨q - 1, by omega⟩
          have eA : iA d.length (m + 1) = m := by simp [iA]
          have eF : frm L d (m + 1) = d[m]?.getD 0 := by simp [frm, el]
          have eT : tto L d (m + 1) = d[m + 1]?.getD 0 := by simp only [tto, el]; rw [if_neg hn]
          have eB : iB d.length (m + 1) = m + 1 := by simp [iB, hn]
          have hln : lineV L d t p = t[m]?.getD 0 + (p - d[m]?.getD 0) * (t[m + 1]?.getD 0 - t[m]?.getD 0) / (d[m + 1]?.getD 0 - d[m]?.getD 0) := by rw [HV.out, lineQ, eA, eB, eF, eT]
          rw [eF, eT] at hft
          rw [eA, eF]
          clear eA eB eF eT HV hn hq0 h0
          have HLN := Lib.hid hln; clear hln
          have hA : m < d.length := by omega
          have hB : (m + 1) < d.length := by omega
          have cb := CD.out ((m + 1)) hB
          have ta := CT.out (m) hA
          have tb := CT.out ((m + 1)) hB
          have xa := allB_el AD.out hA
          have xb := allB_el AD.out hB
          have ya := allB_el AT.out (show m < t.length by rw [ht.out]; exact hA)
          have yb := allB_el AT.out (show (m + 1) < t.length by rw [ht.out]; exact hB)
          simp only [el] at xa xb ya yb
          try simp only [Nat.add_zero] at cb ta tb
          clear c0 cl xl x0
          generalize d[m]?.getD 0 = x at *
          generalize d[(m + 1)]?.getD 0 = y at *
          generalize t[m]?.getD 0 = u at *
          generalize t[(m + 1)]?.getD 0 = v at *
          obtain ⟨m1, m2⟩ := mul_bd (b := p - x) (a := v - u) (A := 2000) (B := 1000) (by omega) (by omega) (by omega) (by omega)
          obtain ⟨q1, q2⟩ := down_bd (a := (v - u) * (p - x)) (b := y - x) (by omega) 2000000 (by omega) (by omega)
          go_wp2_with fail
          go_quiet ((go_at_call 117; exact quiet_add_left (rdown_any _ _ _ (by omega) (by omega) (by omega))))
          go_wp2_with fail
          go_ret
          exact ⟨ret_int (by rw [HLN.out, Int.mul_comm]), (by repeat (first | exact Below.refl _ _ | assumption | refine bthen ?_ (by assumption) | refine Below.alloc ?_ (by first | exact Nat.le_refl _ | (simp; done) | (simp; omega) | omega) _ | refine Below.setCell ?_ (by first | exact Nat.le_refl _ | (simp; done) | (simp; omega) | omega) _ | refine below_drewN ?_ _ | refine Below.drew ?_))⟩
end Go.Proofs.YtpjnlcdmbkbfcaaDoor
