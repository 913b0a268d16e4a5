/- Walk of scaled at heights, volumes, minutes (Wear). -/
import Derived.Test.YtnfndiafabhhdaaGreatB2
namespace Go.Proofs.YtnfndiafabhhdaaGreat
open Go.ChangeShapes Go.WideShapes Go.ChangeAt Go.RowKit
set_option maxRecDepth 100000 in
set_option maxHeartbeats 4000000 in
theorem scaled_v (l : List Rg) (v : Value) (w : World) (hR : RgR w v l) (hv : okVs l = true) :
    Calls Tryz.prog 164 #[v, .func (.func 165) #[] #[]] w fun e w' => ∃ p, e = .returned p ∧ Below w.heap.size w w' ∧ Scl w' p 211 (pfx (fun i => (rg l i).v) l.length) (pfx (vV l) (l.length + 1)) := by
  obtain ⟨o, c, rfl, m⟩ := hR.parts
  obtain ⟨n, hn⟩ : ∃ n, l.length = n := ⟨_, rfl⟩
  have hokf : okFrom l n = true := by
    simp only [okVs, Bool.and_eq_true, decide_eq_true_eq, hn] at hv
    exact hv.2
  have hn24 : n ≤ 24 := by
    simp only [okVs, Bool.and_eq_true, decide_eq_true_eq, hn] at hv
    exact hv.1.2
  have HR := Lib.hid hR; clear hR
  have HN := Lib.hid hn
  have HOK := Lib.hid hokf
  rw [hn] at m ⊢
  clear hn hv hokf
  go_enter Tryz.func164, Tryz.ntmps164
  go_wp2_with fail
  go_loopw [6, 13] (fun s i wr => ∃ (k : Nat) (v1 v2 : Value), k ≤ n ∧ i = .int .i64 (k : Int) ∧ s = .int .i64 (vV l k) ∧ TwoI wr (w.heap.size + 1) 163 v1 (pfx (fun i => (rg l i).v) k) v2 (pfx (vV l) k) ∧ Hid (Bk wr w.heap.size 211 [v1, v2]) ∧ Below w.heap.size w wr) (fun _ i _ => n - (intOf i).toNat)
  case atStart => exact ⟨0, _, _, Nat.zero_le _, rfl, rfl, TwoI.nil _ _ _, Bk.new w _ [.slice none 0 0, .slice none 0 0], ballo _ _⟩
  case round =>
    obtain ⟨k, v1, v2, hk, rfl, rfl, hT, hS, hbl⟩ := hrel
    by_cases h0 : k < n
    · obtain ⟨b, off, rfl, hb, hc⟩ := HR.out.cells (by rw [HN.out]; omega)
      have d0 := (hbl.cell (p := ⟨b, off + k * 3, none⟩) hb).trans (hc k 0 (by rw [HN.out]; exact h0) (by omega))
      have d1 := (hbl.cell (p := ⟨b, off + k * 3 + 1, none⟩) hb).trans (hc k 1 (by rw [HN.out]; exact h0) (by omega))
      have d2 := (hbl.cell (p := ⟨b, off + k * 3 + 2, none⟩) hb).trans (hc k 2 (by rw [HN.out]; exact h0) (by omega))
      simp only [rgF] at d0 d1 d2
      clear hc
      obtain ⟨r1, r2, r3⟩ := okRg_bd (okFrom_at HOK.out k h0)
      have hXb : 0 ≤ vV l k ∧ vV l k ≤ 3000000 := by have := vXY_bd HOK.out k (by omega); omega
      obtain ⟨x1, x2⟩ := hXb
      have s1 := pfx_succ (fun i => (rg l i).v) k
      have s2 := pfx_succ (vV l) k
      have s3 : vV l (k + 1) = vV l k + (rg l k).v := rfl
      have S1 := Lib.hid s1; clear s1
      have S2 := Lib.hid s2; clear s2
      have S3 := Lib.hid s3; clear s3
      have p1 := pfx_len (fun i => (rg l i).v) k
      have p2 := pfx_len (vV l) k
      have P1 := Lib.hid p1; clear p1
      have P2 := Lib.hid p2; clear p2
      obtain ⟨X, hX⟩ : ∃ X, vV l k = X := ⟨_, rfl⟩
      obtain ⟨r, hr⟩ : ∃ r, rg l k = r := ⟨_, rfl⟩
      rw [hr] at d0 d1 d2 r1 r2 r3
      have e1 : (fun i => (rg l i).v) k = r.v := by show (rg l k).v = _; rw [hr]
      have HE := Lib.hid e1; clear e1
      rw [hX] at x1 x2 ⊢
      have HX := Lib.hid hX; clear hX
      have HRR := Lib.hid hr; clear hr
      have hbw : w.heap.size < wr.heap.size := by have := hS.out.lt; exact this
      have HF := Lib.hid (fun (x : World) (hx : Below (w.heap.size + 1) wr x ∧ Bk x wr.heap.size 169 [.int .i64 r.h, .int .i64 r.v, .int .i64 r.d]) => (show x.cell? ⟨w.heap.size, 0, none⟩ = some v1 ∧ x.cell? ⟨w.heap.size, 1, none⟩ = some v2 ∧ x.cell? ⟨wr.heap.size, 0, none⟩ = some (.int .i64 r.h) ∧ x.cell? ⟨wr.heap.size, 1, none⟩ = some (.int .i64 r.v) ∧ x.cell? ⟨wr.heap.size, 2, none⟩ = some (.int .i64 r.d) from
        ⟨(hx.1.cell (p := ⟨w.heap.size, 0, none⟩) (Nat.lt_succ_self _)).trans (hS.out.cell 0), (hx.1.cell (p := ⟨w.heap.size, 1, none⟩) (Nat.lt_succ_self _)).trans (hS.out.cell 1), hx.2.cell 0, hx.2.cell 1, hx.2.cell 2⟩))
      go_wp2_with fail
      refine WpK.begin (S := fun _ => True) (kp := fun _ => true) (f := 24) (up := #[false, false, false, false, false, false, false, false, false, false, false, false, false, false, false, false, false, false, false, false, false, false, false, false]) (by kernel_rfl) (by kernel_rfl) (by kernel_rfl) ?_
      refine WpK.take (i := 0) (v := ?_) ((toArray_at _ _).trans rfl) (by kernel_rfl) (by kernel_rfl) (by kernel_rfl) (by kernel_rfl) (by kernel_rfl) (fun _ _ _ h => h) (Or.inl ⟨by rfl, ?_⟩) trivial ?_
      rotate_left
      · (intro x hx; go_simp <;> with_reducible rfl)
      simp only [Act.put, puts]
      refine WpK.take (i := 1) (v := ?_) ((toArray_at _ _).trans rfl) (by kernel_rfl) (by kernel_rfl) (by kernel_rfl) (by kernel_rfl) (by kernel_rfl) (fun _ _ _ h => h) (Or.inl ⟨by rfl, ?_⟩) trivial ?_
      rotate_left
      · (intro x hx; go_simp <;> with_reducible rfl)
      simp only [Act.put, puts]
      refine WpK.take (i := 2) (v := ?_) ((toArray_at _ _).trans rfl) (by kernel_rfl) (by kernel_rfl) (by kernel_rfl) (by kernel_rfl) (by kernel_rfl) (fun _ _ _ h => h) (Or.inl ⟨by rfl, ?_⟩) trivial ?_
      rotate_left
      · (intro x hx; go_simp <;> with_reducible rfl)
      simp only [Act.put, puts]
      refine WpK.take (i := 3) (v := ?_) ((toArray_at _ _).trans rfl) (by kernel_rfl) (by kernel_rfl) (by kernel_rfl) (by kernel_rfl) (by kernel_rfl) (fun _ _ _ h => h) (Or.inl ⟨by rfl, ?_⟩) trivial ?_
      rotate_left
      · (intro x hx; go_simp <;> with_reducible rfl)
      simp only [Act.put, puts]
      refine WpK.take (i := 4) (v := ?_) ((toArray_at _ _).trans rfl) (by kernel_rfl) (by kernel_rfl) (by kernel_rfl) (by kernel_rfl) (by kernel_rfl) (fun _ _ _ h => h) (Or.inl ⟨by rfl, ?_⟩) trivial ?_
      rotate_left
      · (intro x hx; go_simp <;> with_reducible rfl)
      simp only [Act.put, puts]
      refine WpK.take (i := 6) (v := ?_) ((toArray_at _ _).trans rfl) (by kernel_rfl) (by kernel_rfl) (by kernel_rfl) (by kernel_rfl) (by kernel_rfl) (fun _ _ _ h => h) (Or.inl ⟨by rfl, ?_⟩) trivial ?_
      rotate_left
      · (intro x hx; go_simp <;> with_reducible rfl)
      simp only [Act.put, puts]
      refine WpK.take (i := 11) (v := ?_) ((toArray_at _ _).trans rfl) (by kernel_rfl) (by kernel_rfl) (by kernel_rfl) (by kernel_rfl) (by kernel_rfl) (fun _ _ _ h => h) (Or.inl ⟨by rfl, ?_⟩) trivial ?_
      rotate_left
      · (intro x hx; go_simp <;> with_reducible rfl)
      simp only [Act.put, puts]
      refine WpK.take (i := 12) (v := ?_) ((toArray_at _ _).trans rfl) (by kernel_rfl) (by kernel_rfl) (by kernel_rfl) (by kernel_rfl) (by kernel_rfl) (fun _ _ _ h => h) (Or.inl ⟨by rfl, ?_⟩) trivial ?_
      rotate_left
      · (intro x hx; go_simp <;> with_reducible rfl)
      simp only [Act.put, puts]
      refine WpK.take (i := 13) (v := ?_) ((toArray_at _ _).trans rfl) (by kernel_rfl) (by kernel_rfl) (by kernel_rfl) (by kernel_rfl) (by kernel_rfl) (fun _ _ _ h => h) (Or.inl ⟨by rfl, ?_⟩) trivial ?_
      rotate_left
      · (intro x hx; go_simp <;> with_reducible rfl)
      simp only [Act.put, puts]
      refine WpK.take (i := 15) (v := ?_) ((toArray_at _ _).trans rfl) (by kernel_rfl) (by kernel_rfl) (by kernel_rfl) (by kernel_rfl) (by kernel_rfl) (fun _ _ _ h => h) (Or.inl ⟨by rfl, ?_⟩) trivial ?_
      rotate_left
      · (intro x hx; go_simp <;> with_reducible rfl)
      simp only [Act.put, puts]
      refine WpK.weaken (S := fun x => Below (w.heap.size + 1) wr x ∧ Bk x wr.heap.size 169 [.int .i64 r.h, .int .i64 r.v, .int .i64 r.d]) (kp := (fun i => decide (i < 18))) (fun _ => trivial) _ ?_
      have hS0 := (show Below (w.heap.size + 1) wr (wr.alloc (Obj.cells #[.int .i64 r.h, .int .i64 r.v, .int .i64 r.d] 169)).drew ∧ Bk (wr.alloc (Obj.cells #[.int .i64 r.h, .int .i64 r.v, .int .i64 r.d] 169)).drew wr.heap.size 169 [.int .i64 r.h, .int .i64 r.v, .int .i64 r.d] from ⟨(((Below.refl _ _).alloc (by omega) _).drew), Bk.new wr _ [_, _, _]⟩)
      refine WpK.take (i := 5) (v := ?_) ((toArray_at _ _).trans rfl) (by kernel_rfl) (by kernel_rfl) (by kernel_rfl) (by kernel_rfl) (by kernel_rfl) (fun _ _ _ h => h) (Or.inl ⟨by rfl, ?_⟩) hS0 ?_
      rotate_left
      · (intro x hx; obtain ⟨q1, q2, q3, q4, q5⟩ := HF.out x hx; go_simp <;> with_reducible rfl)
      try simp only [Act.put, puts]
      refine WpK.take (i := 7) (v := ?_) ((toArray_at _ _).trans rfl) (by kernel_rfl) (by kernel_rfl) (by kernel_rfl) (by kernel_rfl) (by kernel_rfl) (fun _ _ _ h => h) (Or.inl ⟨by rfl, ?_⟩) hS0 ?_
      rotate_left
      · (intro x hx; obtain ⟨q1, q2, q3, q4, q5⟩ := HF.out x hx; go_simp <;> with_reducible rfl)
      try simp only [Act.put, puts]
      refine WpK.take (i := 14) (v := ?_) ((toArray_at _ _).trans rfl) (by kernel_rfl) (by kernel_rfl) (by kernel_rfl) (by kernel_rfl) (by kernel_rfl) (fun _ _ _ h => h) (Or.inl ⟨by rfl, ?_⟩) hS0 ?_
      rotate_left
      · (intro x hx; obtain ⟨q1, q2, q3, q4, q5⟩ := HF.out x hx; go_simp <;> with_reducible rfl)
      try simp only [Act.put, puts]
      have UT := Lib.hid (Tryz.underlying209)
      have IE : (Tryz.prog.info? 163).map (fun i => (i.zero, i.size, i.bytes)) = some (some (.int .i64 0), 1, 8) := by kernel_rfl
      have IE := Lib.hid IE
      have HW : Hid (∀ b, wr.heap.size ≤ b → v1.ownBlock ≠ some b) := Lib.hid (fun b hb e => by have := (World.ownsRow.lt hT.1 b e).2; omega)
      have HW2 : Hid (∀ b, wr.heap.size ≤ b → v2.ownBlock ≠ some b) := Lib.hid (fun b hb e => by have := (World.ownsRow.lt hT.2.1 b e).2; omega)
      refine WpK.two (i := 8) (k := 16) (by kernel_rfl) ((toArray_at _ _).trans rfl) ((toArray_at _ _).trans rfl) ?_ ?_
      all_goals
        intro K hK
        have HK := Lib.hid hK
        clear hK
      · go_simp
        refine (volumeOf_any r _).mono ?_
        rintro e w2 ⟨rfl, rfl⟩
        refine HK.out _ _ (fun _ => ⟨belo, (by repeat (first | exact Bk.new wr _ [_, _, _] | refine Bk.drew ?_ | refine Bk.alloc ?_ _))⟩) (fun _ => ?_)
        clear HK K
        try simp only [puts]
        refine WpK.two (i := 9) (k := 16) (by kernel_rfl) ((toArray_at _ _).trans rfl) ((toArray_at _ _).trans rfl) ?_ ?_
        all_goals
          intro K hK
          have HK := Lib.hid hK
          clear hK
        · go_simp
          refine HK.out _ _ (fun _ => ⟨belo, (by repeat (first | exact Bk.new wr _ [_, _, _] | refine Bk.drew ?_ | refine Bk.alloc ?_ _))⟩) (fun _ => ?_)
          clear HK K
          try simp only [puts]
          refine WpK.two (i := 10) (k := 16) (by kernel_rfl) ((toArray_at _ _).trans rfl) ((toArray_at _ _).trans rfl) ?_ ?_
          all_goals
            intro K hK
            have HK := Lib.hid hK
            clear hK
          · refine step_twoI UT.out IE.out rfl (.tmp 22) (.tmp 26) rfl (w.heap.size + 1) v1 (pfx (fun i => (rg l i).v) k) v2 (pfx (vV l) k) rfl (hT.below belo) _ _ r.v rfl (by simp [go_sem]) k P1.out (by omega) (by simp; omega) ?_
            intro g1 t1 q1 hT1 hP1 hG1
            have hB1 : Below (w.heap.size + 1) wr q1 := Below.trans belo hP1
            have hR1 : Bk q1 wr.heap.size 169 [.int .i64 r.h, .int .i64 r.v, .int .i64 r.d] := (hG1.block _ (by simp; omega) (fun e => HW.out _ (Nat.le_refl _) e.symm)).trans (by repeat (first | exact Bk.new wr _ [_, _, _] | refine Bk.drew ?_ | refine Bk.alloc ?_ _))
            refine HK.out _ _ (fun _ => ⟨hB1, hR1⟩) (fun _ => ?_)
            clear HK K
            try simp only [Act.put, puts]
            refine WpK.one (i := 16) (by kernel_rfl) ((toArray_at _ _).trans rfl) ?_
            intro K hK
            have HK := Lib.hid hK
            clear hK
            go_simp
            refine HK.out _ _ (fun _ => ⟨hB1.alloc (by have := hB1.size; omega) _, hR1.alloc _⟩) (fun _ => ?_)
            clear HK K
            try simp only [puts]
            refine WpK.one (i := 17) (by kernel_rfl) ((toArray_at _ _).trans rfl) ?_
            intro K hK
            have HK := Lib.hid hK
            clear hK
            have hz1 := hB1.size
            refine step_twoI UT.out IE.out rfl (.tmp 31) (.tmp 33) rfl (w.heap.size + 1) v2 (pfx (vV l) k) _ _ rfl (TwoI.swap (hT1.below belo)) _ _ X rfl ?_ k P2.out (by omega) (by first | omega | (simp; omega)) ?_
            · simp [go_sem]
            intro g2 t2 q2 hT2 hP2 hG2
            have hB2 : Below (w.heap.size + 1) wr q2 := Below.trans (Below.trans hB1 (Below.mono (B := q1.heap.size) belo (by omega))) hP2
            have hR2 : Bk q2 wr.heap.size 169 [.int .i64 r.h, .int .i64 r.v, .int .i64 r.d] := (hG2.block _ (by first | exact hR1.lt | exact (hR1.alloc _).lt) (fun e => HW2.out _ (Nat.le_refl _) e.symm)).trans (by first | exact hR1 | exact hR1.alloc _)
            refine HK.out _ _ (fun _ => ⟨hB2, hR2⟩) (fun _ => ?_)
            clear HK K hz1
            try simp only [Act.put, puts]
            have hS2 : Bk q2 w.heap.size 211 [v1, v2] := (hB2.block w.heap.size (Nat.lt_succ_self _)).trans hS.out
            have s0 := hS2.cell 0
            have s1 := hS2.cell 1
            have f0 := hS2.frozen 0
            have f1 := hS2.frozen 1
            have y0 := hR2.cell 0
            have y1 := hR2.cell 1
            have y2 := hR2.cell 2
            simp only [List.getElem?_cons_zero, List.getElem?_cons_succ] at s0 s1 y0 y1 y2
            refine WpK.one (i := 18) (by kernel_rfl) ((toArray_at _ _).trans rfl) ?_
            intro K hK
            have HK := Lib.hid hK
            clear hK
            go_simp
            refine HK.out _ _ (fun h => absurd h (by decide)) (fun _ => ?_)
            clear HK K
            try simp only [puts]
            refine WpK.one (i := 19) (by kernel_rfl) ((toArray_at _ _).trans rfl) ?_
            intro K hK
            have HK := Lib.hid hK
            clear hK
            go_simp
            refine HK.out _ _ (fun h => absurd h (by decide)) (fun _ => ?_)
            clear HK K
            try simp only [puts]
            refine WpK.one (i := 20) (by kernel_rfl) ((toArray_at _ _).trans rfl) ?_
            intro K hK
            have HK := Lib.hid hK
            clear hK
            go_simp
            refine HK.out _ _ (fun h => absurd h (by decide)) (fun _ => ?_)
            clear HK K
            try simp only [puts]
            refine WpK.one (i := 21) (by kernel_rfl) ((toArray_at _ _).trans rfl) ?_
            intro K hK
            have HK := Lib.hid hK
            clear hK
            go_simp
            refine HK.out _ _ (fun h => absurd h (by decide)) (fun _ => ?_)
            clear HK K
            try simp only [puts]
            refine WpK.one (i := 22) (by kernel_rfl) ((toArray_at _ _).trans rfl) ?_
            intro K hK
            have HK := Lib.hid hK
            clear hK
            go_simp
            refine HK.out _ _ (fun h => absurd h (by decide)) (fun _ => ?_)
            clear HK K
            try simp only [puts]
            refine WpK.one (i := 23) (by kernel_rfl) ((toArray_at _ _).trans rfl) ?_
            intro K hK
            have HK := Lib.hid hK
            clear hK
            go_simp
            refine HK.out _ _ (fun h => absurd h (by decide)) (fun _ => ?_)
            clear HK K
            try simp only [puts]
            refine WpK.done (by kernel_rfl) ?_
            clear d0 d1 d2
            have q3 := hB2.size
            go_wp2_with fail
            refine (volumeOf_any r _).mono ?_
            rintro e w2 ⟨rfl, rfl⟩
            go_wp2_with fail
            refine ⟨⟨k + 1, .slice (some ⟨g1, 0, none⟩) (k + 1) t1, .slice (some ⟨g2, 0, none⟩) (k + 1) t2, by omega, by go_num, ?_, ?_, ?_, ?_⟩, by simp [intOf]; omega⟩
            · rw [S3.out, HX.out, HRR.out]
            · rw [S1.out, S2.out, HE.out, HX.out]
              exact (((hT2.swap).setCell (Nat.lt_succ_self _) _).setCell (Nat.lt_succ_self _) _).below (ballo _ _)
            · exact ((hS2.set 0 _).set 1 _).alloc _
            · exact (((hbl.trans (hB2.mono (Nat.le_succ _))).setCell (Nat.le_refl _) _).setCell (Nat.le_refl _) _).alloc (by simp; omega) _
          · go_simp
            refine HK.out _ _ (fun _ => ⟨belo, (by repeat (first | exact Bk.new wr _ [_, _, _] | refine Bk.drew ?_ | refine Bk.alloc ?_ _))⟩) (fun _ => ?_)
            clear HK K
            try simp only [puts]
            refine WpK.one (i := 10) (by kernel_rfl) ((toArray_at _ _).trans rfl) ?_
            intro K hK
            have HK := Lib.hid hK
            clear hK
            refine step_twoI UT.out IE.out rfl (.tmp 22) (.tmp 26) rfl (w.heap.size + 1) v1 (pfx (fun i => (rg l i).v) k) v2 (pfx (vV l) k) rfl (hT.below belo) _ _ r.v rfl (by simp [go_sem]) k P1.out (by omega) (by simp; omega) ?_
            intro g1 t1 q1 hT1 hP1 hG1
            have hB1 : Below (w.heap.size + 1) wr q1 := Below.trans belo hP1
            have hR1 : Bk q1 wr.heap.size 169 [.int .i64 r.h, .int .i64 r.v, .int .i64 r.d] := (hG1.block _ (by simp; omega) (fun e => HW.out _ (Nat.le_refl _) e.symm)).trans (by repeat (first | exact Bk.new wr _ [_, _, _] | refine Bk.drew ?_ | refine Bk.alloc ?_ _))
            refine HK.out _ _ (fun _ => ⟨hB1, hR1⟩) (fun _ => ?_)
            clear HK K
            try simp only [Act.put, puts]
            refine WpK.one (i := 17) (by kernel_rfl) ((toArray_at _ _).trans rfl) ?_
            intro K hK
            have HK := Lib.hid hK
            clear hK
            have hz1 := hB1.size
            refine step_twoI UT.out IE.out rfl (.tmp 31) (.tmp 33) rfl (w.heap.size + 1) v2 (pfx (vV l) k) _ _ rfl (TwoI.swap (hT1.below belo)) _ _ X rfl ?_ k P2.out (by omega) (by first | omega | (simp; omega)) ?_
            · exact (World.cell?_of_block (hG1.block _ (by first | (dsimp only; simp; done) | (dsimp only; simp; omega)) (fun e => HW.out _ (by dsimp only; omega) e.symm))).trans (by simp [go_sem])
            intro g2 t2 q2 hT2 hP2 hG2
            have hB2 : Below (w.heap.size + 1) wr q2 := Below.trans (Below.trans hB1 (Below.mono (B := q1.heap.size) belo (by omega))) hP2
            have hR2 : Bk q2 wr.heap.size 169 [.int .i64 r.h, .int .i64 r.v, .int .i64 r.d] := (hG2.block _ (by first | exact hR1.lt | exact (hR1.alloc _).lt) (fun e => HW2.out _ (Nat.le_refl _) e.symm)).trans (by first | exact hR1 | exact hR1.alloc _)
            refine HK.out _ _ (fun _ => ⟨hB2, hR2⟩) (fun _ => ?_)
            clear HK K hz1
            try simp only [Act.put, puts]
            have hS2 : Bk q2 w.heap.size 211 [v1, v2] := (hB2.block w.heap.size (Nat.lt_succ_self _)).trans hS.out
            have s0 := hS2.cell 0
            have s1 := hS2.cell 1
            have f0 := hS2.frozen 0
            have f1 := hS2.frozen 1
            have y0 := hR2.cell 0
            have y1 := hR2.cell 1
            have y2 := hR2.cell 2
            simp only [List.getElem?_cons_zero, List.getElem?_cons_succ] at s0 s1 y0 y1 y2
            refine WpK.one (i := 18) (by kernel_rfl) ((toArray_at _ _).trans rfl) ?_
            intro K hK
            have HK := Lib.hid hK
            clear hK
            go_simp
            refine HK.out _ _ (fun h => absurd h (by decide)) (fun _ => ?_)
            clear HK K
            try simp only [puts]
            refine WpK.one (i := 19) (by kernel_rfl) ((toArray_at _ _).trans rfl) ?_
            intro K hK
            have HK := Lib.hid hK
            clear hK
            go_simp
            refine HK.out _ _ (fun h => absurd h (by decide)) (fun _ => ?_)
            clear HK K
            try simp only [puts]
            refine WpK.one (i := 20) (by kernel_rfl) ((toArray_at _ _).trans rfl) ?_
            intro K hK
            have HK := Lib.hid hK
            clear hK
            go_simp
            refine HK.out _ _ (fun h => absurd h (by decide)) (fun _ => ?_)
            clear HK K
            try simp only [puts]
            refine WpK.one (i := 21) (by kernel_rfl) ((toArray_at _ _).trans rfl) ?_
            intro K hK
            have HK := Lib.hid hK
            clear hK
            go_simp
            refine HK.out _ _ (fun h => absurd h (by decide)) (fun _ => ?_)
            clear HK K
            try simp only [puts]
            refine WpK.one (i := 22) (by kernel_rfl) ((toArray_at _ _).trans rfl) ?_
            intro K hK
            have HK := Lib.hid hK
            clear hK
            go_simp
            refine HK.out _ _ (fun h => absurd h (by decide)) (fun _ => ?_)
            clear HK K
            try simp only [puts]
            refine WpK.one (i := 23) (by kernel_rfl) ((toArray_at _ _).trans rfl) ?_
            intro K hK
            have HK := Lib.hid hK
            clear hK
            go_simp
            refine HK.out _ _ (fun h => absurd h (by decide)) (fun _ => ?_)
            clear HK K
            try simp only [puts]
            refine WpK.done (by kernel_rfl) ?_
            clear d0 d1 d2
            have q3 := hB2.size
            go_wp2_with fail
            refine (volumeOf_any r _).mono ?_
            rintro e w2 ⟨rfl, rfl⟩
            go_wp2_with fail
            refine ⟨⟨k + 1, .slice (some ⟨g1, 0, none⟩) (k + 1) t1, .slice (some ⟨g2, 0, none⟩) (k + 1) t2, by omega, by go_num, ?_, ?_, ?_, ?_⟩, by simp [intOf]; omega⟩
            · rw [S3.out, HX.out, HRR.out]
            · rw [S1.out, S2.out, HE.out, HX.out]
              exact (((hT2.swap).setCell (Nat.lt_succ_self _) _).setCell (Nat.lt_succ_self _) _).below (ballo _ _)
            · exact ((hS2.set 0 _).set 1 _).alloc _
            · exact (((hbl.trans (hB2.mono (Nat.le_succ _))).setCell (Nat.le_refl _) _).setCell (Nat.le_refl _) _).alloc (by simp; omega) _
        · go_simp
          refine HK.out _ _ (fun _ => ⟨belo, (by repeat (first | exact Bk.new wr _ [_, _, _] | refine Bk.drew ?_ | refine Bk.alloc ?_ _))⟩) (fun _ => ?_)
          clear HK K
          try simp only [puts]
          refine WpK.one (i := 9) (by kernel_rfl) ((toArray_at _ _).trans rfl) ?_
          intro K hK
          have HK := Lib.hid hK
          clear hK
          go_simp
          refine HK.out _ _ (fun _ => ⟨belo, (by repeat (first | exact Bk.new wr _ [_, _, _] | refine Bk.drew ?_ | refine Bk.alloc ?_ _))⟩) (fun _ => ?_)
          clear HK K
          try simp only [puts]
          refine WpK.one (i := 10) (by kernel_rfl) ((toArray_at _ _).trans rfl) ?_
          intro K hK
          have HK := Lib.hid hK
          clear hK
          refine step_twoI UT.out IE.out rfl (.tmp 22) (.tmp 26) rfl (w.heap.size + 1) v1 (pfx (fun i => (rg l i).v) k) v2 (pfx (vV l) k) rfl (hT.below belo) _ _ r.v rfl (by simp [go_sem]) k P1.out (by omega) (by simp; omega) ?_
          intro g1 t1 q1 hT1 hP1 hG1
          have hB1 : Below (w.heap.size + 1) wr q1 := Below.trans belo hP1
          have hR1 : Bk q1 wr.heap.size 169 [.int .i64 r.h, .int .i64 r.v, .int .i64 r.d] := (hG1.block _ (by simp; omega) (fun e => HW.out _ (Nat.le_refl _) e.symm)).trans (by repeat (first | exact Bk.new wr _ [_, _, _] | refine Bk.drew ?_ | refine Bk.alloc ?_ _))
          refine HK.out _ _ (fun _ => ⟨hB1, hR1⟩) (fun _ => ?_)
          clear HK K
          try simp only [Act.put, puts]
          refine WpK.one (i := 17) (by kernel_rfl) ((toArray_at _ _).trans rfl) ?_
          intro K hK
          have HK := Lib.hid hK
          clear hK
          have hz1 := hB1.size
          refine step_twoI UT.out IE.out rfl (.tmp 31) (.tmp 33) rfl (w.heap.size + 1) v2 (pfx (vV l) k) _ _ rfl (TwoI.swap (hT1.below belo)) _ _ X rfl ?_ k P2.out (by omega) (by first | omega | (simp; omega)) ?_
          · exact (World.cell?_of_block (hG1.block _ (by first | (dsimp only; simp; done) | (dsimp only; simp; omega)) (fun e => HW.out _ (by dsimp only; omega) e.symm))).trans (by simp [go_sem])
          intro g2 t2 q2 hT2 hP2 hG2
          have hB2 : Below (w.heap.size + 1) wr q2 := Below.trans (Below.trans hB1 (Below.mono (B := q1.heap.size) belo (by omega))) hP2
          have hR2 : Bk q2 wr.heap.size 169 [.int .i64 r.h, .int .i64 r.v, .int .i64 r.d] := (hG2.block _ (by first | exact hR1.lt | exact (hR1.alloc _).lt) (fun e => HW2.out _ (Nat.le_refl _) e.symm)).trans (by first | exact hR1 | exact hR1.alloc _)
          refine HK.out _ _ (fun _ => ⟨hB2, hR2⟩) (fun _ => ?_)
          clear HK K hz1
          try simp only [Act.put, puts]
          have hS2 : Bk q2 w.heap.size 211 [v1, v2] := (hB2.block w.heap.size (Nat.lt_succ_self _)).trans hS.out
          have s0 := hS2.cell 0
          have s1 := hS2.cell 1
          have f0 := hS2.frozen 0
          have f1 := hS2.frozen 1
          have y0 := hR2.cell 0
          have y1 := hR2.cell 1
          have y2 := hR2.cell 2
          simp only [List.getElem?_cons_zero, List.getElem?_cons_succ] at s0 s1 y0 y1 y2
          refine WpK.one (i := 18) (by kernel_rfl) ((toArray_at _ _).trans rfl) ?_
          intro K hK
          have HK := Lib.hid hK
          clear hK
          go_simp
          refine HK.out _ _ (fun h => absurd h (by decide)) (fun _ => ?_)
          clear HK K
          try simp only [puts]
          refine WpK.one (i := 19) (by kernel_rfl) ((toArray_at _ _).trans rfl) ?_
          intro K hK
          have HK := Lib.hid hK
          clear hK
          go_simp
          refine HK.out _ _ (fun h => absurd h (by decide)) (fun _ => ?_)
          clear HK K
          try simp only [puts]
          refine WpK.one (i := 20) (by kernel_rfl) ((toArray_at _ _).trans rfl) ?_
          intro K hK
          have HK := Lib.hid hK
          clear hK
          go_simp
          refine HK.out _ _ (fun h => absurd h (by decide)) (fun _ => ?_)
          clear HK K
          try simp only [puts]
          refine WpK.one (i := 21) (by kernel_rfl) ((toArray_at _ _).trans rfl) ?_
          intro K hK
          have HK := Lib.hid hK
          clear hK
          go_simp
          refine HK.out _ _ (fun h => absurd h (by decide)) (fun _ => ?_)
          clear HK K
          try simp only [puts]
          refine WpK.one (i := 22) (by kernel_rfl) ((toArray_at _ _).trans rfl) ?_
          intro K hK
          have HK := Lib.hid hK
          clear hK
          go_simp
          refine HK.out _ _ (fun h => absurd h (by decide)) (fun _ => ?_)
          clear HK K
          try simp only [puts]
          refine WpK.one (i := 23) (by kernel_rfl) ((toArray_at _ _).trans rfl) ?_
          intro K hK
          have HK := Lib.hid hK
          clear hK
          go_simp
          refine HK.out _ _ (fun h => absurd h (by decide)) (fun _ => ?_)
          clear HK K
          try simp only [puts]
          refine WpK.done (by kernel_rfl) ?_
          clear d0 d1 d2
          have q3 := hB2.size
          go_wp2_with fail
          refine (volumeOf_any r _).mono ?_
          rintro e w2 ⟨rfl, rfl⟩
          go_wp2_with fail
          refine ⟨⟨k + 1, .slice (some ⟨g1, 0, none⟩) (k + 1) t1, .slice (some ⟨g2, 0, none⟩) (k + 1) t2, by omega, by go_num, ?_, ?_, ?_, ?_⟩, by simp [intOf]; omega⟩
          · rw [S3.out, HX.out, HRR.out]
          · rw [S1.out, S2.out, HE.out, HX.out]
            exact (((hT2.swap).setCell (Nat.lt_succ_self _) _).setCell (Nat.lt_succ_self _) _).below (ballo _ _)
          · exact ((hS2.set 0 _).set 1 _).alloc _
          · exact (((hbl.trans (hB2.mono (Nat.le_succ _))).setCell (Nat.le_refl _) _).setCell (Nat.le_refl _) _).alloc (by simp; omega) _
      · go_simp
        refine HK.out _ _ (fun _ => ⟨belo, (by repeat (first | exact Bk.new wr _ [_, _, _] | refine Bk.drew ?_ | refine Bk.alloc ?_ _))⟩) (fun _ => ?_)
        clear HK K
        try simp only [puts]
        refine WpK.one (i := 8) (by kernel_rfl) ((toArray_at _ _).trans rfl) ?_
        intro K hK
        have HK := Lib.hid hK
        clear hK
        go_simp
        refine (volumeOf_any r _).mono ?_
        rintro e w2 ⟨rfl, rfl⟩
        refine HK.out _ _ (fun _ => ⟨belo, (by repeat (first | exact Bk.new wr _ [_, _, _] | refine Bk.drew ?_ | refine Bk.alloc ?_ _))⟩) (fun _ => ?_)
        clear HK K
        try simp only [puts]
        refine WpK.one (i := 9) (by kernel_rfl) ((toArray_at _ _).trans rfl) ?_
        intro K hK
        have HK := Lib.hid hK
        clear hK
        go_simp
        refine HK.out _ _ (fun _ => ⟨belo, (by repeat (first | exact Bk.new wr _ [_, _, _] | refine Bk.drew ?_ | refine Bk.alloc ?_ _))⟩) (fun _ => ?_)
        clear HK K
        try simp only [puts]
        refine WpK.one (i := 10) (by kernel_rfl) ((toArray_at _ _).trans rfl) ?_
        intro K hK
        have HK := Lib.hid hK
        clear hK
        refine step_twoI UT.out IE.out rfl (.tmp 22) (.tmp 26) rfl (w.heap.size + 1) v1 (pfx (fun i => (rg l i).v) k) v2 (pfx (vV l) k) rfl (hT.below belo) _ _ r.v rfl (by simp [go_sem]) k P1.out (by omega) (by simp; omega) ?_
        intro g1 t1 q1 hT1 hP1 hG1
        have hB1 : Below (w.heap.size + 1) wr q1 := Below.trans belo hP1
        have hR1 : Bk q1 wr.heap.size 169 [.int .i64 r.h, .int .i64 r.v, .int .i64 r.d] := (hG1.block _ (by simp; omega) (fun e => HW.out _ (Nat.le_refl _) e.symm)).trans (by repeat (first | exact Bk.new wr _ [_, _, _] | refine Bk.drew ?_ | refine Bk.alloc ?_ _))
        refine HK.out _ _ (fun _ => ⟨hB1, hR1⟩) (fun _ => ?_)
        clear HK K
        try simp only [Act.put, puts]
        refine WpK.one (i := 17) (by kernel_rfl) ((toArray_at _ _).trans rfl) ?_
        intro K hK
        have HK := Lib.hid hK
        clear hK
        have hz1 := hB1.size
        refine step_twoI UT.out IE.out rfl (.tmp 31) (.tmp 33) rfl (w.heap.size + 1) v2 (pfx (vV l) k) _ _ rfl (TwoI.swap (hT1.below belo)) _ _ X rfl ?_ k P2.out (by omega) (by first | omega | (simp; omega)) ?_
        · exact (World.cell?_of_block (hG1.block _ (by first | (dsimp only; simp; done) | (dsimp only; simp; omega)) (fun e => HW.out _ (by dsimp only; omega) e.symm))).trans (by simp [go_sem])
        intro g2 t2 q2 hT2 hP2 hG2
        have hB2 : Below (w.heap.size + 1) wr q2 := Below.trans (Below.trans hB1 (Below.mono (B := q1.heap.size) belo (by omega))) hP2
        have hR2 : Bk q2 wr.heap.size 169 [.int .i64 r.h, .int .i64 r.v, .int .i64 r.d] := (hG2.block _ (by first | exact hR1.lt | exact (hR1.alloc _).lt) (fun e => HW2.out _ (Nat.le_refl _) e.symm)).trans (by first | exact hR1 | exact hR1.alloc _)
        refine HK.out _ _ (fun _ => ⟨hB2, hR2⟩) (fun _ => ?_)
        clear HK K hz1
        try simp only [Act.put, puts]
        have hS2 : Bk q2 w.heap.size 211 [v1, v2] := (hB2.block w.heap.size (Nat.lt_succ_self _)).trans hS.out
        have s0 := hS2.cell 0
        have s1 := hS2.cell 1
        have f0 := hS2.frozen 0
        have f1 := hS2.frozen 1
        have y0 := hR2.cell 0
        have y1 := hR2.cell 1
        have y2 := hR2.cell 2
        simp only [List.getElem?_cons_zero, List.getElem?_cons_succ] at s0 s1 y0 y1 y2
        refine WpK.one (i := 18) (by kernel_rfl) ((toArray_at _ _).trans rfl) ?_
        intro K hK
        have HK := Lib.hid hK
        clear hK
        go_simp
        refine HK.out _ _ (fun h => absurd h (by decide)) (fun _ => ?_)
        clear HK K
        try simp only [puts]
        refine WpK.one (i := 19) (by kernel_rfl) ((toArray_at _ _).trans rfl) ?_
        intro K hK
        have HK := Lib.hid hK
        clear hK
        go_simp
        refine HK.out _ _ (fun h => absurd h (by decide)) (fun _ => ?_)
        clear HK K
        try simp only [puts]
        refine WpK.one (i := 20) (by kernel_rfl) ((toArray_at _ _).trans rfl) ?_
        intro K hK
        have HK := Lib.hid hK
        clear hK
        go_simp
        refine HK.out _ _ (fun h => absurd h (by decide)) (fun _ => ?_)
        clear HK K
        try simp only [puts]
        refine WpK.one (i := 21) (by kernel_rfl) ((toArray_at _ _).trans rfl) ?_
        intro K hK
        have HK := Lib.hid hK
        clear hK
        go_simp
        refine HK.out _ _ (fun h => absurd h (by decide)) (fun _ => ?_)
        clear HK K
        try simp only [puts]
        refine WpK.one (i := 22) (by kernel_rfl) ((toArray_at _ _).trans rfl) ?_
        intro K hK
        have HK := Lib.hid hK
        clear hK
        go_simp
        refine HK.out _ _ (fun h => absurd h (by decide)) (fun _ => ?_)
        clear HK K
        try simp only [puts]
        refine WpK.one (i := 23) (by kernel_rfl) ((toArray_at _ _).trans rfl) ?_
        intro K hK
        have HK := Lib.hid hK
        clear hK
        go_simp
        refine HK.out _ _ (fun h => absurd h (by decide)) (fun _ => ?_)
        clear HK K
        try simp only [puts]
        refine WpK.done (by kernel_rfl) ?_
        clear d0 d1 d2
        have q3 := hB2.size
        go_wp2_with fail
        refine (volumeOf_any r _).mono ?_
        rintro e w2 ⟨rfl, rfl⟩
        go_wp2_with fail
        refine ⟨⟨k + 1, .slice (some ⟨g1, 0, none⟩) (k + 1) t1, .slice (some ⟨g2, 0, none⟩) (k + 1) t2, by omega, by go_num, ?_, ?_, ?_, ?_⟩, by simp [intOf]; omega⟩
        · rw [S3.out, HX.out, HRR.out]
        · rw [S1.out, S2.out, HE.out, HX.out]
          exact (((hT2.swap).setCell (Nat.lt_succ_self _) _).setCell (Nat.lt_succ_self _) _).below (ballo _ _)
        · exact ((hS2.set 0 _).set 1 _).alloc _
        · exact (((hbl.trans (hB2.mono (Nat.le_succ _))).setCell (Nat.le_refl _) _).setCell (Nat.le_refl _) _).alloc (by simp; omega) _
    · obtain rfl : k = n := by omega
      have p1 := pfx_len (fun i => (rg l i).v) k
      have p2 := pfx_len (vV l) k
      have s2 := pfx_succ (vV l) k
      have P1 := Lib.hid p1; clear p1
      have P2 := Lib.hid p2; clear p2
      have S2 := Lib.hid s2; clear s2
      have UT := Lib.hid (Tryz.underlying209)
      have IE : (Tryz.prog.info? 163).map (fun i => (i.zero, i.size, i.bytes)) = some (some (.int .i64 0), 1, 8) := by kernel_rfl
      have IE := Lib.hid IE
      have hS3 := hS.out.lt
      have s0 := hS.out.cell 0
      have s1 := hS.out.cell 1
      have f0 := hS.out.frozen 0
      have f1 := hS.out.frozen 1
      simp only [List.getElem?_cons_zero, List.getElem?_cons_succ] at s0 s1
      obtain ⟨X, hX⟩ : ∃ X, vV l k = X := ⟨_, rfl⟩
      rw [hX] at S2 ⊢
      have HX := Lib.hid hX; clear hX
      go_wp2_with (with_reducible refine list_twoI UT.out IE.out rfl (.tmp 49) (.tmp 51) rfl (w.heap.size + 1) v2 (pfx (vV l) k) v1 (pfx (fun i => (rg l i).v) k) rfl (TwoI.swap (hT.below (ballo _ _))) _ _ X rfl ?_ k P2.out ?_ ?_ ?_)
      · simp [go_sem]
      · omega
      · simp; omega
      intro g1 t1 q1 hT1 hP1 hG1
      have hS2 : Bk q1 w.heap.size 211 [v1, v2] := (hP1.block w.heap.size (Nat.lt_succ_self _)).trans (hS.out.alloc _)
      have hB1 : Below (w.heap.size + 1) wr q1 := Below.trans ((Below.refl _ _).alloc (by omega) _) hP1
      have z0 := hS2.cell 0
      have z1 := hS2.cell 1
      have g0 := hS2.frozen 0
      have g1 := hS2.frozen 1
      simp only [List.getElem?_cons_zero, List.getElem?_cons_succ] at z0 z1
      go_wp2_with fail
      go_ret
      refine ⟨_, rfl, (hbl.trans (hB1.mono (Nat.le_succ _))).setCell (Nat.le_refl _) _, ?_⟩
      refine ⟨w.heap.size, v1, _, rfl, (hS2.set 1 _), ?_, ?_⟩
      · exact OwnI.ints ((hT1.swap).setCell (Nat.lt_succ_self _) _).1
      · rw [S2.out]
        exact OwnI.ints ((hT1.swap).setCell (Nat.lt_succ_self _) _).2.1
end Go.Proofs.YtnfndiafabhhdaaGreat
