/- Walk of the reference's Left: all lines against all (Wear). -/
import Derived.Test.YtnfndiafabhhdaaGreatG3
import Derived.Test.YtnfndiafabhhdaaGreatC6
namespace Go.Proofs.YtnfndiafabhhdaaGreat
open Go.ChangeShapes Go.WideShapes Go.ChangeAt Go.RowKit
def rlAt (L : List (Ln × Bool)) (i : Nat) : Ln × Bool := L[i]?.getD (⟨0, 0, 1, false⟩, false)
theorem rlAt_mem {L : List (Ln × Bool)} {i : Nat} (h : i < L.length) : rlAt L i ∈ L := by
  simp [rlAt, List.getElem?_eq_getElem h]
theorem rlAt_take {L : List (Ln × Bool)} {i : Nat} (h : i < L.length) : L.take (i + 1) = L.take i ++ [rlAt L i] := by
  rw [List.take_succ_eq_append_getElem h]; simp [rlAt, List.getElem?_eq_getElem h]
def rlF (L : List (Ln × Bool)) (i j : Nat) : Value := match j with
  | 0 => .int .i64 (rlAt L i).1.k
  | 1 => .int .i64 (rlAt L i).1.n
  | 2 => .int .i64 (rlAt L i).1.d
  | 3 => .bool (rlAt L i).2
  | _ => .bool (rlAt L i).1.s
abbrev RlR (w : World) (v : Value) (L : List (Ln × Bool)) : Prop := Row w v 5 L.length (rlF L)
def stR (i : Ln × Bool) (r : Rn) (k : Ln × Bool) : Rn := if (!i.2 && k.2) = true then pairR r i.1 k.1 else r
def inR (L : List (Ln × Bool)) (r : Rn) (i : Ln × Bool) : Rn := L.foldl (stR i) r
theorem leftR_in (r : Rn) (L : List (Ln × Bool)) : leftR r L = L.foldl (inR L) r := rfl
theorem stR_bd {i k : Ln × Bool} {r : Rn} (h : RnC r) (hi : LnB i.1) (hk : LnB k.1) : RnC (stR i r k) := by
  unfold stR
  split
  · exact pairR_bd h hi hk
  · exact h
theorem inR_bd {i : Ln × Bool} (hi : LnB i.1) : ∀ {L : List (Ln × Bool)} {r : Rn}, (∀ x ∈ L, LnB x.1) → RnC r → RnC (L.foldl (stR i) r)
  | [], _, _, h => h
  | k :: L, r, hL, h => inR_bd hi (L := L) (fun x hx => hL x (by simp [hx])) (stR_bd h hi (hL k (by simp)))
theorem outR_bd {M : List (Ln × Bool)} (hM : ∀ x ∈ M, LnB x.1) : ∀ {L : List (Ln × Bool)} {r : Rn}, (∀ x ∈ L, LnB x.1) → RnC r → RnC (L.foldl (inR M) r)
  | [], _, _, h => h
  | k :: L, r, hL, h => outR_bd hM (L := L) (fun x hx => hL x (by simp [hx])) (inR_bd (hL k (by simp)) hM h)
set_option maxRecDepth 100000 in
set_option maxHeartbeats 4000000 in
theorem Left_any (L : List (Ln × Bool)) (r : Rn) (v : Value) (w : World) (hL : RlR w v L) (hB : ∀ x ∈ L, LnB x.1) (hr : RnC r) :
    Calls Tryz.prog 93 #[v, inV r] w fun e w' => e = .returned (inV (leftR r L)) ∧ Below w.heap.size w w' := by
  obtain ⟨o, c, rfl, m⟩ := hL.parts
  obtain ⟨n, hn⟩ : ∃ n, L.length = n := ⟨_, rfl⟩
  have HL := Lib.hid hL; clear hL
  have HN := Lib.hid hn
  rw [hn] at m ⊢
  have HB := Lib.hid hB
  have HRC := Lib.hid hr
  clear hn hr hB
  rw [leftR_in]
  go_enter Tryz.func93, Tryz.ntmps93
  go_wp2_with fail
  go_loopw [5] (fun i wr => ∃ k : Nat, k ≤ n ∧ i = .int .i64 (k : Int) ∧ Hid (Bk wr w.heap.size 129 (inC ((L.take k).foldl (inR L) r))) ∧ Hid (Bk wr (w.heap.size + 1) 129 [.int .i64 0, .int .i64 0, .int .i64 0, .int .i64 0, .bool false, .bool false, .bool false]) ∧ Hid (Below w.heap.size w wr)) (fun i _ => n - (intOf i).toNat)
  case atStart => exact ⟨0, Nat.zero_le _, rfl, Lib.hid ((Bk.new w _ (inC r)).alloc _), Lib.hid (Bk.new1 _ _ _ [.int .i64 0, .int .i64 0, .int .i64 0, .int .i64 0, .bool false, .bool false, .bool false]), Lib.hid belw⟩
  case round =>
    obtain ⟨k, hk, rfl, hx, hz, hbl⟩ := hrel
    by_cases h0 : k < n
    · obtain ⟨b, off, rfl, hb, hc⟩ := HL.out.cells (by rw [HN.out]; omega)
      have HC := Lib.hid hc; clear hc
      have htk := rlAt_take (L := L) (i := k) (by rw [HN.out]; exact h0)
      have HT := Lib.hid htk; clear htk
      have hlk := HB.out _ (rlAt_mem (by rw [HN.out]; exact h0))
      have hrk : RnC ((L.take k).foldl (inR L) r) := outR_bd HB.out (fun x hx => HB.out x (List.mem_of_mem_take hx)) HRC.out
      obtain ⟨R, hR⟩ : ∃ R, (L.take k).foldl (inR L) r = R := ⟨_, rfl⟩
      rw [hR] at hrk hx
      have HRK := Lib.hid hR; clear hR
      have HLKB := Lib.hid hlk
      have HRKB := Lib.hid hrk
      clear hlk hrk
      go_wp2_with fail
      obtain ⟨wo, rfl⟩ : ∃ wo : World, wo = wr := ⟨_, rfl⟩
      go_loopw [6] (fun i wr2 => ∃ j : Nat, j ≤ n ∧ i = .int .i64 (j : Int) ∧ Hid (Bk wr2 w.heap.size 129 (inC ((L.take j).foldl (stR (rlAt L k)) R))) ∧ Hid (Bk wr2 (w.heap.size + 1) 129 [.int .i64 0, .int .i64 0, .int .i64 0, .int .i64 0, .bool false, .bool false, .bool false]) ∧ Hid (Below w.heap.size w wr2)) (fun i _ => n - (intOf i).toNat)
      case atStart =>
        exact ⟨0, Nat.zero_le _, rfl, hx, hz, hbl⟩
      case round =>
        obtain ⟨j, hj, rfl, hb2, hz2, hbl2⟩ := hrel
        by_cases h1 : j < n
        · have d0 := (hbl2.out.cell (p := ⟨b, off + k * 5, none⟩) hb).trans (HC.out k 0 (by rw [HN.out]; exact h0) (by omega))
          have d1 := (hbl2.out.cell (p := ⟨b, off + k * 5 + 1, none⟩) hb).trans (HC.out k 1 (by rw [HN.out]; exact h0) (by omega))
          have d2 := (hbl2.out.cell (p := ⟨b, off + k * 5 + 2, none⟩) hb).trans (HC.out k 2 (by rw [HN.out]; exact h0) (by omega))
          have d3 := (hbl2.out.cell (p := ⟨b, off + k * 5 + 3, none⟩) hb).trans (HC.out k 3 (by rw [HN.out]; exact h0) (by omega))
          have d4 := (hbl2.out.cell (p := ⟨b, off + k * 5 + 4, none⟩) hb).trans (HC.out k 4 (by rw [HN.out]; exact h0) (by omega))
          have e0 := (hbl2.out.cell (p := ⟨b, off + j * 5, none⟩) hb).trans (HC.out j 0 (by rw [HN.out]; exact h1) (by omega))
          have e1 := (hbl2.out.cell (p := ⟨b, off + j * 5 + 1, none⟩) hb).trans (HC.out j 1 (by rw [HN.out]; exact h1) (by omega))
          have e2 := (hbl2.out.cell (p := ⟨b, off + j * 5 + 2, none⟩) hb).trans (HC.out j 2 (by rw [HN.out]; exact h1) (by omega))
          have e3 := (hbl2.out.cell (p := ⟨b, off + j * 5 + 3, none⟩) hb).trans (HC.out j 3 (by rw [HN.out]; exact h1) (by omega))
          have e4 := (hbl2.out.cell (p := ⟨b, off + j * 5 + 4, none⟩) hb).trans (HC.out j 4 (by rw [HN.out]; exact h1) (by omega))
          simp only [rlF] at d0 d1 d2 d3 d4 e0 e1 e2 e3 e4
          have huk := HB.out _ (rlAt_mem (by rw [HN.out]; exact h1))
          have htj := rlAt_take (L := L) (i := j) (by rw [HN.out]; exact h1)
          have HTJ := Lib.hid htj; clear htj
          have hrj : RnC ((L.take j).foldl (stR (rlAt L k)) R) := inR_bd HLKB.out (fun x hx => HB.out x (List.mem_of_mem_take hx)) HRKB.out
          obtain ⟨R2, hR2⟩ : ∃ R2, (L.take j).foldl (stR (rlAt L k)) R = R2 := ⟨_, rfl⟩
          rw [hR2] at hrj hb2
          have HR2 := Lib.hid hR2; clear hR2
          have hlk := HLKB.out
          obtain ⟨x, hl⟩ : ∃ l, rlAt L k = l := ⟨_, rfl⟩
          rw [hl] at d0 d1 d2 d3 d4 hlk
          have HLK := Lib.hid hl; clear hl
          obtain ⟨u, hu⟩ : ∃ l, rlAt L j = l := ⟨_, rfl⟩
          rw [hu] at e0 e1 e2 e3 e4 huk
          have HU := Lib.hid hu; clear hu
          obtain ⟨x, xb⟩ := x
          obtain ⟨u, ub⟩ := u
          have hbw : b < wr.heap.size := Nat.lt_of_lt_of_le hb hbl2.out.size
          have zl := hz2.out.lt
          simp only at d0 d1 d2 d3 d4 e0 e1 e2 e3 e4 hlk huk
          cases xb with
          | true =>
            have hs : stR (rlAt L k) R2 (u, ub) = R2 := by rw [HLK.out]; rfl
            have HS := Lib.hid hs; clear hs
            clear d0 d1 d2 d4 e0 e1 e2 e4 hlk huk hrj
            go_wp2_with fail
            refine ⟨⟨j + 1, by omega, by go_num, Lib.hid ?_, hz2, hbl2⟩, by simp [intOf]; omega⟩
            rw [HTJ.out, List.foldl_append, HR2.out, HU.out]
            show Bk _ _ _ (inC (stR (rlAt L k) R2 (u, ub)))
            rw [HS.out]
            exact hb2.out
          | false =>
            cases ub with
            | false =>
              have hs : stR (rlAt L k) R2 (u, false) = R2 := by rw [HLK.out]; rfl
              have HS := Lib.hid hs; clear hs
              clear d0 d1 d2 d4 e0 e1 e2 e4 hlk huk hrj
              go_wp2_with fail
              refine ⟨⟨j + 1, by omega, by go_num, Lib.hid ?_, hz2, hbl2⟩, by simp [intOf]; omega⟩
              rw [HTJ.out, List.foldl_append, HR2.out, HU.out]
              show Bk _ _ _ (inC (stR (rlAt L k) R2 (u, false)))
              rw [HS.out]
              exact hb2.out
            | true =>
              have hs : stR (rlAt L k) R2 (u, true) = pairR R2 x u := by rw [HLK.out]; rfl
              have HS := Lib.hid hs; clear hs
              have mc := @more_cell wr
              have k1 : ∀ i : More wr, _ := fun i => more_call (between_any R2 x u i.x hrj.lo hrj.hi hlk huk)
              have K1 := Lib.hid k1
              have x0 := hb2.out.cell 0
              have x1 := hb2.out.cell 1
              have x2 := hb2.out.cell 2
              have x3 := hb2.out.cell 3
              have x4 := hb2.out.cell 4
              have x5 := hb2.out.cell 5
              have x6 := hb2.out.cell 6
              have xl := hb2.out.lt
              simp only [List.getElem?_cons_zero, List.getElem?_cons_succ] at x0 x1 x2 x3 x4 x5 x6
              obtain ⟨R3, hR3⟩ : ∃ R3, pairR R2 x u = R3 := ⟨_, rfl⟩
              rw [hR3] at k1 HS
              have K1 := Lib.hid k1
              clear k1 hlk huk hrj hR3
              go_wp2_with fail
              refine wp_head_more [0, 1, 2, 3, 4, 5, 6, 7, 8, 9] [10] (by kernel_rfl) (by kernel_rfl) ?_
              simp only [hPick, List.getElem?_cons_zero, List.getElem?_cons_succ]
              iterate 8 (try (first | go_big_quiet_step ((with_reducible first | exact K1.out _)) | quiet_step ((with_reducible first | exact K1.out _))))
              iterate 8 (try (first | go_big_quiet_step ((with_reducible first | exact K1.out _)) | quiet_step ((with_reducible first | exact K1.out _))))
              iterate 8 (try (first | go_big_quiet_step ((with_reducible first | exact K1.out _)) | quiet_step ((with_reducible first | exact K1.out _))))
              iterate 8 (try (first | go_big_quiet_step ((with_reducible first | exact K1.out _)) | quiet_step ((with_reducible first | exact K1.out _))))
              iterate 8 (try (first | go_big_quiet_step ((with_reducible first | exact K1.out _)) | quiet_step ((with_reducible first | exact K1.out _))))
              refine wpQuiet_nil ?_
              rintro ⟨wm, hbm⟩
              try dsimp only
              have hX := hb2.out.below hbm
              have hZ := hz2.out.below hbm
              have hW := hbl2.out.trans (hbm.mono hbl2.out.size)
              go_wp2_with (refine st_at rfl (T := 129) rfl rfl (cs := inC R3) rfl hX (by kernel_rfl) rfl rfl ?_; intro wk hkk hsk)
              refine ⟨⟨j + 1, by omega, by go_num, Lib.hid ?_, Lib.hid (hZ.bes hsk (by omega)), Lib.hid (bes_then hW hsk (Nat.le_refl _) hW.size)⟩, by simp [intOf]; omega⟩
              rw [HTJ.out, List.foldl_append, HR2.out, HU.out]
              show Bk _ _ _ (inC (stR (rlAt L k) R2 (u, true)))
              rw [HS.out]
              exact hkk
        · obtain rfl : j = n := by omega
          go_wp2_with fail
          refine ⟨⟨k + 1, by omega, by go_num, Lib.hid ?_, hz2, hbl2⟩, by simp [intOf]; omega⟩
          have e : L.take j = L := by rw [← HN.out]; exact List.take_length
          rw [HT.out, List.foldl_append, HRK.out]
          show Bk _ _ _ (inC (L.foldl (stR (rlAt L k)) R))
          have h := hb2.out
          rw [e] at h
          exact h
    · obtain rfl : k = n := by omega
      have e : L.take k = L := by rw [← HN.out]; exact List.take_length
      rw [e] at hx
      obtain ⟨R, hR⟩ : ∃ R, L.foldl (inR L) r = R := ⟨_, rfl⟩
      rw [hR] at hx
      have HRE := Lib.hid hR
      clear e hR
      go_wp2_with (first | (refine ld_at rfl (T := 129) rfl rfl hx.out Tryz.underlying129 rfl (by kernel_rfl) ?_) | (refine st_at rfl (T := 129) rfl rfl (cs := inC R) rfl hz.out (by kernel_rfl) rfl rfl ?_; intro wk hkk hsk))
      refine bodyPost_ret (v := inV R) (results_cell_row rfl _ _ (w.heap.size + 1) _ _ (0, 0) _ rfl hkk Tryz.underlying129 rfl (by kernel_rfl)) rfl ⟨by rw [HRE.out], ?_⟩
      exact bes_then hbl.out hsk (by omega) hbl.out.size
theorem ret_tmp_cell {P : Program} {fn : Func} {p u : Tmp} {ty : TypeId} (h : fn.results = #[.tmp u, .cell p ty]) (tmps : Array Value) (w : World) {g : Nat} {t : TypeId} {cs : List Value} {d : TypeDesc}
    (hp : tmps.getD p undef = .pointer (some ⟨g, 0, none⟩)) (hg : Bk w g t cs)
    (hu : P.underlying ty = some d) (hd : (match d with | .struct _ | .array _ _ => true | _ => false) = true) (hi : (P.info? ty).map (·.size) = some cs.length) :
    (results fn tmps).run P w = .ok (.tuple #[tmps.getD u undef, .agg cs.toArray]) w := by
  have e : (results fn tmps).run P w = ((asAddr (tmps.getD p undef)).run P w).andThen fun a w₁ => ((loadVar ty a).run P w₁).andThen fun v w₂ => .ok (.tuple #[tmps.getD u undef, v]) w₂ := by
    simp only [results, h]
    simp [Sem.run_bind, Result.andThen]
  rw [e, hp]
  simp [asAddr, run_loadVar_row w g t ty cs.toArray (0, 0) d hg hu hd (by simpa using hi)]
abbrev rlL (L : List (Ln × Bool)) : List Value := L.flatMap rlC
theorem rlL_len : ∀ L : List (Ln × Bool), (rlL L).length = L.length * 5
  | [] => rfl
  | x :: L => by
    rw [rlL, List.flatMap_cons, List.length_append, List.length_cons]
    have := rlL_len L
    rw [rlL] at this
    rw [this]
    simp
    omega
theorem rlL_at : ∀ {L : List (Ln × Bool)} {i j : Nat}, i < L.length → j < 5 → (rlL L)[i * 5 + j]? = some (rlF L i j)
  | [], _, _, h, _ => by simp at h
  | x :: L, 0, j, _, hj => by
    rw [rlL, List.flatMap_cons, Nat.zero_mul, Nat.zero_add, List.getElem?_append_left (by simpa using hj)]
    have hj5 : j = 0 ∨ j = 1 ∨ j = 2 ∨ j = 3 ∨ j = 4 := by omega
    rcases hj5 with rfl | rfl | rfl | rfl | rfl <;> rfl
  | x :: L, i + 1, j, hi, hj => by
    have h := rlL_at (L := L) (i := i) (j := j) (by simpa using hi) hj
    rw [rlL, List.flatMap_cons, List.getElem?_append_right (by simp; omega)]
    rw [show (i + 1) * 5 + j - (rlC x).length = i * 5 + j by simp; omega, h]
    rfl
abbrev OwnRl (w : World) (base : Nat) (v : Value) (L : List (Ln × Bool)) : Prop := w.ownsRow base 139 5 v L.length (rlL L)
theorem own_row {w : World} {base : Nat} {E : TypeId} {k : Nat} {v : Value} {n : Nat} {xs : List Value} {f : Nat → Nat → Value} (h : w.ownsRow base E k v n xs) (hx : ∀ i j, i < n → j < k → xs[i * k + j]? = some (f i j)) : Row w v k n f := by
  have h0 := h
  rcases h.2 with ⟨h1, h2⟩ | ⟨g, cap, cur, rfl, hbg, hg, hn, hc, _⟩
  · subst h2
    rw [h1]
    exact Row.nil _ _ _ _ _
  · refine ⟨_, _, rfl, by unfold maxLen at hc; omega, fun _ => ⟨g, 0, rfl, ?_, fun i j hi hj => ?_⟩⟩
    · rcases Nat.lt_or_ge g w.heap.size with hlt | hlt
      · exact hlt
      · rw [Array.getElem?_eq_none hlt] at hg; cases hg
    · have := h0.cells (g := g) rfl (i * k + j) (f i j) (hx i j hi hj)
      rw [add_off, ← Nat.add_assoc] at this
      exact this
theorem OwnRl.row {w : World} {base : Nat} {v : Value} {L : List (Ln × Bool)} (h : OwnRl w base v L) : RlR w v L := own_row h fun _ _ hi hj => rlL_at hi hj
theorem rline_el : ElI 139 5 32 := el_of (z := .agg #[.int .i64 0, .int .i64 0, .int .i64 0, .bool false, .bool false]) (by kernel_rfl) (by decide)
set_option maxRecDepth 100000 in
set_option maxHeartbeats 2000000 in
theorem Frame_any (F : Fl) (v : Value) (w : World) (hR : RgR w v F.v) (hv : OkV F.v) :
    Calls Tryz.prog 147 #[v] w fun e w' => ∃ s, e = .returned (.tuple #[s, inV ⟨⟨1000, 4000, false⟩, ⟨1000, 1, false⟩, false⟩]) ∧ Below w.heap.size w w' ∧ OwnRl w' w.heap.size s (frameL F) := by
  have hH := (pt_bd hv (Nat.le_refl _)).1
  have hh : hgt F.v = vX F.v F.v.length := rfl
  rw [← hh] at hH
  have g1 := fun w (h : RgR w v F.v) => Height_any F.v v w h hv
  have g2 := fun w (h : RgR w v F.v) => Time_any F.v v (hgt F.v) w h hv hH.1 (Int.le_refl _)
  have hfr : frameL F = [(⟨0, 0, 1, false⟩, false), (⟨0, tmN F.v (hgt F.v), tmD F.v (hgt F.v), false⟩, true)] := rfl
  rw [hfr]
  obtain ⟨H, hH'⟩ : ∃ H, hgt F.v = H := ⟨_, rfl⟩
  rw [hH'] at g1 g2 ⊢
  obtain ⟨tn, htn⟩ : ∃ n, tmN F.v H = n := ⟨_, rfl⟩
  obtain ⟨td, htd⟩ : ∃ n, tmD F.v H = n := ⟨_, rfl⟩
  rw [htn, htd] at g2 ⊢
  obtain ⟨o, c, rfl, m⟩ := hR.parts
  have hR0 := (hR.alloc (Obj.cells #[.int .i64 0, .int .i64 0, .int .i64 0, .int .i64 0, .bool false, .bool false, .bool false] 129)).alloc (Obj.cells #[.int .i64 0, .int .i64 1] 41)
  have hI := (Bk.new w 129 [.int .i64 0, .int .i64 0, .int .i64 0, .int .i64 0, .bool false, .bool false, .bool false]).alloc (Obj.cells #[.int .i64 0, .int .i64 1] 41)
  have k1 : ∀ i : More ((w.alloc (Obj.cells #[.int .i64 0, .int .i64 0, .int .i64 0, .int .i64 0, .bool false, .bool false, .bool false] 129)).alloc (Obj.cells #[.int .i64 0, .int .i64 1] 41)), _ := fun i => more_same ((g1 i.x (hR0.below i.h)).mono fun _ _ ⟨a, b⟩ => ⟨a, b.symm⟩)
  have k2 : ∀ i : More ((w.alloc (Obj.cells #[.int .i64 0, .int .i64 0, .int .i64 0, .int .i64 0, .bool false, .bool false, .bool false] 129)).alloc (Obj.cells #[.int .i64 0, .int .i64 1] 41)), _ := fun i => more_call (g2 i.x (hR0.below i.h))
  have mc := @more_cell ((w.alloc (Obj.cells #[.int .i64 0, .int .i64 0, .int .i64 0, .int .i64 0, .bool false, .bool false, .bool false] 129)).alloc (Obj.cells #[.int .i64 0, .int .i64 1] 41))
  have K1 := Lib.hid k1
  have K2 := Lib.hid k2
  have HI := Lib.hid hI
  clear k1 k2 g1 g2 hR hR0 hv hH hh hfr htn htd hH' hI
  go_enter Tryz.func147, Tryz.ntmps147
  go_wp2_with fail
  refine wp_head_more [0, 1, 2, 3, 4, 5, 6] [7, 8] (by kernel_rfl) (by kernel_rfl) ?_
  simp only [hPick, List.getElem?_cons_zero, List.getElem?_cons_succ]
  iterate 8 (try (first | go_big_quiet_step ((with_reducible first | exact K1.out _ | exact K2.out _)) | quiet_step ((with_reducible first | exact K1.out _ | exact K2.out _))))
  iterate 8 (try (first | go_big_quiet_step ((with_reducible first | exact K1.out _ | exact K2.out _)) | quiet_step ((with_reducible first | exact K1.out _ | exact K2.out _))))
  iterate 8 (try (first | go_big_quiet_step ((with_reducible first | exact K1.out _ | exact K2.out _)) | quiet_step ((with_reducible first | exact K1.out _ | exact K2.out _))))
  iterate 8 (try (first | go_big_quiet_step ((with_reducible first | exact K1.out _ | exact K2.out _)) | quiet_step ((with_reducible first | exact K1.out _ | exact K2.out _))))
  iterate 8 (try (first | go_big_quiet_step ((with_reducible first | exact K1.out _ | exact K2.out _)) | quiet_step ((with_reducible first | exact K1.out _ | exact K2.out _))))
  refine wpQuiet_nil ?_
  rintro ⟨wm, hbm⟩
  try dsimp only
  have I1 := Lib.hid (HI.out.below hbm)
  have HW := Lib.hid (bafter (bafter hbm))
  clear hbm HI
  go_wp2_with (refine st_at rfl (T := 129) rfl rfl (cs := [.int .i64 1000, .int .i64 4000, .int .i64 1000, .int .i64 1, .bool false, .bool false, .bool false]) rfl (I1.out.alloc _) (by kernel_rfl) rfl rfl ?_; intro wk hkk hsk)
  have hN := (Bk.new wm 139 [.int .i64 0, .int .i64 0, .int .i64 1, .bool false, .bool false, .int .i64 0, .int .i64 tn, .int .i64 td, .bool true, .bool false]).bes hsk (by have := HW.out.size; have := I1.out.lt; omega)
  refine bodyPost_ret (ret_tmp_cell rfl _ _ rfl hkk Tryz.underlying129 rfl (by kernel_rfl)) rfl ⟨_, rfl, ?_, ?_⟩
  · exact bes_then (HW.out.alloc HW.out.size _) hsk (Nat.le_refl _) (by simp; have := HW.out.size; omega)
  · exact own_bk hN HW.out.size rfl (by unfold maxLen; omega)
set_option maxRecDepth 100000 in
set_option maxHeartbeats 4000000 in
theorem Item_first (F : Fl) (vv vs : Value) (w : World) (hF : FlIn w F vv vs) (hO : OkF F) :
    Calls Tryz.prog 148 #[flV F vv vs, .int .i64 (-1)] w fun e w' => ∃ s, e = .returned s ∧ Below w.heap.size w w' ∧ OwnRl w' w.heap.size s (itemL F (-1)) := by
  have hv := (okv_iff F.v).1 hO.v
  have HT := Lib.hid (show ∀ x : Int, 0 ≤ x → x ≤ hgt F.v → ∀ w, RgR w vv F.v → Calls Tryz.prog 74 #[vv, .int .i64 x] w fun e w' => e = .returned (.agg #[.int .i64 (tmN F.v x), .int .i64 (tmD F.v x)]) ∧ Below w.heap.size w w' from fun x x0 xn w h => Time_any F.v vv x w h hv x0 xn)
  have HE := Lib.hid (show ∀ k : Lk, okLk (hgt F.v) k = true → ∀ w, RgR w vv F.v → Calls Tryz.prog 84 #[vv, .agg #[.int .i64 k.lv, .int .i64 k.er]] w fun e w' => e = .returned (.tuple #[.int .i64 (endA k), .int .i64 (endB (hgt F.v) k)]) ∧ Below w.heap.size w w' from fun k hk w h => Ends_any F.v vv k w h hv hk)
  obtain ⟨⟨n1, n2⟩, n3, n4⟩ := end_in hO.f
  have hfr : itemL F (-1) = [(⟨0, tmN F.v (endA F.f), tmD F.v (endA F.f), false⟩, false), (⟨0, tmN F.v (endB (hgt F.v) F.f), tmD F.v (endB (hgt F.v) F.f), false⟩, true)] := rfl
  rw [hfr]
  have hf1 : F.f.lv ≤ hgt F.v := by have := hO.f; simp only [okLk, Bool.and_eq_true, decide_eq_true_eq] at this; omega
  have hf0 : 0 ≤ F.f.lv := by have := hO.f; simp only [okLk, Bool.and_eq_true, decide_eq_true_eq] at this; omega
  have g0 := HE.out F.f hO.f
  have g1 := HT.out (endA F.f) n1 (by omega)
  have g2 := HT.out (endB (hgt F.v) F.f) (by omega) n4
  obtain ⟨a, ha⟩ : ∃ a, endA F.f = a := ⟨_, rfl⟩
  obtain ⟨b, hb⟩ : ∃ a, endB (hgt F.v) F.f = a := ⟨_, rfl⟩
  rw [ha, hb] at g0
  rw [ha] at g1 ⊢
  rw [hb] at g2 ⊢
  obtain ⟨an, han⟩ : ∃ n, tmN F.v a = n := ⟨_, rfl⟩
  obtain ⟨ad, had⟩ : ∃ n, tmD F.v a = n := ⟨_, rfl⟩
  obtain ⟨bn, hbn⟩ : ∃ n, tmN F.v b = n := ⟨_, rfl⟩
  obtain ⟨bd, hbd⟩ : ∃ n, tmD F.v b = n := ⟨_, rfl⟩
  rw [han, had] at g1 ⊢
  rw [hbn, hbd] at g2 ⊢
  have HF0 := Lib.hid (hF.alloc (flO F vv vs))
  have HB := Lib.hid (Bk.new w 30 [vv, .int .i64 F.f.lv, .int .i64 F.f.er, .int .i64 F.wlo, .int .i64 F.whi, vs])
  obtain ⟨os, cs, rfl, ms⟩ := hF.s.parts
  obtain ⟨ov, cv, rfl, mv⟩ := hF.v.parts
  obtain ⟨ls, hls⟩ : ∃ n, F.s.length = n := ⟨_, rfl⟩
  obtain ⟨lv, hlv⟩ : ∃ n, F.v.length = n := ⟨_, rfl⟩
  rw [hls] at ms HF0 HB ⊢
  rw [hlv] at mv HF0 HB g0 g1 g2 ⊢
  have G0 := Lib.hid g0
  have G1 := Lib.hid g1
  have G2 := Lib.hid g2
  clear g0 g1 g2 HT HE hF hO hv n1 n2 n3 n4 hfr hf1 hf0 ha hb han had hbn hbd hls hlv
  go_enter Tryz.func148, Tryz.ntmps148
  go_wp2_with fail
  refine (G0.out _ HF0.out.v).mono ?_
  rintro e w1 ⟨rfl, hb1⟩
  have HF1 := Lib.hid (HF0.out.below hb1)
  have hB1 := HB.out.below hb1
  have c0 := hB1.cell 0
  have cl := hB1.lt
  simp only [List.getElem?_cons_zero] at c0
  have HW := Lib.hid (bafter hb1)
  have mc := @more_cell w1
  have k1 : ∀ i : More w1, _ := fun i => more_call (G1.out i.x (HF1.out.v.below i.h))
  have k2 : ∀ i : More w1, _ := fun i => more_call (G2.out i.x (HF1.out.v.below i.h))
  have K1 := Lib.hid k1
  have K2 := Lib.hid k2
  clear k1 k2 hB1 hb1
  go_wp2_with fail
  refine wp_head_more [0, 1, 2, 3, 4, 5, 6, 7, 8, 9] [10, 11] (by kernel_rfl) (by kernel_rfl) ?_
  simp only [hPick, List.getElem?_cons_zero, List.getElem?_cons_succ]
  iterate 8 (try (first | go_big_quiet_step ((with_reducible first | exact K1.out _ | exact K2.out _)) | quiet_step ((with_reducible first | exact K1.out _ | exact K2.out _))))
  iterate 8 (try (first | go_big_quiet_step ((with_reducible first | exact K1.out _ | exact K2.out _)) | quiet_step ((with_reducible first | exact K1.out _ | exact K2.out _))))
  iterate 8 (try (first | go_big_quiet_step ((with_reducible first | exact K1.out _ | exact K2.out _)) | quiet_step ((with_reducible first | exact K1.out _ | exact K2.out _))))
  iterate 8 (try (first | go_big_quiet_step ((with_reducible first | exact K1.out _ | exact K2.out _)) | quiet_step ((with_reducible first | exact K1.out _ | exact K2.out _))))
  iterate 8 (try (first | go_big_quiet_step ((with_reducible first | exact K1.out _ | exact K2.out _)) | quiet_step ((with_reducible first | exact K1.out _ | exact K2.out _))))
  refine wpQuiet_nil ?_
  rintro ⟨wm, hbm⟩
  try dsimp only
  have HM := Lib.hid (HW.out.trans (hbm.mono HW.out.size))
  clear hbm
  go_wp2_with fail
  go_ret
  have hN := Bk.new wm 139 [.int .i64 0, .int .i64 an, .int .i64 ad, .bool false, .bool false, .int .i64 0, .int .i64 bn, .int .i64 bd, .bool true, .bool false]
  exact ⟨_, rfl, HM.out.alloc HM.out.size _, own_bk hN HM.out.size rfl (by unfold maxLen; omega)⟩
def rdLn (F : Fl) (x : Sn) : List (Ln × Bool) := (lnT F.v x.hi (endB (hgt F.v) x.k) false, true) :: (if 0 < endA x.k then [(lnT F.v x.lo (endA x.k) false, false)] else [])
theorem itemL_seen (F : Fl) (k : Nat) : itemL F (k : Int) = rdLn F (snA F.s k) := by
  unfold itemL rdLn
  rw [if_neg (by omega)]
  rfl
set_option maxRecDepth 100000 in
set_option maxHeartbeats 4000000 in
theorem Item_seen (F : Fl) (vv vs : Value) (k : Nat) (w : World) (hF : FlIn w F vv vs) (hO : OkF F) (hk : k < F.s.length) :
    Calls Tryz.prog 148 #[flV F vv vs, .int .i64 (k : Int)] w fun e w' => ∃ s, e = .returned s ∧ Below w.heap.size w w' ∧ OwnRl w' w.heap.size s (itemL F (k : Int)) := by
  have hv := (okv_iff F.v).1 hO.v
  have HT := Lib.hid (show ∀ x : Int, 0 ≤ x → x ≤ hgt F.v → ∀ w, RgR w vv F.v → Calls Tryz.prog 74 #[vv, .int .i64 x] w fun e w' => e = .returned (.agg #[.int .i64 (tmN F.v x), .int .i64 (tmD F.v x)]) ∧ Below w.heap.size w w' from fun x x0 xn w h => Time_any F.v vv x w h hv x0 xn)
  have HE := Lib.hid (show ∀ k : Lk, okLk (hgt F.v) k = true → ∀ w, RgR w vv F.v → Calls Tryz.prog 84 #[vv, .agg #[.int .i64 k.lv, .int .i64 k.er]] w fun e w' => e = .returned (.tuple #[.int .i64 (endA k), .int .i64 (endB (hgt F.v) k)]) ∧ Below w.heap.size w w' from fun k hk w h => Ends_any F.v vv k w h hv hk)
  rw [itemL_seen]
  have hsn : okSn (hgt F.v) (snA F.s k) = true := by
    refine hO.s _ ?_
    simp [snA, List.getElem?_eq_getElem hk]
  obtain ⟨bs, off, hos, hbs, hcc⟩ := (show ∃ b off, (∃ c, vs = .slice (some ⟨b, off, none⟩) F.s.length c) ∧ b < w.heap.size ∧ ∀ i j, i < F.s.length → j < 4 → w.cell? ⟨b, off + i * 4 + j, none⟩ = some (snF F.s i j) from by
    obtain ⟨o, c, rfl, _⟩ := hF.s.parts
    obtain ⟨b, off, rfl, hb, hc⟩ := hF.s.cells (by omega)
    exact ⟨b, off, ⟨c, rfl⟩, hb, hc⟩)
  obtain ⟨cs, rfl⟩ := hos
  have d0 := hcc k 0 hk (by omega)
  have d1 := hcc k 1 hk (by omega)
  have d2 := hcc k 2 hk (by omega)
  have d3 := hcc k 3 hk (by omega)
  simp only [snF, Nat.add_zero] at d0 d1 d2 d3
  have ms := hF.s.parts
  obtain ⟨_, _, hms, ms⟩ := ms
  clear hms hcc
  obtain ⟨x, hx⟩ : ∃ x, snA F.s k = x := ⟨_, rfl⟩
  rw [hx] at d0 d1 d2 d3 hsn ⊢
  clear hx
  obtain ⟨xl, xh, xk⟩ := x
  simp only at d0 d1 d2 d3
  have hlk : okLk (hgt F.v) xk = true := by simp only [okSn, Bool.and_eq_true] at hsn; exact hsn.2
  obtain ⟨⟨n1, n2⟩, n3, n4⟩ := end_in hlk
  have hf1 : xk.lv ≤ hgt F.v ∧ 0 ≤ xk.lv := by simp only [okLk, Bool.and_eq_true, decide_eq_true_eq] at hlk; omega
  have g0 := HE.out xk hlk
  have g1 := HT.out (endA xk) n1 (by omega)
  have g2 := HT.out (endB (hgt F.v) xk) (by omega) n4
  unfold rdLn
  simp only [lnT]
  obtain ⟨a, ha⟩ : ∃ a, endA xk = a := ⟨_, rfl⟩
  obtain ⟨b, hb⟩ : ∃ a, endB (hgt F.v) xk = a := ⟨_, rfl⟩
  rw [ha, hb] at g0
  rw [ha] at g1 ⊢
  rw [hb] at g2 ⊢
  obtain ⟨an, han⟩ : ∃ n, tmN F.v a = n := ⟨_, rfl⟩
  obtain ⟨ad, had⟩ : ∃ n, tmD F.v a = n := ⟨_, rfl⟩
  obtain ⟨bn, hbn⟩ : ∃ n, tmN F.v b = n := ⟨_, rfl⟩
  obtain ⟨bd, hbd⟩ : ∃ n, tmD F.v b = n := ⟨_, rfl⟩
  rw [han, had] at g1 ⊢
  rw [hbn, hbd] at g2 ⊢
  obtain ⟨T, hT⟩ : ∃ T, (if 0 < a then [((⟨xl, an, ad, false⟩ : Ln), false)] else []) = T := ⟨_, rfl⟩
  rw [hT]
  have HTT := Lib.hid hT
  clear hT
  have HF0 := Lib.hid (hF.alloc (flO F vv (.slice (some ⟨bs, off, none⟩) F.s.length cs)))
  have HB := Lib.hid (Bk.new w 30 [vv, .int .i64 F.f.lv, .int .i64 F.f.er, .int .i64 F.wlo, .int .i64 F.whi, .slice (some ⟨bs, off, none⟩) F.s.length cs])
  obtain ⟨ov, cv, rfl, mv⟩ := hF.v.parts
  obtain ⟨ls, hls⟩ : ∃ n, F.s.length = n := ⟨_, rfl⟩
  obtain ⟨lv, hlv⟩ : ∃ n, F.v.length = n := ⟨_, rfl⟩
  rw [hls] at ms HF0 HB hk ⊢
  rw [hlv] at mv HF0 HB g0 g1 g2 ⊢
  have HX := Lib.hid (Bk.new1 w (flO F (.slice ov lv cv) (.slice (some ⟨bs, off, none⟩) ls cs)) 88 [.int .i64 xl, .int .i64 xh, .int .i64 xk.lv, .int .i64 xk.er])
  have G0 := Lib.hid g0
  have G1 := Lib.hid g1
  have G2 := Lib.hid g2
  clear g0 g1 g2 HT HE hF hO hv n1 n2 n3 n4 hf1 hb han had hbn hbd hls hlv hlk hsn ha
  go_enter Tryz.func148, Tryz.ntmps148
  go_wp2_with fail
  refine (G0.out _ (HF0.out.v.alloc _)).mono ?_
  rintro e w1 ⟨rfl, hb1⟩
  have HF1 := Lib.hid ((HF0.out.alloc (Obj.cells #[.int .i64 xl, .int .i64 xh, .int .i64 xk.lv, .int .i64 xk.er] 88)).below hb1)
  have hB1 := (HB.out.alloc (Obj.cells #[.int .i64 xl, .int .i64 xh, .int .i64 xk.lv, .int .i64 xk.er] 88)).below hb1
  have HB1 := Lib.hid hB1
  have hX1 := HX.out.below hb1
  have HX1 := Lib.hid hX1
  have c0 := hB1.cell 0
  have cl := hB1.lt
  have x0 := hX1.cell 0
  have x1 := hX1.cell 1
  have xlt := hX1.lt
  simp only [List.getElem?_cons_zero, List.getElem?_cons_succ] at c0 x0 x1
  have HW := Lib.hid (bafter (bafter hb1))
  have mc := @more_cell w1
  have k2 : ∀ i : More w1, _ := fun i => more_call (G2.out i.x (HF1.out.v.below i.h))
  have K2 := Lib.hid k2
  clear k2 hB1 hb1 d0 d1 d2 d3 hX1
  go_wp2_with fail
  refine wp_head_more [0, 1, 2, 3, 4, 5, 6, 7] [8, 9] (by kernel_rfl) (by kernel_rfl) ?_
  simp only [hPick, List.getElem?_cons_zero, List.getElem?_cons_succ]
  iterate 8 (try (first | go_big_quiet_step ((with_reducible first | exact K2.out _)) | quiet_step ((with_reducible first | exact K2.out _))))
  iterate 8 (try (first | go_big_quiet_step ((with_reducible first | exact K2.out _)) | quiet_step ((with_reducible first | exact K2.out _))))
  iterate 8 (try (first | go_big_quiet_step ((with_reducible first | exact K2.out _)) | quiet_step ((with_reducible first | exact K2.out _))))
  iterate 8 (try (first | go_big_quiet_step ((with_reducible first | exact K2.out _)) | quiet_step ((with_reducible first | exact K2.out _))))
  iterate 8 (try (first | go_big_quiet_step ((with_reducible first | exact K2.out _)) | quiet_step ((with_reducible first | exact K2.out _))))
  refine wpQuiet_nil ?_
  rintro ⟨wm, hbm⟩
  try dsimp only
  have HM := Lib.hid (HW.out.trans (hbm.mono HW.out.size))
  have HFM := Lib.hid (HF1.out.below hbm)
  have hBM := HB1.out.below hbm
  have hXM := HX1.out.below hbm
  have HBM := Lib.hid hBM
  have HXM := Lib.hid hXM
  have c0 := hBM.cell 0
  have cl := hBM.lt
  have x0 := hXM.cell 0
  have x1 := hXM.cell 1
  have xlt := hXM.lt
  simp only [List.getElem?_cons_zero, List.getElem?_cons_succ] at c0 x0 x1
  have hN := Lib.hid (Bk.new wm 139 [.int .i64 xh, .int .i64 bn, .int .i64 bd, .bool true, .bool false])
  clear hbm mc HF1 HB1 HX1 HW hBM hXM
  by_cases ha0 : 0 < a
  · have eT := HTT.out
    rw [if_pos ha0] at eT
    have ET := Lib.hid eT
    clear eT HTT
    have hsz := HM.out.size
    have hO0 := own_bk (base := w.heap.size) (n := 1) (k := 5) hN.out hsz rfl (by unfold maxLen; omega)
    have HO0 := Lib.hid hO0
    clear hO0
    obtain ⟨V, hV⟩ : ∃ V, wm.alloc (Obj.cells #[.int .i64 xh, .int .i64 bn, .int .i64 bd, .bool true, .bool false] 139) = V := ⟨_, rfl⟩
    have hMV : Below wm.heap.size wm V := by rw [← hV]; exact ballo _ _
    have HFV := Lib.hid (HFM.out.below hMV)
    have hBV := HBM.out.below hMV
    have hXV := HXM.out.below hMV
    have HWV := Lib.hid (HM.out.trans (hMV.mono hsz))
    have hOV : V.ownsRow w.heap.size 139 5 (.slice (some ⟨wm.heap.size, 0, none⟩) 1 1) 1 [.int .i64 xh, .int .i64 bn, .int .i64 bd, .bool true, .bool false] := by rw [← hV]; exact HO0.out
    have HOV := Lib.hid hOV
    have c0 := hBV.cell 0
    have cl := hBV.lt
    have x0 := hXV.cell 0
    have x1 := hXV.cell 1
    have xlt := hXV.lt
    simp only [List.getElem?_cons_zero, List.getElem?_cons_succ] at c0 x0 x1
    clear hBV hXV hMV HO0 hOV hN HBM HXM HFM HM
    go_wp2_with fail
    clear hV
    refine WpK.begin (S := fun _ => True) (kp := fun _ => true) (f := 12) (up := #[false, false, false, false, false, false, false, false, false, false, false, false]) (by kernel_rfl) (by kernel_rfl) (by kernel_rfl) ?_
    refine WpK.take (i := 0) (v := ?_) ((toArray_at _ _).trans rfl) (by kernel_rfl) (by kernel_rfl) (by kernel_rfl) (by kernel_rfl) (by kernel_rfl) (fun _ _ _ h => h) (Or.inl ⟨by rfl, ?_⟩) trivial ?_
    rotate_left
    · (intro x hx; go_simp <;> with_reducible rfl)
    simp only [Act.put, puts]
    refine WpK.take (i := 1) (v := ?_) ((toArray_at _ _).trans rfl) (by kernel_rfl) (by kernel_rfl) (by kernel_rfl) (by kernel_rfl) (by kernel_rfl) (fun _ _ _ h => h) (Or.inl ⟨by rfl, ?_⟩) trivial ?_
    rotate_left
    · (intro x hx; go_simp <;> with_reducible rfl)
    simp only [Act.put, puts]
    refine WpK.take (i := 2) (v := ?_) ((toArray_at _ _).trans rfl) (by kernel_rfl) (by kernel_rfl) (by kernel_rfl) (by kernel_rfl) (by kernel_rfl) (fun _ _ _ h => h) (Or.inl ⟨by rfl, ?_⟩) trivial ?_
    rotate_left
    · (intro x hx; go_simp <;> with_reducible rfl)
    simp only [Act.put, puts]
    refine WpK.take (i := 4) (v := ?_) ((toArray_at _ _).trans rfl) (by kernel_rfl) (by kernel_rfl) (by kernel_rfl) (by kernel_rfl) (by kernel_rfl) (fun _ _ _ h => h) (Or.inl ⟨by rfl, ?_⟩) trivial ?_
    rotate_left
    · (intro x hx; go_simp <;> with_reducible rfl)
    simp only [Act.put, puts]
    refine WpK.take (i := 6) (v := ?_) ((toArray_at _ _).trans rfl) (by kernel_rfl) (by kernel_rfl) (by kernel_rfl) (by kernel_rfl) (by kernel_rfl) (fun _ _ _ h => h) (Or.inl ⟨by rfl, ?_⟩) trivial ?_
    rotate_left
    · (intro x hx; go_simp <;> with_reducible rfl)
    simp only [Act.put, puts]
    refine WpK.weaken (S := fun x => Below V.heap.size V x) (kp := (fun i => decide (i < 9))) (fun _ => trivial) _ ?_
    have hS0 := (show Below V.heap.size V V.drew from (Below.refl _ _).drew)
    refine WpK.take (i := 3) (v := ?_) ((toArray_at _ _).trans rfl) (by kernel_rfl) (by kernel_rfl) (by kernel_rfl) (by kernel_rfl) (by kernel_rfl) (fun _ _ _ h => h) (Or.inl ⟨by rfl, ?_⟩) hS0 ?_
    rotate_left
    · (intro x hx; obtain ⟨hcx, hfx⟩ := bcell hx; go_simp <;> with_reducible rfl)
    try simp only [Act.put, puts]
    refine WpK.take (i := 5) (v := ?_) ((toArray_at _ _).trans rfl) (by kernel_rfl) (by kernel_rfl) (by kernel_rfl) (by kernel_rfl) (by kernel_rfl) (fun _ _ _ h => h) (Or.inl ⟨by rfl, ?_⟩) hS0 ?_
    rotate_left
    · (intro x hx; obtain ⟨hcx, hfx⟩ := bcell hx; go_simp <;> with_reducible rfl)
    try simp only [Act.put, puts]
    clear hS0
    refine WpK.one (i := 7) (by kernel_rfl) ((toArray_at _ _).trans rfl) ?_
    intro K hK
    have HK := Lib.hid hK
    clear hK
    go_simp
    refine (G1.out _ (HFV.out.v.below (Below.drew (Below.refl _ _)))).mono ?_
    rintro e W2 ⟨rfl, hbq⟩
    have hW2 : Below V.heap.size V W2 := Below.trans (Below.drew (Below.refl _ _)) hbq
    clear hbq
    refine HK.out _ _ (fun _ => hW2) (fun _ => ?_)
    clear HK K
    try simp only [puts]
    refine WpK.one (i := 8) (by kernel_rfl) ((toArray_at _ _).trans rfl) ?_
    intro K hK
    have HK := Lib.hid hK
    clear hK
    go_simp
    refine HK.out _ _ (fun _ => hW2) (fun _ => ?_)
    clear HK K
    try simp only [puts]
    refine WpK.one (i := 9) (by kernel_rfl) ((toArray_at _ _).trans rfl) ?_
    intro K hK
    have HK := Lib.hid hK
    clear hK
    go_simp
    refine HK.out _ _ (fun h => absurd h (by decide)) (fun _ => ?_)
    clear HK K
    try simp only [puts]
    have HWZ := Lib.hid (HWV.out.trans (hW2.mono HWV.out.size))
    have HOZ := Lib.hid (owns_below HOV.out hW2)
    have hsz := HWZ.out.size
    refine WpK.one (i := 10) (by kernel_rfl) ((toArray_at _ _).trans rfl) ?_
    intro K hK
    have HK := Lib.hid hK
    clear hK
    refine step_own Tryz.underlying127 rline_el (by decide) (by decide) rfl (.tmp 56) (.tmp 65) rfl w.heap.size _ 1 [.int .i64 xh, .int .i64 bn, .int .i64 bd, .bool true, .bool false] rfl (owns_below HOZ.out (ballo _ _)) ⟨W2.heap.size, 0, none⟩ _ [.int .i64 xl, .int .i64 an, .int .i64 ad, .bool false, .bool false] rfl rfl (news_bk (Bk.new _ _ [_, _, _, _, _])) ?_ ?_ ?_ ?_
    · intro u hu; simp at hu; rcases hu with rfl | rfl | rfl | rfl | rfl <;> rfl
    · omega
    · simp; omega
    intro g1 c1 q3 hO1 hP1 hG1 _
    refine HK.out _ _ (fun h => absurd h (by decide)) (fun _ => ?_)
    clear HK K
    try simp only [puts]
    refine WpK.one (i := 11) (by kernel_rfl) ((toArray_at _ _).trans rfl) ?_
    intro K hK
    have HK := Lib.hid hK
    clear hK
    go_simp
    refine HK.out _ _ (fun h => absurd h (by decide)) (fun _ => ?_)
    clear HK K
    try simp only [puts]
    refine WpK.done (by kernel_rfl) ?_
    clear hW2
    go_wp2_with fail
    go_ret
    refine ⟨_, rfl, (HWZ.out.alloc hsz _).trans (hP1.mono (Nat.le_refl _)), ?_⟩
    rw [← ET.out]
    exact hO1
  · have eT := HTT.out
    rw [if_neg ha0] at eT
    have ET := Lib.hid eT
    clear eT HTT
    go_wp2_with fail
    go_ret
    refine ⟨_, rfl, HM.out.alloc HM.out.size _, ?_⟩
    rw [← ET.out]
    exact own_bk hN.out HM.out.size rfl (by unfold maxLen; omega)
end Go.Proofs.YtnfndiafabhhdaaGreat
