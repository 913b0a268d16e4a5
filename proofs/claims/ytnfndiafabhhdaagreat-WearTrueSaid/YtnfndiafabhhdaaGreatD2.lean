/- Walk of wears, Bounds, Wear (Wear). -/
import Derived.Test.YtnfndiafabhhdaaGreatC7
import Derived.Test.YtnfndiafabhhdaaGreatB7
namespace Go.Proofs.YtnfndiafabhhdaaGreat
open Go.ChangeShapes Go.WideShapes Go.ChangeAt Go.RowKit
theorem knR_B {F : Fl} (h : OkF F) : RnB (knR F) := by
  have hL := lines_B h (allL_ok F)
  have := allW_bd hL.2 hL.1 (rnW_b h (allL F))
  exact ⟨this.a0, this.a1, this.b0, this.b1, this.c0, this.c1, this.d0, this.d1⟩
abbrev weV (b : Bd) : Value := .agg #[.int .i64 (lowN1 (1000 * b.d) b.n), .int .i64 (lowN2 (1000 * b.d) b.n)]
theorem ret_cells2 {P : Program} {fn : Func} {p q : Tmp} {t1 t2 : TypeId} (h : fn.results = #[.cell p t1, .cell q t2]) (tmps : Array Value) (w : World) {g g' : Nat} {t t' : TypeId} {cs cs' : List Value} {d d' : TypeDesc}
    (hp : tmps.getD p undef = .pointer (some ⟨g, 0, none⟩)) (hq : tmps.getD q undef = .pointer (some ⟨g', 0, none⟩)) (hg : Bk w g t cs) (hg' : Bk w g' t' cs')
    (hu : P.underlying t1 = some d) (hu' : P.underlying t2 = some d') (hd : (match d with | .struct _ | .array _ _ => true | _ => false) = true) (hd' : (match d' with | .struct _ | .array _ _ => true | _ => false) = true)
    (hi : (P.info? t1).map (·.size) = some cs.length) (hi' : (P.info? t2).map (·.size) = some cs'.length) :
    (results fn tmps).run P w = .ok (.tuple #[.agg cs.toArray, .agg cs'.toArray]) w := by
  have h1 := run_loadVar_row w g t t1 cs.toArray (0, 0) d hg hu hd (by simpa using hi)
  have h2 := run_loadVar_row w g' t' t2 cs'.toArray (0, 0) d' hg' hu' hd' (by simpa using hi')
  simp only [results, h]
  have hp' : tmps[p]?.getD undef = .pointer (some ⟨g, 0, none⟩) := by simpa using hp
  have hq' : tmps[q]?.getD undef = .pointer (some ⟨g', 0, none⟩) := by simpa using hq
  simp [Sem.run_bind, Result.andThen, hp', hq', asAddr, h1, h2]
theorem ret_cells2_tmp {P : Program} {fn : Func} {p q u : Tmp} {t1 t2 : TypeId} (h : fn.results = #[.cell p t1, .cell q t2, .tmp u]) (tmps : Array Value) (w : World) {g g' : Nat} {t t' : TypeId} {cs cs' : List Value} {d d' : TypeDesc}
    (hp : tmps.getD p undef = .pointer (some ⟨g, 0, none⟩)) (hq : tmps.getD q undef = .pointer (some ⟨g', 0, none⟩)) (hg : Bk w g t cs) (hg' : Bk w g' t' cs')
    (hu : P.underlying t1 = some d) (hu' : P.underlying t2 = some d') (hd : (match d with | .struct _ | .array _ _ => true | _ => false) = true) (hd' : (match d' with | .struct _ | .array _ _ => true | _ => false) = true)
    (hi : (P.info? t1).map (·.size) = some cs.length) (hi' : (P.info? t2).map (·.size) = some cs'.length) :
    (results fn tmps).run P w = .ok (.tuple #[.agg cs.toArray, .agg cs'.toArray, tmps.getD u undef]) w := by
  have h1 := run_loadVar_row w g t t1 cs.toArray (0, 0) d hg hu hd (by simpa using hi)
  have h2 := run_loadVar_row w g' t' t2 cs'.toArray (0, 0) d' hg' hu' hd' (by simpa using hi')
  simp only [results, h]
  have hp' : tmps[p]?.getD undef = .pointer (some ⟨g, 0, none⟩) := by simpa using hp
  have hq' : tmps[q]?.getD undef = .pointer (some ⟨g', 0, none⟩) := by simpa using hq
  simp [Sem.run_bind, Result.andThen, hp', hq', asAddr, h1, h2]
abbrev knO (r : Rn) (va vb : Value) : Obj := Obj.cells #[.int .i64 r.lo.n, .int .i64 r.lo.d, .bool r.lo.s, .int .i64 r.hi.n, .int .i64 r.hi.d, .bool r.hi.s, va, vb, .bool r.e] 100
abbrev raO : Obj := Obj.cells #[.int .i64 0, .int .i64 0] 41
set_option maxRecDepth 100000 in
set_option maxHeartbeats 2000000 in
theorem wears_any (r : Rn) (oa ob : Option Addr) (na nb ca cb : Nat) (w : World) (hr : RnB r) :
    Calls Tryz.prog 101 #[rnV r (.slice oa na ca) (.slice ob nb cb)] w fun e w' => e = .returned (.tuple #[weV r.hi, weV r.lo]) ∧ Below w.heap.size w w' := by
  obtain ⟨⟨a, b, s1⟩, ⟨c, d, s2⟩, em⟩ := r
  have a0 := hr.a0
  have a1 := hr.a1
  have b0 := hr.b0
  have b1 := hr.b1
  have c0 := hr.c0
  have c1 := hr.c1
  have d0 := hr.d0
  have d1 := hr.d1
  simp only at a0 a1 b0 b1 c0 c1 d0 d1
  clear hr
  obtain ⟨D, hD⟩ : ∃ x, 1000 * d = x := ⟨_, rfl⟩
  obtain ⟨B, hB⟩ : ∃ x, 1000 * b = x := ⟨_, rfl⟩
  have k1 : ∀ i : More (((w.alloc (Obj.cells #[.int .i64 a, .int .i64 b, .bool s1, .int .i64 c, .int .i64 d, .bool s2, .slice oa na ca, .slice ob nb cb, .bool em] 100)).alloc raO).alloc raO), _ := fun i => more_call (wlowest_any D c i.x (by omega) (by omega) (by omega) (by omega))
  have k2 : ∀ i : More (((w.alloc (Obj.cells #[.int .i64 a, .int .i64 b, .bool s1, .int .i64 c, .int .i64 d, .bool s2, .slice oa na ca, .slice ob nb cb, .bool em] 100)).alloc raO).alloc raO), _ := fun i => more_call (wlowest_any B a i.x (by omega) (by omega) (by omega) (by omega))
  have mc := @more_cell (((w.alloc (Obj.cells #[.int .i64 a, .int .i64 b, .bool s1, .int .i64 c, .int .i64 d, .bool s2, .slice oa na ca, .slice ob nb cb, .bool em] 100)).alloc raO).alloc raO)
  have r1 := (Bk.new1 w (Obj.cells #[.int .i64 a, .int .i64 b, .bool s1, .int .i64 c, .int .i64 d, .bool s2, .slice oa na ca, .slice ob nb cb, .bool em] 100) 41 [.int .i64 0, .int .i64 0]).alloc raO
  have r2 := Bk.new1 (w.alloc (Obj.cells #[.int .i64 a, .int .i64 b, .bool s1, .int .i64 c, .int .i64 d, .bool s2, .slice oa na ca, .slice ob nb cb, .bool em] 100)) raO 41 [.int .i64 0, .int .i64 0]
  simp only [World.size_alloc] at r2
  show Calls Tryz.prog 101 #[.agg #[.int .i64 a, .int .i64 b, .bool s1, .int .i64 c, .int .i64 d, .bool s2, .slice oa na ca, .slice ob nb cb, .bool em]] w fun e w' => e = .returned (.tuple #[.agg #[.int .i64 (lowN1 (1000 * d) c), .int .i64 (lowN2 (1000 * d) c)], .agg #[.int .i64 (lowN1 (1000 * b) a), .int .i64 (lowN2 (1000 * b) a)]]) ∧ Below w.heap.size w w'
  simp only [hD, hB]
  obtain ⟨x1, e1⟩ : ∃ r, lowN1 D c = r := ⟨_, rfl⟩
  obtain ⟨x2, e2⟩ : ∃ r, lowN2 D c = r := ⟨_, rfl⟩
  obtain ⟨x3, e3⟩ : ∃ r, lowN1 B a = r := ⟨_, rfl⟩
  obtain ⟨x4, e4⟩ : ∃ r, lowN2 B a = r := ⟨_, rfl⟩
  simp only [e1, e2, e3, e4] at k1 k2 ⊢
  have hw1 : IntKind.i64.wrap (1000 * d) = D := by rw [hD]; exact IntWalk.i64_in _ (by omega)
  have hw2 : IntKind.i64.wrap (1000 * b) = B := by rw [hB]; exact IntWalk.i64_in _ (by omega)
  have K1 := Lib.hid k1; clear k1
  have K2 := Lib.hid k2; clear k2
  have R1 := Lib.hid r1; clear r1
  have R2 := Lib.hid r2; clear r2
  clear hD hB e1 e2 e3 e4
  go_enter Tryz.func101, Tryz.ntmps101
  go_wp2_with fail
  refine wp_head_more [0, 1, 2, 3, 4, 5, 6, 7, 8, 9, 10, 11, 12, 13, 14, 15, 16, 17, 18, 19] [20, 21] (by kernel_rfl) (by kernel_rfl) ?_
  simp only [hPick, List.getElem?_cons_zero, List.getElem?_cons_succ]
  iterate 8 (try (first | go_big_quiet_step ((with_reducible first | exact K1.out _ | exact K2.out _)) | quiet_step ((with_reducible first | exact K1.out _ | exact K2.out _))))
  iterate 8 (try (first | go_big_quiet_step ((with_reducible first | exact K1.out _ | exact K2.out _)) | quiet_step ((with_reducible first | exact K1.out _ | exact K2.out _))))
  iterate 8 (try (first | go_big_quiet_step ((with_reducible first | exact K1.out _ | exact K2.out _)) | quiet_step ((with_reducible first | exact K1.out _ | exact K2.out _))))
  iterate 8 (try (first | go_big_quiet_step ((with_reducible first | exact K1.out _ | exact K2.out _)) | quiet_step ((with_reducible first | exact K1.out _ | exact K2.out _))))
  iterate 8 (try (first | go_big_quiet_step ((with_reducible first | exact K1.out _ | exact K2.out _)) | quiet_step ((with_reducible first | exact K1.out _ | exact K2.out _))))
  refine wpQuiet_nil ?_
  rintro ⟨wm, hbm⟩
  try dsimp only
  have p1 := R1.out.below hbm
  have p2 := R2.out.below hbm
  have p1c := p1.cell 0
  have p1d := p1.cell 1
  have p2c := p2.cell 0
  have p2d := p2.cell 1
  have p1f := p1.frozen 0
  have p1g := p1.frozen 1
  have p2f := p2.frozen 0
  have p2g := p2.frozen 1
  simp only [List.getElem?_cons_zero, List.getElem?_cons_succ] at p1c p1d p2c p2d
  have P1 := Lib.hid p1
  have P2 := Lib.hid p2
  clear p1 p2
  go_wp2_with fail
  have q1 := (((P1.out.set 0 (.int .i64 x1)).set 1 (.int .i64 x2)).far (p := ⟨w.heap.size + 2, 0, none⟩) (by simp) (.int .i64 x3)).far (p := ⟨w.heap.size + 2, 1, none⟩) (by simp) (.int .i64 x4)
  have q2 := (((P2.out.far (p := ⟨w.heap.size + 1, 0, none⟩) (by simp) (.int .i64 x1)).far (p := ⟨w.heap.size + 1, 1, none⟩) (by simp) (.int .i64 x2)).set 0 (.int .i64 x3)).set 1 (.int .i64 x4)
  refine bodyPost_ret (ret_cells2 rfl _ _ rfl rfl q1 q2 Tryz.underlying41 Tryz.underlying41 rfl rfl (by kernel_rfl) (by kernel_rfl)) rfl ⟨rfl, ?_⟩
  exact belw
theorem rdE_ok {F : Fl} {R : Bool} (h : rdE F R = 0) : OkF F := by
  rw [← okFl_iff]
  cases ho : okFl F with
  | true => rfl
  | false => unfold rdE at h; rw [ho] at h; have h : (30 : Int) = 0 := h; omega
theorem rdE_bd (F : Fl) (R : Bool) : 0 ≤ rdE F R ∧ rdE F R ≤ 31 := by
  unfold rdE
  repeat' split
  all_goals omega
abbrev raZ : Value := .agg #[.int .i64 0, .int .i64 0]
def boV (F : Fl) : Value := if rdE F true = 0 then .tuple #[weV (knR F).hi, weV (knR F).lo, .int .i64 0] else .tuple #[raZ, raZ, .int .i64 (rdE F true)]
set_option maxRecDepth 100000 in
set_option maxHeartbeats 4000000 in
theorem Bounds_any (F : Fl) (vv vs : Value) (w : World) (hF : FlIn w F vv vs) : Calls Tryz.prog 32 #[flV F vv vs] w fun e w' => e = .returned (boV F) ∧ Below w.heap.size w w' := by
  have hO := ready_fine F vv vs _ (((hF.alloc (flO F vv vs)).alloc raO).alloc raO)
  have r1 := (Bk.new1 w (flO F vv vs) 41 [.int .i64 0, .int .i64 0]).alloc raO
  have r2 := Bk.new1 (w.alloc (flO F vv vs)) raO 41 [.int .i64 0, .int .i64 0]
  simp only [World.size_alloc] at r2
  obtain ⟨os, cs, rfl, ms⟩ := hF.s.parts
  obtain ⟨ov, cv, rfl, mv⟩ := hF.v.parts
  have HO := Lib.hid hO
  have R1 := Lib.hid r1
  have R2 := Lib.hid r2
  clear hO hF r1 r2
  go_enter Tryz.func32, Tryz.ntmps32
  go_wp2_with fail
  refine HO.out.mono ?_
  rintro e w1 (⟨h0, rfl, hb1⟩ | ⟨h0, b, pv, va, vb, rfl, hb1, hK⟩)
  · obtain ⟨er, her⟩ : ∃ x, rdE F true = x := ⟨_, rfl⟩
    have hbd := rdE_bd F true
    have hpo : boV F = .tuple #[raZ, raZ, .int .i64 er] := by unfold boV; rw [if_neg h0, her]
    rw [her] at h0 hbd ⊢
    have HPO := Lib.hid hpo
    have hne : (er == 0) = false := by simpa using h0
    have hbw : Below w.heap.size w w1 := Below.trans belw (hb1.mono (by simp; omega))
    have hs1 := hb1.size
    simp only [World.size_alloc] at hs1
    have p1 := (R1.out.below hb1).alloc (Obj.cells #[.pointer none, .int .i64 0, .int .i64 0, .bool false, .int .i64 0, .int .i64 0, .bool false, .slice none 0 0, .slice none 0 0, .bool false] 102)
    have p2 := (R2.out.below hb1).alloc (Obj.cells #[.pointer none, .int .i64 0, .int .i64 0, .bool false, .int .i64 0, .int .i64 0, .bool false, .slice none 0 0, .slice none 0 0, .bool false] 102)
    have HB := Lib.hid hbw
    clear hpo hbw hb1
    have p1c := p1.cell 0
    have p1d := p1.cell 1
    have p2c := p2.cell 0
    have p2d := p2.cell 1
    have p1f := p1.frozen 0
    have p1g := p1.frozen 1
    have p2f := p2.frozen 0
    have p2g := p2.frozen 1
    simp only [List.getElem?_cons_zero, List.getElem?_cons_succ] at p1c p1d p2c p2d
    have P1 := Lib.hid p1
    have P2 := Lib.hid p2
    clear p1 p2
    go_wp2_with fail
    have q1 := (((P1.out.set 0 (.int .i64 0)).set 1 (.int .i64 0)).far (p := ⟨w.heap.size + 2, 0, none⟩) (by simp) (.int .i64 0)).far (p := ⟨w.heap.size + 2, 1, none⟩) (by simp) (.int .i64 0)
    have q2 := (((P2.out.far (p := ⟨w.heap.size + 1, 0, none⟩) (by simp) (.int .i64 0)).far (p := ⟨w.heap.size + 1, 1, none⟩) (by simp) (.int .i64 0)).set 0 (.int .i64 0)).set 1 (.int .i64 0)
    refine bodyPost_ret (ret_cells2_tmp rfl _ _ rfl rfl q1 q2 Tryz.underlying41 Tryz.underlying41 rfl rfl (by kernel_rfl) (by kernel_rfl)) rfl ⟨by rw [HPO.out]; rfl, ?_⟩
    exact ((((HB.out.alloc (by omega) _).setCell (Nat.le_add_right w.heap.size 1) _).setCell (Nat.le_add_right w.heap.size 1) _).setCell (Nat.le_add_right w.heap.size 2) _).setCell (Nat.le_add_right w.heap.size 2) _
  · have hpo : boV F = .tuple #[weV (knR F).hi, weV (knR F).lo, .int .i64 0] := by unfold boV; rw [if_pos h0]
    have hrB := knR_B hK.s.o
    have hbw : Below w.heap.size w w1 := Below.trans belw (hb1.mono (by simp; omega))
    have hs1 := hb1.size
    simp only [World.size_alloc] at hs1
    obtain ⟨oa, ca, rfl, _⟩ := hK.a.parts
    obtain ⟨ob, cb, rfl, _⟩ := hK.b.parts
    obtain ⟨kr, hkr⟩ : ∃ r, knR F = r := ⟨_, rfl⟩
    rw [hkr] at hpo hrB ⊢
    have HPO := Lib.hid hpo
    have HRB := Lib.hid hrB
    have HB := Lib.hid hbw
    have HB1 := Lib.hid hb1
    clear hpo hbw hb1 hkr hrB hK
    go_wp2_with fail
    refine (wears_any kr oa ob _ _ ca cb _ HRB.out).mono ?_
    rintro e w2 ⟨rfl, hb2⟩
    obtain ⟨⟨a, b', s1⟩, ⟨c, d, s2⟩, em⟩ := kr
    obtain ⟨x1, e1⟩ : ∃ r, lowN1 (1000 * d) c = r := ⟨_, rfl⟩
    obtain ⟨x2, e2⟩ : ∃ r, lowN2 (1000 * d) c = r := ⟨_, rfl⟩
    obtain ⟨x3, e3⟩ : ∃ r, lowN1 (1000 * b') a = r := ⟨_, rfl⟩
    obtain ⟨x4, e4⟩ : ∃ r, lowN2 (1000 * b') a = r := ⟨_, rfl⟩
    have HPO2 := Lib.hid (show boV F = .tuple #[.agg #[.int .i64 x1, .int .i64 x2], .agg #[.int .i64 x3, .int .i64 x4], .int .i64 0] by rw [HPO.out]; show Value.tuple #[.agg #[.int .i64 (lowN1 (1000 * d) c), .int .i64 (lowN2 (1000 * d) c)], .agg #[.int .i64 (lowN1 (1000 * b') a), .int .i64 (lowN2 (1000 * b') a)], _] = _; rw [e1, e2, e3, e4])
    dsimp only [weV]
    rw [e1, e2, e3, e4]
    clear e1 e2 e3 e4
    have hB2 : Below w1.heap.size w1 w2 := Below.trans (Below.alloc (Below.refl _ _) (Nat.le_refl _) _) (hb2.mono (by simp))
    have HB2 := Lib.hid hB2
    have hs2 := hB2.size
    have p1 := ((((R1.out.below HB1.out).below hB2).alloc (Obj.cells #[.int .i64 x1, .int .i64 x2] 41)).alloc (Obj.cells #[.int .i64 x3, .int .i64 x4] 41))
    have p2 := ((((R2.out.below HB1.out).below hB2).alloc (Obj.cells #[.int .i64 x1, .int .i64 x2] 41)).alloc (Obj.cells #[.int .i64 x3, .int .i64 x4] 41))
    have hs5 : w.heap.size + 3 ≤ w2.heap.size := by omega
    clear hB2 hb2
    have p1c := p1.cell 0
    have p1d := p1.cell 1
    have p2c := p2.cell 0
    have p2d := p2.cell 1
    have p1f := p1.frozen 0
    have p1g := p1.frozen 1
    have p2f := p2.frozen 0
    have p2g := p2.frozen 1
    simp only [List.getElem?_cons_zero, List.getElem?_cons_succ] at p1c p1d p2c p2d
    have P1 := Lib.hid p1
    have P2 := Lib.hid p2
    clear p1 p2
    have hB7 := Lib.hid (Below.trans HB.out (Below.trans (HB2.out.mono (by omega)) (Below.alloc (Below.alloc (B := w.heap.size) (Below.refl _ _) (by omega) (Obj.cells #[.int .i64 x1, .int .i64 x2] 41)) (by simp; omega) (Obj.cells #[.int .i64 x3, .int .i64 x4] 41))))
    go_wp2_with fail
    go_region
    go_wp2_with fail
    have q1 := (((P1.out.set 0 (.int .i64 x1)).set 1 (.int .i64 x2)).far (p := ⟨w.heap.size + 2, 0, none⟩) (by simp) (.int .i64 x3)).far (p := ⟨w.heap.size + 2, 1, none⟩) (by simp) (.int .i64 x4)
    have q2 := (((P2.out.far (p := ⟨w.heap.size + 1, 0, none⟩) (by simp) (.int .i64 x1)).far (p := ⟨w.heap.size + 1, 1, none⟩) (by simp) (.int .i64 x2)).set 0 (.int .i64 x3)).set 1 (.int .i64 x4)
    refine bodyPost_ret (ret_cells2_tmp rfl _ _ rfl rfl q1.drew q2.drew Tryz.underlying41 Tryz.underlying41 rfl rfl (by kernel_rfl) (by kernel_rfl)) rfl ⟨by rw [HPO2.out]; rfl, ?_⟩
    exact Below.drew ((((hB7.out.setCell (Nat.le_add_right w.heap.size 1) _).setCell (Nat.le_add_right w.heap.size 1) _).setCell (Nat.le_add_right w.heap.size 2) _).setCell (Nat.le_add_right w.heap.size 2) _)
def weE (F : Fl) : Value := if rdE F true = 0 then .tuple #[.agg #[.int .i64 ((lowN1 (1000 * (knR F).hi.d) (knR F).hi.n).tdiv (lowN2 (1000 * (knR F).hi.d) (knR F).hi.n)), .int .i64 ((lowN1 (1000 * (knR F).lo.d) (knR F).lo.n + lowN2 (1000 * (knR F).lo.d) (knR F).lo.n - 1).tdiv (lowN2 (1000 * (knR F).lo.d) (knR F).lo.n))], .int .i64 0] else .tuple #[raZ, .int .i64 (rdE F true)]
set_option maxRecDepth 100000 in
set_option maxHeartbeats 4000000 in
theorem Wear_any (F : Fl) (vv vs : Value) (w : World) (hF : FlIn w F vv vs) : Calls Tryz.prog 49 #[flV F vv vs] w fun e w' => e = .returned (weE F) ∧ Below w.heap.size w w' := by
  have hO := Bounds_any F vv vs _ ((hF.alloc (flO F vv vs)).alloc (Obj.cells #[.int .i64 0, .int .i64 0] 27))
  have r1 := Bk.new1 w (flO F vv vs) 27 [.int .i64 0, .int .i64 0]
  obtain ⟨os, cs, rfl, ms⟩ := hF.s.parts
  obtain ⟨ov, cv, rfl, mv⟩ := hF.v.parts
  by_cases h0 : rdE F true = 0
  · have hpo : boV F = .tuple #[weV (knR F).hi, weV (knR F).lo, .int .i64 0] := by unfold boV; rw [if_pos h0]
    have hrB := knR_B (rdE_ok h0)
    have hwe : weE F = _ := if_pos h0
    rw [hpo] at hO
    obtain ⟨⟨y1, y2⟩, y3, y4⟩ := lowN_bd (n := 1000 * (knR F).hi.d) (d := (knR F).hi.n) (by have := hrB.d0; omega) hrB.c0
    obtain ⟨⟨z1, z2⟩, z3, z4⟩ := lowN_bd (n := 1000 * (knR F).lo.d) (d := (knR F).lo.n) (by have := hrB.b0; omega) hrB.a0
    have a1 := hrB.a1
    have b1 := hrB.b1
    have c1 := hrB.c1
    have d1 := hrB.d1
    obtain ⟨x1, e1⟩ : ∃ r, lowN1 (1000 * (knR F).hi.d) (knR F).hi.n = r := ⟨_, rfl⟩
    obtain ⟨x2, e2⟩ : ∃ r, lowN2 (1000 * (knR F).hi.d) (knR F).hi.n = r := ⟨_, rfl⟩
    obtain ⟨x3, e3⟩ : ∃ r, lowN1 (1000 * (knR F).lo.d) (knR F).lo.n = r := ⟨_, rfl⟩
    obtain ⟨x4, e4⟩ : ∃ r, lowN2 (1000 * (knR F).lo.d) (knR F).lo.n = r := ⟨_, rfl⟩
    rw [e1] at y1 y2
    rw [e2] at y3 y4
    rw [e3] at z1 z2
    rw [e4] at z3 z4
    rw [e1, e2, e3, e4] at hwe
    dsimp only [weV] at hO
    rw [e1, e2, e3, e4] at hO
    have x1b : x1 ≤ 2097152000000000 := by omega
    have x2b : x2 ≤ 480000000000 := by omega
    have x3b : x3 ≤ 2097152000000000 := by omega
    have x4b : x4 ≤ 480000000000 := by omega
    have HO := Lib.hid hO
    have HWE := Lib.hid hwe
    have R1 := Lib.hid r1
    clear hO hwe r1 e1 e2 e3 e4 y2 y4 z2 z4 a1 b1 c1 d1 hrB hpo h0 hF
    have d1 := Int.ediv_nonneg y1 (show 0 ≤ x2 by omega)
    have d2 := Int.ediv_le_self x2 y1
    have hne1 : (x2 == 0) = false := by simp; omega
    have hne2 : (x4 == 0) = false := by simp; omega
    have t1 : x1.tdiv x2 = x1 / x2 := Int.tdiv_eq_ediv_of_nonneg y1
    have t2 : (x3 + x4 - 1).tdiv x4 = (x3 + x4 - 1) / x4 := Int.tdiv_eq_ediv_of_nonneg (by omega)
    have hw1 : IntKind.i64.wrap (x1.tdiv x2) = x1.tdiv x2 := IntWalk.i64_in _ (by rw [t1]; omega)
    have d3 := Int.ediv_nonneg (show 0 ≤ x3 + x4 - 1 by omega) (show 0 ≤ x4 by omega)
    have d4 := Int.ediv_le_self x4 (show 0 ≤ x3 + x4 - 1 by omega)
    have hw2 : IntKind.i64.wrap ((x3 + x4 - 1).tdiv x4) = (x3 + x4 - 1).tdiv x4 := IntWalk.i64_in _ (by rw [t2]; omega)
    clear d1 d2 d3 d4 t1 t2
    go_enter Tryz.func49, Tryz.ntmps49
    go_wp2_with fail
    refine HO.out.mono ?_
    rintro e w1 ⟨rfl, hb1⟩
    have hbw := bafter (bafter hb1)
    have p1 := ((R1.out.below hb1).alloc (Obj.cells #[.int .i64 x1, .int .i64 x2] 41)).alloc (Obj.cells #[.int .i64 x3, .int .i64 x4] 41)
    have hs1 := hb1.size
    simp only [World.size_alloc] at hs1
    have p1c := p1.cell 0
    have p1d := p1.cell 1
    have p1f := p1.frozen 0
    have p1g := p1.frozen 1
    simp only [List.getElem?_cons_zero, List.getElem?_cons_succ] at p1c p1d
    have P1 := Lib.hid p1
    have HB := Lib.hid hbw
    clear p1 hbw hb1
    go_wp2_with fail
    go_region
    go_wp2_with fail
    refine bodyPost_ret (ret_cell_tmp rfl _ _ rfl ((P1.out.set 0 (.int .i64 (x1.tdiv x2))).set 1 (.int .i64 ((x3 + x4 - 1).tdiv x4))).drew Tryz.underlying27 rfl (by kernel_rfl)) rfl ⟨by rw [HWE.out]; rfl, ?_⟩
    exact Below.drew ((((HB.out.alloc (by omega) _).alloc (by simp; omega) _).setCell (Nat.le_add_right w.heap.size 1) _).setCell (Nat.le_add_right w.heap.size 1) _)
  · have hpo : boV F = .tuple #[raZ, raZ, .int .i64 (rdE F true)] := by unfold boV; rw [if_neg h0]
    have hwe : weE F = .tuple #[raZ, .int .i64 (rdE F true)] := if_neg h0
    rw [hpo] at hO
    obtain ⟨er, her⟩ : ∃ x, rdE F true = x := ⟨_, rfl⟩
    have hbd := rdE_bd F true
    rw [her] at h0 hbd hO hwe
    have hne : (er == 0) = false := by simpa using h0
    have HO := Lib.hid hO
    have HWE := Lib.hid hwe
    have R1 := Lib.hid r1
    clear hO hwe r1 hpo her hF
    go_enter Tryz.func49, Tryz.ntmps49
    go_wp2_with fail
    refine HO.out.mono ?_
    rintro e w1 ⟨rfl, hb1⟩
    have hbw := bafter (bafter hb1)
    have p1 := ((R1.out.below hb1).alloc (Obj.cells #[.int .i64 0, .int .i64 0] 41)).alloc (Obj.cells #[.int .i64 0, .int .i64 0] 41)
    have hs1 := hb1.size
    simp only [World.size_alloc] at hs1
    have p1c := p1.cell 0
    have p1d := p1.cell 1
    have p1f := p1.frozen 0
    have p1g := p1.frozen 1
    simp only [List.getElem?_cons_zero, List.getElem?_cons_succ] at p1c p1d
    have P1 := Lib.hid p1
    have HB := Lib.hid hbw
    clear p1 hbw hb1
    go_wp2_with fail
    refine bodyPost_ret (ret_cell_tmp rfl _ _ rfl ((P1.out.set 0 (.int .i64 0)).set 1 (.int .i64 0)) Tryz.underlying27 rfl (by kernel_rfl)) rfl ⟨by rw [HWE.out]; rfl, ?_⟩
    exact (((HB.out.alloc (by omega) _).alloc (by simp; omega) _).setCell (Nat.le_add_right w.heap.size 1) _).setCell (Nat.le_add_right w.heap.size 1) _
end Go.Proofs.YtnfndiafabhhdaaGreat
