/- Walk of asked (Wear). -/
import Derived.Test.YtnfndiafabhhdaaGreatE3
namespace Go.Proofs.YtnfndiafabhhdaaGreat
open Go.ChangeShapes Go.WideShapes Go.ChangeAt Go.RowKit
theorem Kn.bes {w0 w w' : World} {F : Fl} {b z : Nat} {vv vs pv va vb : Value} (h : Kn w F b vv vs pv va vb) (hF : FlIn w0 F vv vs) (hbw : Below w0.heap.size w0 w') (hb : Bes z w w') (hz : Bk w z 102 knC0) : Kn w' F b vv vs pv va vb := by
  have hv1 : 0 < F.v.length := by have := ((okv_iff F.v).1 h.s.o.v).1; omega
  exact ⟨⟨h.s.k.bes hb (Bk.ty h.s.k hz (by decide)), hF.below hbw, ptr_bes h.s.p hv1 hb hz, h.s.o⟩, lnr_bes h.a hb hz, lnr_bes h.b hb hz, h.ca, h.cb⟩
def asR (F : Fl) (x m : Int) : Bool := inB x 0 (hgt F.v) && inB m 0 2097152
theorem asked1_any (F : Fl) (b : Nat) (vv vs pv : Value) (x y : Int) (m1 m2 : Nat) (w : World) (hS : Sty w F b vv vs pv) (hm1 : w.cell? ⟨m1, 0, none⟩ = some (.int .i64 x)) (hm2 : w.cell? ⟨m2, 0, none⟩ = some (.int .i64 y)) (_l1 : m1 < w.heap.size) (l2 : m2 < w.heap.size) :
    Calls Tryz.prog 151 #[.pointer (some ⟨b, 0, none⟩), .pointer (some ⟨m1, 0, none⟩), .pointer (some ⟨m2, 0, none⟩)] w fun e w' => e = .returned (.bool (asR F x y)) ∧ Below w.heap.size w w' := by
  have hO := isLevel_any F b vv vs pv (.slice (some ⟨w.heap.size, 0, none⟩) 1 1) [x] _ (hS.alloc (Obj.cells #[.int .i64 x] 3)) (ints_bk (L := [x]) (Bk.new w 3 [.int .i64 x]) (by simp) (by simp) 1) (by simp)
  have e : ([x].all fun n => inB n 0 (hgt F.v)) = inB x 0 (hgt F.v) := by simp
  rw [e] at hO
  unfold asR
  obtain ⟨q, hq⟩ : ∃ q, inB x 0 (hgt F.v) = q := ⟨_, rfl⟩
  rw [hq] at hO ⊢
  have HO := Lib.hid hO
  clear hO hS e hq
  cases q
  · go_enter Tryz.func151, Tryz.ntmps151
    go_wp2_with fail
    refine HO.out.mono ?_
    rintro e w1 ⟨rfl, hb1⟩
    go_wp2_with fail
    go_ret
    exact ⟨rfl, bafter hb1⟩
  · obtain ⟨r, hr⟩ : ∃ r, inB y 0 2097152 = r := ⟨_, rfl⟩
    have HF := Lib.hid (fun W => from_any y 0 2097152 W)
    rw [hr] at HF ⊢
    clear hr
    go_enter Tryz.func151, Tryz.ntmps151
    go_wp2_with fail
    refine HO.out.mono ?_
    rintro e w1 ⟨rfl, hb1⟩
    have hc := ((bafter hb1).cell (p := ⟨m2, 0, none⟩) l2).trans hm2
    go_wp2_with fail
    refine (HF.out _).mono ?_
    rintro e w2 ⟨rfl, rfl⟩
    go_wp2_with fail
    go_ret
    exact ⟨by simp, bafter hb1⟩
set_option maxRecDepth 100000 in
set_option maxHeartbeats 4000000 in
theorem wasked_any (F : Fl) (vv vs : Value) (x m : Int) (w : World) (hF : FlIn w F vv vs) : Calls Tryz.prog 96 #[flV F vv vs, .int .i64 x, .int .i64 m] w fun e w' => RdPost F (asR F x m) vv vs w e w' := by
  have b2 := ((Bk.new1 w (flO F vv vs) 3 [.int .i64 x]).alloc (Obj.cells #[.int .i64 m] 3)).alloc (Obj.cells #[.pointer none, .int .i64 0, .int .i64 0, .bool false, .int .i64 0, .int .i64 0, .bool false, .slice none 0 0, .slice none 0 0, .bool false] 102)
  have b3 := (Bk.new1 (w.alloc (flO F vv vs)) (Obj.cells #[.int .i64 x] 3) 3 [.int .i64 m]).alloc (Obj.cells #[.pointer none, .int .i64 0, .int .i64 0, .bool false, .int .i64 0, .int .i64 0, .bool false, .slice none 0 0, .slice none 0 0, .bool false] 102)
  have b4 := Bk.new1 ((w.alloc (flO F vv vs)).alloc (Obj.cells #[.int .i64 x] 3)) (Obj.cells #[.int .i64 m] 3) 102 knC0
  simp only [World.size_alloc] at b3 b4
  have hO := ready_any F vv vs 151 #[.pointer (some ⟨w.heap.size + 1, 0, none⟩), .pointer (some ⟨w.heap.size + 1 + 1, 0, none⟩)] (asR F x m) _ ((((hF.alloc (flO F vv vs)).alloc (Obj.cells #[.int .i64 x] 3)).alloc (Obj.cells #[.int .i64 m] 3)).alloc (Obj.cells #[.pointer none, .int .i64 0, .int .i64 0, .bool false, .int .i64 0, .int .i64 0, .bool false, .slice none 0 0, .slice none 0 0, .bool false] 102))
    (fun args W => by simp [go_sem]) (fun _ b pv W hb hS => asked1_any F b _ _ pv x m _ _ W hS ((b2.below hb).cell 0) ((b3.below hb).cell 0) (b2.below hb).lt (b3.below hb).lt)
  have HF := Lib.hid hF
  obtain ⟨os, cs, rfl, ms⟩ := hF.s.parts
  obtain ⟨ov, cv, rfl, mv⟩ := hF.v.parts
  have HO := Lib.hid hO
  have B4 := Lib.hid b4
  obtain ⟨rq, hrq⟩ : ∃ q, asR F x m = q := ⟨_, rfl⟩
  rw [hrq] at HO ⊢
  clear hO hF b2 b3 b4 hrq
  go_enter Tryz.func96, Tryz.ntmps96
  go_wp2_with fail
  refine HO.out.mono ?_
  rintro e w1 (⟨h0, rfl, hb1⟩ | ⟨h0, b, pv, va, vb, rfl, hb1, hK⟩)
  · have hs1 := hb1.size
    simp only [World.size_alloc] at hs1
    have hbw : Below w.heap.size w w1 := Below.trans (Below.alloc (Below.alloc (Below.alloc (Below.alloc (Below.refl _ _) (Nat.le_refl _) _) (by simp) _) (by simp; omega) _) (by simp; omega) _) (hb1.mono (by simp; omega))
    have h3 := B4.out.below hb1
    have HBW := Lib.hid hbw
    clear hbw hb1
    obtain ⟨er, her⟩ : ∃ x, rdE F rq = x := ⟨_, rfl⟩
    have HE := Lib.hid her
    rw [her] at h0 ⊢
    clear her
    go_wp2_with (refine st_at rfl (T := 102) rfl rfl (cs := knC0) rfl h3 (by kernel_rfl) rfl rfl ?_; intro wk hkk hsk)
    refine bodyPost_ret (ret_cell_tmp rfl _ _ rfl hkk Tryz.underlying102 rfl (by kernel_rfl)) rfl (.inl ⟨by rw [HE.out]; exact h0, by rw [HE.out]; rfl, ?_⟩)
    exact bes_then HBW.out hsk (by omega) (by omega)
  · obtain ⟨oa, ca, rfl, _⟩ := hK.a.parts
    obtain ⟨ob, cb, rfl, _⟩ := hK.b.parts
    have hs1 := hb1.size
    simp only [World.size_alloc] at hs1
    have hbw : Below w.heap.size w w1 := Below.trans (Below.alloc (Below.alloc (Below.alloc (Below.alloc (Below.refl _ _) (Nat.le_refl _) _) (by simp) _) (by simp; omega) _) (by simp; omega) _) (hb1.mono (by simp; omega))
    have h3 := B4.out.below hb1
    have HBW := Lib.hid hbw
    have HK := Lib.hid hK
    have H0 := Lib.hid h0
    clear hbw hb1 hK h0
    obtain ⟨kr, hkr⟩ : ∃ r, knR F = r := ⟨_, rfl⟩
    have HKR := Lib.hid hkr
    rw [hkr]
    clear hkr
    obtain ⟨la, hla⟩ : ∃ r, (lows (linesL F (allL F))).length = r := ⟨_, rfl⟩
    obtain ⟨lb, hlb⟩ : ∃ r, (ups (linesL F (allL F))).length = r := ⟨_, rfl⟩
    rw [hla, hlb] at HK ⊢
    clear hla hlb
    go_wp2_with (refine st_at rfl (T := 102) rfl rfl (cs := knL b kr (.slice oa la ca) (.slice ob lb cb)) rfl h3 (by kernel_rfl) rfl rfl ?_; intro wk hkk hsk)
    have hbf := bes_then HBW.out hsk (by omega) (by omega)
    refine bodyPost_ret (ret_cell_tmp rfl _ _ rfl hkk Tryz.underlying102 rfl (by kernel_rfl)) rfl (.inr ⟨H0.out, b, pv, .slice oa la ca, .slice ob lb cb, by rw [HKR.out]; rfl, hbf, HK.out.bes HF.out hbf hsk h3⟩)
end Go.Proofs.YtnfndiafabhhdaaGreat
