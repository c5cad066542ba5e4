/- The walks of the evaluation's outcome and of evalProgram. -/
import Derived.Test.YtnjincgemmgllaaDoorEvI
namespace Go.Proofs.YtnjincgemmgllaaDoor
open Go.RowKit
attribute [local go_sem ↓] Go.wp_at_zero Go.wp_at_succ

def put4 (w : World) (R : Nat) (c0 c1 c2 c3 : Value) : World := (((w.setCell ⟨R, 0, none⟩ c0).setCell ⟨R, 1, none⟩ c1).setCell ⟨R, 2, none⟩ c2).setCell ⟨R, 3, none⟩ c3
theorem Keep.put4' (w : World) (R : Nat) (c0 c1 c2 c3 : Value) : Keep [R] w (put4 w R c0 c1 c2 c3) := ((((Keep.refl _ _).setCell (.inl (by simp)) _).setCell (.inl (by simp)) _).setCell (.inl (by simp)) _).setCell (.inl (by simp)) _
theorem own_more {G : List Nat} {B : Nat} {w : World} {v : Value} {zs : List Int} (h : Own [] B w 3 1 v (intsE zs)) (hG : ∀ g, g ∈ G → g < B) : Own G B w 3 1 v (intsE zs) := by
  have hlt := h.lt
  obtain ⟨⟨cs, h1, h2⟩, h3, _⟩ := h
  exact ⟨⟨cs, h1, repC_ints_any zs cs h2⟩, h3, fun g hg hm => by have := (hlt g hg).1; have := hG g hm; omega⟩
/- an outcome, its list in new memory -/
def OutK (B : Nat) (w : World) (c : Nat) (os : List Int) (e : Ending) (w' : World) : Prop :=
  ∃ (st va : Int) (a : Option Addr) (cap : Nat), e = .returned (.agg #[.int .i64 st, .int .i64 va, .int .i64 c, .slice a os.length cap]) ∧ Keep [] w w' ∧ Own [] B w' 3 1 (.slice a os.length cap) (intsE os)
theorem OutK.drew {B : Nat} {w w' : World} {c : Nat} {os : List Int} {e : Ending} (h : OutK B w c os e w') : OutK B w c os e w'.drew := by
  obtain ⟨st, va, a, cap, h1, h2, h3⟩ := h
  exact ⟨st, va, a, cap, h1, h2.drew, h3.keep0 (Keep.refl _ _).drew⟩
theorem out_post {B G0 k : Nat} {w w0 w5 : World} {c : Nat} {os : List Int} {st va : Int} {a : Option Addr} {cap : Nat} (h0 : Keep [] w w0) (hk : w.heap.size ≤ k) (h5 : Keep [] w0 w5) (ho : Own [G0, k] B w5 3 1 (.slice a os.length cap) (intsE os)) (x0 x1 x2 x3 : Value) :
    OutK B w c os (.returned (.agg #[.int .i64 st, .int .i64 va, .int .i64 c, .slice a os.length cap])) (put4 w5 k x0 x1 x2 x3) :=
  ⟨st, va, a, cap, rfl, (h0.then0 h5).trans (Keep.put4' w5 k _ _ _ _) (fun m hm => .inr (by simp at hm; omega)), (ho.keep (Keep.put4' w5 k _ _ _ _) fun m hm => .inl (by simp at hm; simp [hm])).sub fun g hg => by cases hg⟩

set_option maxRecDepth 100000 in
set_option maxHeartbeats 8000000 in
theorem outcome_any {be Bd : Nat} {w : World} {most c : Nat} {sp : Bool} {o : Value} {os : List Int} (hev : Ev be Bd w most c sp o os) (hos : os.length ≤ 1000000) (n : Int) (ka : Option Addr) (kl kc : Nat) :
    Calls Tryd.prog 34 #[.pointer (some ⟨be, 0, none⟩), .agg #[.int .i64 n, .slice ka kl kc]] w (OutK w.heap.size w c os) := by
  have E0 := Lib.hid hev
  have blt := hev.blt
  obtain ⟨oa, oc, rfl⟩ := hev.form
  clear hev
  go_enter Tryd.func34, Tryd.ntmps34
  go_upto_region 0 with fail
  go_cut [3, 4] (fun s3 s4 wx => s3 = .pointer (some ⟨w.heap.size, 0, none⟩) ∧ s4 = .pointer (some ⟨w.heap.size + 1, 0, none⟩) ∧ Bo2 w wx #[.int .i64 n, .slice ka kl kc] #[.int .i64 0, .int .i64 0, .int .i64 0, .slice none 0 0] 79 27)
  case first =>
    go_wp2_with fail
    go_meet
    exact ⟨rfl, rfl, Bo2.mk' _ _ _ _ _⟩
  case rest =>
    obtain ⟨rfl, rfl, hbo⟩ := hcut
    rename World => w1
    have BO := Lib.hid hbo
    have E1 := Lib.hid (E0.out.keep0 hbo.keep)
    have hsz := hbo.size
    obtain ⟨⟨k0, k1, k2, k3⟩, g0, g1, g2, g3⟩ := blk4 E1.out.blk
    obtain ⟨⟨q0, q1⟩, _⟩ := blk2 hbo.b0
    obtain ⟨⟨z0, z1, z2, z3⟩, y0, y1, y2, y3⟩ := blk4 hbo.b1
    clear hbo
    have RO := Lib.hid (show Rep [be, w.heap.size + 1] w1 (ints os) (.slice oa os.length oc) from (E0.out.own.rep.sub fun g hg => by
      simp only [List.mem_cons] at hg
      rcases hg with h | h | h
      · exact .inl (by simp [h])
      · exact .inr (by omega)
      · cases h).keep0 BO.out.keep)
    have HGO := Lib.hid (fun g (hg : g ∈ [be, w.heap.size + 1]) => show g < w1.heap.size from by
      simp only [List.mem_cons] at hg
      rcases hg with h | h | h
      · omega
      · omega
      · cases h)
    cases sp with
    | true =>
      go_wp2
      go_region_held3 (fun w' => w'.cell? ⟨be, 1, none⟩ = some (.int .i64 (c : Int)) ∧ w'.cell? ⟨be, 3, none⟩ = some (.slice oa os.length oc))
        (first | exact ⟨k1, k3⟩ | exact ⟨k5, k7⟩ | (have KS := Keep.put4' w5 (w.heap.size + 1) (.int .i64 1) (.int .i64 0) (.int .i64 (c : Int)) (.slice ra os.length rc); exact ⟨KS.cellEq k5 (by simp; omega), KS.cellEq k7 (by simp; omega)⟩) | go_keep)
        (first
        | (go_at_call 50
           refine (copyInts_any _ os w1.drew RO.out.drew (by omega) HGO.out).mono ?_
           rintro e w5 ⟨r, rfl, hk5, ho5⟩
           obtain ⟨ra, rc, hr5⟩ := ho5.form
           rw [intsE_length] at hr5
           subst hr5
           have OW := Lib.hid ho5
           have K5 := Lib.hid (show Keep [] w1 w5 from (Keep.refl _ _).drew.then0 hk5)
           have hs5 := K5.out.size
           have q5 := K5.out.cellEq q0 (by simp)
           have k5 := K5.out.cellEq k1 (by simp)
           have k7 := K5.out.cellEq k3 (by simp)
           obtain ⟨⟨j0, j1, j2, j3⟩, i0, i1, i2, i3⟩ := blk4 ((K5.out.block (w.heap.size + 1) (by omega) (by simp)).trans BO.out.b1)
           clear hk5 ho5))
      all_goals
        go_wp2
        refine bodyPost_ret (v := .agg #[.int .i64 1, .int .i64 0, .int .i64 (c : Int), .slice ra os.length rc]) (by simp [results, Tryd.results34, go_sem, j0, j1, j2, j3]) rfl (out_post (w5 := w5) (G0 := be) (k := w.heap.size + 1) BO.out.keep (by omega) K5.out (OW.out.base (by show _ ≤ w1.heap.size; omega)) _ _ _ _)
    | false =>
      go_wp2
      go_region_held3 (fun w' => w'.cell? ⟨w.heap.size, 0, none⟩ = some (.int .i64 n) ∧ w'.cell? ⟨be, 1, none⟩ = some (.int .i64 (c : Int)) ∧ w'.cell? ⟨be, 3, none⟩ = some (.slice oa os.length oc))
        (first | exact ⟨q0, k1, k3⟩ | exact ⟨q5, k5, k7⟩ | (have KS := Keep.put4' w5 (w.heap.size + 1) (.int .i64 0) (.int .i64 n) (.int .i64 (c : Int)) (.slice ra os.length rc); exact ⟨KS.cellEq q5 (by simp), KS.cellEq k5 (by simp; omega), KS.cellEq k7 (by simp; omega)⟩) | go_keep)
        (first
        | (go_at_call 50
           refine (copyInts_any _ os w1.drew RO.out.drew (by omega) HGO.out).mono ?_
           rintro e w5 ⟨r, rfl, hk5, ho5⟩
           obtain ⟨ra, rc, hr5⟩ := ho5.form
           rw [intsE_length] at hr5
           subst hr5
           have OW := Lib.hid ho5
           have K5 := Lib.hid (show Keep [] w1 w5 from (Keep.refl _ _).drew.then0 hk5)
           have hs5 := K5.out.size
           have q5 := K5.out.cellEq q0 (by simp)
           have k5 := K5.out.cellEq k1 (by simp)
           have k7 := K5.out.cellEq k3 (by simp)
           obtain ⟨⟨j0, j1, j2, j3⟩, i0, i1, i2, i3⟩ := blk4 ((K5.out.block (w.heap.size + 1) (by omega) (by simp)).trans BO.out.b1)
           clear hk5 ho5))
      all_goals
        go_wp2
        refine bodyPost_ret (v := .agg #[.int .i64 0, .int .i64 n, .int .i64 (c : Int), .slice ra os.length rc]) (by simp [results, Tryd.results34, go_sem, j0, j1, j2, j3]) rfl (out_post (w5 := w5) (G0 := be) (k := w.heap.size + 1) BO.out.keep (by omega) K5.out (OW.out.base (by show _ ≤ w1.heap.size; omega)) _ _ _ _)

set_option maxRecDepth 100000 in
set_option maxHeartbeats 8000000 in
theorem evalProgram_any {l : List Dc} {fs : List Fn} (hP : Pr l fs) {G : List Nat} (dv fv : Value) (x : Ex) (xa : Option Addr) (xc most : Nat) (w : World) (hd : Rep G w (decls l) dv) (hf : Rep G w (funcsD fs) fv) (hx : Rep G w (kidsD x.kids) (.slice xa x.kids.length xc)) (hty : HasTy l (sgs fs) [] x 0) (hsz : esz x ≤ 30) (hm : most ≤ 1000) :
    Calls Tryd.prog 23 #[.agg #[dv, fv], .agg #[.int .i64 x.op, .int .i64 x.num, .slice xa x.kids.length xc], .int .i64 (most : Int)] w (fun e w' => ∃ (c : Nat) (os : List Int), c ≤ most ∧ os.length ≤ 100000 ∧ OutK w.heap.size w c os e w') := by
  have EV := Lib.hid (eval_any hP 100000)
  have HD := Lib.hid hd
  have HF := Lib.hid hf
  have HX := Lib.hid hx
  have HT := Lib.hid hty
  obtain ⟨da, dc, rfl, _⟩ := decls_form hd
  obtain ⟨fa, fc, rfl, _⟩ := funcs_form hf
  clear hd hf hx hty hP
  go_enter Tryd.func23, Tryd.ntmps23
  go_upto_region 0 with fail
  go_cut [3, 4, 6] (fun s3 s4 s6 wx => s3 = .pointer (some ⟨w.heap.size, 0, none⟩) ∧ s4 = .pointer (some ⟨w.heap.size + 1, 0, none⟩) ∧ s6 = .pointer (some ⟨w.heap.size + 2, 0, none⟩) ∧ Bo3 w wx #[.slice da l.length dc, .slice fa fs.length fc] #[.int .i64 x.op, .int .i64 x.num, .slice xa x.kids.length xc] #[.int .i64 0, .int .i64 0, .int .i64 0, .slice none 0 0] 50 55 27)
  case first =>
    go_wp2_with fail
    go_meet
    exact ⟨rfl, rfl, rfl, Bo3.mk' _ _ _ _ _ _ _⟩
  case rest =>
    obtain ⟨rfl, rfl, rfl, hbo⟩ := hcut
    rename World => w1
    have BO := Lib.hid hbo
    have hs1 := hbo.size
    obtain ⟨⟨q0, q1⟩, _⟩ := blk2 hbo.b0
    obtain ⟨⟨x0, x1, x2⟩, _⟩ := blk3 hbo.b1
    clear hbo
    go_wp2_with fail
    obtain ⟨W, hW⟩ : ∃ W, W = (w1.alloc (.cells #[.int .i64 (most : Int), .int .i64 0, .bool false, .slice none 0 0] 76)).alloc (.cells #[] 79) := ⟨_, rfl⟩
    rw [← hW]
    have KW := Lib.hid (show Keep [] w1 W from by rw [hW]; exact ((Keep.refl _ _).alloc _).alloc _)
    have hsW : W.heap.size = w.heap.size + 5 := by rw [hW]; simp; omega
    have BW := Lib.hid (show W.heap[w.heap.size + 3]? = some (.cells #[.int .i64 (most : Int), .int .i64 ((0 : Nat) : Int), .bool false, .slice none 0 0] 76 (0, 0)) from by
      rw [hW, Below.heap_alloc _ _ _ (by simp; omega), ← hs1]
      exact heap_alloc_new w1 _)
    clear hW
    have SB := Lib.hid (fun g (hg : g ∈ (w.heap.size + 3) :: (ob (.slice none 0 0) ++ [])) => show g ∈ G ∨ w.heap.size ≤ g from .inr (by simp [ob, Value.ownBlock] at hg; omega))
    have HEP := Lib.hid (show Ep (w.heap.size + 3) (w.heap.size + 4) l fs (.slice da l.length dc) (.slice fa fs.length fc) [] W most 0 (.slice none 0 0) [] from
      ⟨⟨BW.out, Own.nil _ _ _ _ _, by omega, by omega⟩, (HD.out.sub SB.out).keep0 (BO.out.keep.then0 KW.out), (HF.out.sub SB.out).keep0 (BO.out.keep.then0 KW.out), fun g hg => (by cases hg), Nat.zero_le _, hm⟩)
    refine (EV.out _ _ _ _ [] W most 0 (.slice none 0 0) [] HEP.out x xa xc ((HX.out.sub SB.out).keep0 (BO.out.keep.then0 KW.out)) [] _ (Rep.nil _ _ _ _ _ (by omega)) [] 0 .nil HT.out (by simp; omega) (by simp; omega) (by omega)).mono ?_
    rintro e w5 ⟨v, av, cv, c5, sp5, o5, os5, rfl, hty, hst, hev, hc5, hm5, ho5, hrv⟩
    have S5 := Lib.hid hst
    have E5 := Lib.hid hev
    have hs5 := hst.keep.size
    have K5 := Lib.hid (show Keep [] w w5 from (BO.out.keep.then0 KW.out).trans hst.keep fun m hm => .inr (by simp [ob, Value.ownBlock] at hm; omega))
    have hol : os5.length ≤ 100000 := by simp at ho5; omega
    obtain ⟨⟨z0, z1, z2, z3⟩, y0, y1, y2, y3⟩ := blk4 ((hst.keep.block (w.heap.size + 2) (by omega) (by simp [ob, Value.ownBlock])).trans ((KW.out.block (w.heap.size + 2) (by omega) (by simp)).trans BO.out.b2))
    clear hty hst hev hrv ho5 q0 q1 x0 x1 x2
    go_wp2_with fail
    refine (outcome_any (E5.out.keep0 ((Keep.refl _ _).alloc _)) (by omega) v.num av v.kids.length cv).mono ?_
    rintro e w6 ⟨st, va, oa, oc, rfl, hk6, ho6⟩
    have K6 := Lib.hid (show Keep [] w5 w6 from ((Keep.refl _ _).alloc _).then0 hk6)
    have hs6 := K6.out.size
    have OW := Lib.hid (show Own [] w5.heap.size w6 3 1 (.slice oa os5.length oc) (intsE os5) from ho6.base (by simp))
    replace z0 := K6.out.cellEq z0 (by simp)
    replace z1 := K6.out.cellEq z1 (by simp)
    replace z2 := K6.out.cellEq z2 (by simp)
    replace z3 := K6.out.cellEq z3 (by simp)
    have f0 := (K6.out.frozen (p := ⟨w.heap.size + 2, 0, none⟩) (by simp; omega) (by simp)).trans y0
    have f1 := (K6.out.frozen (p := ⟨w.heap.size + 2, 1, none⟩) (by simp; omega) (by simp)).trans y1
    have f2 := (K6.out.frozen (p := ⟨w.heap.size + 2, 2, none⟩) (by simp; omega) (by simp)).trans y2
    have f3 := (K6.out.frozen (p := ⟨w.heap.size + 2, 3, none⟩) (by simp; omega) (by simp)).trans y3
    clear hk6 ho6
    go_wp2
    refine bodyPost_ret (v := .agg #[.int .i64 st, .int .i64 va, .int .i64 (c5 : Int), .slice oa os5.length oc]) (by simp [results, Tryd.results23, go_sem, z0, z1, z2, z3]) rfl ⟨c5, os5, hm5, hol, out_post (w5 := w6) (G0 := w.heap.size + 2) (k := w.heap.size + 2) K5.out (by omega) K6.out ?_ _ _ _ _⟩
    exact (own_more OW.out (fun g hg => by simp at hg; omega)).base (by omega)
end Go.Proofs.YtnjincgemmgllaaDoor
