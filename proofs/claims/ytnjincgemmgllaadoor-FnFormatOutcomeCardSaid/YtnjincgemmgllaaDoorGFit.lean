/- The walk of the generator's fitting. -/
import Derived.Test.YtnjincgemmgllaaDoorGBx
namespace Go.Proofs.YtnjincgemmgllaaDoor
open Go.RowKit
attribute [local go_sem ↓] Go.wp_at_zero Go.wp_at_succ

def FtT (l : List Dc) (sg : List Sg) (vars : List Int) (t : Int) (x : Ex) : Prop := HasTy l sg vars x t ∧ (base t → esz x ≤ 30)
theorem cst_half {b : Int} (hb : 2 < b) : 2 * cst (b.tdiv 2).toNat ≤ cst b.toNat := by
  obtain ⟨d0, d1⟩ := half_in (show 3 ≤ b by omega)
  have h1 : cst (b.tdiv 2).toNat ≤ cst (b - 1).toNat := cst_mono (by omega)
  have h2 := cst_succ (b - 1).toNat
  rw [show (b - 1).toNat + 1 = b.toNat by omega] at h2
  omega
set_option maxRecDepth 100000 in
set_option maxHeartbeats 8000000 in
theorem fitting_any {G : List Nat} {B br : Nat} {l : List Dc} {fs : List Fn} {dv fv : Value} {w : World} (hx : Cx G B br l fs dv fv w) (p : Nat) (hr : RdAt B w br p) (vv : Value) (vars : List Int) (hv : Rep G w (ints vars) vv) (hl : GD l) (hs : GS l (sgs fs)) (t : Int) (t0 : 0 ≤ t) (t1 : t ≤ l.length) (hc : canB l (sgs fs) vars t = true) (b : Int) (b0 : 0 ≤ b) (b1 : b ≤ 100) (hvb : vars.length + 3 * b.toNat ≤ 1000)
    (hp : p + 2 * cst b.toNat ≤ 1125899906842624) :
    Calls Tryd.prog 45 #[.pointer (some ⟨br, 0, none⟩), .agg #[dv, fv], vv, .int .i64 t, .int .i64 b] w (GenK B w br p (2 * cst b.toNat) (FtT l (sgs fs) vars t)) := by
  have hn4 : fs.length ≤ 4 := by have := hs.len; rw [sgs_len] at this; omega
  have hn1 : 1 ≤ fs.length := by have := hs.len; rw [sgs_len] at this; omega
  obtain ⟨da, dc, fa, fc, rfl, rfl⟩ := hx.forms
  have X0 := Lib.hid (Sx.start hx hr)
  have hfb := hl.bound
  have HL := Lib.hid hl
  have HS := Lib.hid hs
  have hbr : br ∈ G := hx.hbr
  have hbl := X0.out.brlt
  have HV := Lib.hid hv
  obtain ⟨va, vc, rfl, _⟩ := ints_form hv
  have HCB := Lib.hid hc
  have GA := Lib.hid (fun b' (h0 : 0 ≤ b') (h1 : b' ≤ b) => gen_all hl hs b' h0 (by omega))
  obtain ⟨C, hC⟩ : ∃ C, C = cst b.toNat := ⟨_, rfl⟩
  rw [← hC] at hp
  rw [← hC]
  have HCC := Lib.hid hC
  clear hc hC hx hr hv hl hs
  go_enter Tryd.func45, Tryd.ntmps45
  go_wp2_with fail
  refine (gen_sx (GA.out b b0 (by omega)) _ vars t X0.out (by repeat (first | exact Keep.refl _ _ | refine Keep.drew ?_ | refine Keep.alloc ?_ _ | fail)) (X0.out.rep0 HV.out) (by omega) t0 t1 HCB.out (by rw [← HCC.out]; omega)).mono ?_
  rintro e w1 ⟨x, p1, a1, cp1, rfl, hx, hX, hk, _, hp1, hr1⟩
  rw [← HCC.out] at hp1
  have s1 := hX.size
  have X1 := Lib.hid hX
  have TX := Lib.hid hx
  have R1 := Lib.hid (show Rep (List.range (w.heap.size + 2)) w1 (kidsD x.kids) (.slice a1 x.kids.length cp1) from hr1.sub (range_sub (by rw [bx_size]; exact Nat.le_refl _)))
  clear hX hk hx hr1
  go_wp2
  go_loopw [4] (fun s4 wr => ∃ (b' : Int) (x : Ex) (p' : Nat), s4 = .int .i64 b' ∧ 0 ≤ b' ∧ b' ≤ b ∧ Sx G B br l fs da dc fa fc w wr p' ∧ Bx (w1.heap.size :: List.range (w.heap.size + 2)) wr w1.heap.size x ∧ GnT l (sgs fs) vars t b' x ∧ p' + cst b'.toNat ≤ p + 2 * C ∧ w1.heap.size < wr.heap.size) (fun s4 _ => (intOf s4).toNat)
  case atStart =>
    exact ⟨b, x, p1, rfl, b0, Int.le_refl _, X1.out.new _, Bx.new R1.out, TX.out, by rw [← HCC.out]; omega, by simp⟩
  case round =>
    obtain ⟨b', x, p', rfl, b0', b1', hX, hBx, hx, hp', hsz⟩ := hrel
    have X2 := Lib.hid hX
    have BX := Lib.hid hBx
    have TX := Lib.hid hx
    have s2 := hX.size
    obtain ⟨a2, c2, ⟨z0, z1, z2⟩, ⟨f0, f1, f2⟩, rr⟩ := hBx.cells
    have R2 := Lib.hid rr
    obtain ⟨q2, r2⟩ := hX.cells
    have hbm : br ∈ w1.heap.size :: List.range (w.heap.size + 2) := by simp; omega
    clear hX hBx hx rr
    by_cases hn : nodesF x < 0
    · have HN := Lib.hid hn
      by_cases hb2 : 2 < b'
      · obtain ⟨d0, d1⟩ := half_in (show 3 ≤ b' by omega)
        have hcs := cst_half hb2
        have hcq := cst_mono (show b'.toNat ≤ b.toNat by omega)
        rw [← HCC.out] at hcq
        have hw : IntKind.i64.wrap (b'.tdiv 2) = b'.tdiv 2 := IntWalk.i64_in _ (by omega)
        go_wp2_with fail
        refine (nodesOf_any (G := w1.heap.size :: List.range (w.heap.size + 2)) x _ _ ⟨_, _, rfl, R2.out⟩).mono ?_
        rintro e w3 ⟨rfl, hk3⟩
        have X3 := Lib.hid (X2.out.keep0 hk3)
        have B3 := Lib.hid (BX.out.keep0 hk3)
        have s3 := hk3.size
        clear z0 z1 z2 f0 f1 f2 q2 r2
        obtain ⟨q3, r3⟩ := X3.out.cells
        clear hk3
        have ht : b'.tdiv 2 = b' / 2 := Int.tdiv_eq_ediv_of_nonneg b0'
        have HT := Lib.hid ht
        clear ht
        go_wp2_with fail
        try rw [← HT.out]
        refine (gen_sx (GA.out (b'.tdiv 2) d0 (by omega)) _ vars t X3.out (by repeat (first | with_reducible exact Keep.refl _ _ | with_reducible refine Keep.drew ?_ | with_reducible refine Keep.alloc ?_ _ | fail)) (X3.out.rep0 HV.out) (by omega) t0 t1 HCB.out (by omega)).mono ?_
        rintro e w4 ⟨y, p4, a4, cp4, rfl, hy, hX, hk, _, hp4, hr4⟩
        have X4 := Lib.hid hX
        have TY := Lib.hid hy
        have B4 := Lib.hid (B3.out.call X3.out hk hbm (by omega))
        have R4 := Lib.hid (show Rep (w1.heap.size :: List.range (w.heap.size + 2)) w4 (kidsD y.kids) (.slice a4 y.kids.length cp4) from hr4.sub (fun g hg => .inl (by simp at hg ⊢; omega)))
        have s4 := hk.size
        obtain ⟨a5, c5, ⟨z0, z1, z2⟩, ⟨f0, f1, f2⟩, _⟩ := B4.out.cells
        clear hX hy hk hr4 q3 r3
        go_wp2
        go_roundw
        case rel => exact ⟨b'.tdiv 2, y, p4, by rw [HT.out], d0, by omega, X4.out.set (by omega) _ _ _, B4.out.set (by simp) R4.out, TY.out, by omega, by simp; omega⟩
        case measure => simp [intOf]; omega
      · go_wp2_with fail
        refine (nodesOf_any (G := w1.heap.size :: List.range (w.heap.size + 2)) x _ _ ⟨_, _, rfl, R2.out⟩).mono ?_
        rintro e w3 ⟨rfl, hk3⟩
        have X3 := Lib.hid (X2.out.keep0 hk3)
        have B3 := Lib.hid (BX.out.keep0 hk3)
        have s3 := hk3.size
        clear z0 z1 z2 f0 f1 f2 q2 r2 hk3
        obtain ⟨a5, c5, ⟨z0, z1, z2⟩, ⟨f0, f1, f2⟩, rr⟩ := B3.out.cells
        obtain ⟨⟨y0, y1, y2⟩, g0, g1, g2⟩ := X3.out.out
        have R3 := Lib.hid (show Rep (List.range (w.heap.size + 2)) w3 (kidsD x.kids) (.slice a5 x.kids.length c5) from rr.tail)
        have T3 := Lib.hid (show FtT l (sgs fs) vars t x from ⟨TX.out.1, fun hb => by rw [TX.out.2 (by omega) hb]; omega⟩)
        clear rr
        go_wp2
        refine bodyPost_ret (v := .agg #[.int .i64 x.op, .int .i64 x.num, .slice a5 x.kids.length c5]) (by simp [results, Tryd.results45, go_sem, y0, y1, y2]) rfl (X3.out.post R3.out T3.out (by omega))
    · go_wp2_with fail
      refine (nodesOf_any (G := w1.heap.size :: List.range (w.heap.size + 2)) x _ _ ⟨_, _, rfl, R2.out⟩).mono ?_
      rintro e w3 ⟨rfl, hk3⟩
      have X3 := Lib.hid (X2.out.keep0 hk3)
      have B3 := Lib.hid (BX.out.keep0 hk3)
      have s3 := hk3.size
      clear z0 z1 z2 f0 f1 f2 q2 r2 hk3
      obtain ⟨a5, c5, ⟨z0, z1, z2⟩, ⟨f0, f1, f2⟩, rr⟩ := B3.out.cells
      obtain ⟨⟨y0, y1, y2⟩, g0, g1, g2⟩ := X3.out.out
      have R3 := Lib.hid (show Rep (List.range (w.heap.size + 2)) w3 (kidsD x.kids) (.slice a5 x.kids.length c5) from rr.tail)
      have T3 := Lib.hid (show FtT l (sgs fs) vars t x from ⟨TX.out.1, fun _ => nodes_ok.1 (by omega)⟩)
      clear rr
      go_wp2
      refine bodyPost_ret (v := .agg #[.int .i64 x.op, .int .i64 x.num, .slice a5 x.kids.length c5]) (by simp [results, Tryd.results45, go_sem, y0, y1, y2]) rfl (X3.out.post R3.out T3.out (by omega))
end Go.Proofs.YtnjincgemmgllaaDoor
