/- The walk of the generator's mainBody. -/
import Derived.Test.YtnjincgemmgllaaDoorGLit3
namespace Go.Proofs.YtnjincgemmgllaaDoor
open Go.RowKit
attribute [local go_sem ↓] Go.wp_at_zero Go.wp_at_succ

theorem literal_sx {G : List Nat} {B br : Nat} {l : List Dc} {fs : List Fn} {da : Option Addr} {dc : Nat} {fa : Option Addr} {fc : Nat} {w W W' : World} {p : Nat} (hl : GD l) (t : Int) (ht : t = 1 ∨ t = 3) (X : Sx G B br l fs da dc fa fc w W p) (hk : Keep [] W W') (hp : p + 20 ≤ 1125899906842624) :
    Calls Tryd.prog 59 #[.pointer (some ⟨br, 0, none⟩), .int .i64 t] W' (GX G B br l fs da dc fa fc w W W' p 20 (LtT l (sgs fs) t)) := by
  have hB : B ≤ W'.heap.size := by have := (X.keep0 hk).size; have := X.hB; omega
  rcases ht with rfl | rfl
  · exact (literal_one p (X.keep0 hk).rd hB hl (sgs fs) hp).mono fun _ _ h => GX.of X hk h
  · exact (literal_tree p (X.keep0 hk).rd hB hl (sgs fs) hp).mono fun _ _ h => GX.of X hk h
theorem cst16 : cst 16 = 429496729600 := by decide
set_option maxRecDepth 100000 in
set_option maxHeartbeats 8000000 in
theorem mainBody_any {G : List Nat} {B br : Nat} {l : List Dc} {fs : List Fn} {dv fv : Value} {w : World} (hx : Cx G B br l fs dv fv w) (p : Nat) (hr : RdAt B w br p) (hl : GD l) (hs : GS l (sgs fs)) (hp : p + 429496729630 ≤ 1125899906842624) :
    Calls Tryd.prog 41 #[.pointer (some ⟨br, 0, none⟩), .agg #[dv, fv]] w (GenK B w br p 429496729630 (fun x => HasTy l (sgs fs) [] x 0)) := by
  have hn4 : fs.length ≤ 4 := by have := hs.len; rw [sgs_len] at this; omega
  have hn1 : 1 ≤ fs.length := by have := hs.len; rw [sgs_len] at this; omega
  obtain ⟨da, dc, fa, fc, rfl, rfl⟩ := hx.forms
  have X0 := Lib.hid (Sx.start hx hr)
  have hfb := hl.bound
  have HL := Lib.hid hl
  have HS := Lib.hid hs
  have hbr : br ∈ G := hx.hbr
  have hbl := X0.out.brlt
  have GA := Lib.hid (gen_all hl hs 16 (by omega) (by omega))
  have HC := Lib.hid (canB_flat (l := l) (sg := sgs fs) (t := 0))
  have HB0 := Lib.hid (base_can (sg := sgs fs) hl (u := 0))
  have hbm2 : br ∈ List.range (w.heap.size + 2) := by simp; omega
  have HBR := Lib.hid (fun g (hg : g ∈ [br]) => show g < w.heap.size by simp at hg; omega)
  clear hx hr hl hs
  go_enter Tryd.func41, Tryd.ntmps41
  go_wp2_with fail
  refine (one_sx (G' := [br]) _ [1, 1, 3] X0.out (by repeat (first | exact Keep.refl _ _ | refine Keep.drew ?_ | refine Keep.alloc ?_ _ | fail)) (by omega) (by simp) (by (repeat (first | with_reducible refine Rep.drew ?_ | ((refine ints_newAt [1, 1, 3] ?_ ?_ (by simp)) <;> (first | (simp; done) | (intro g hg; have := HBR.out g hg; (try simp); omega) | fail)) | with_reducible refine Rep.alloc ?_ _ | fail))) (by simp) (by simp)).mono ?_
  rintro e w1 ⟨t1, rfl, ht, hX, hk, _⟩
  have ht1 : t1 = 1 ∨ t1 = 3 := by simp at ht; omega
  have s1 := hX.size
  obtain ⟨q1, r1⟩ := hX.cells
  have X1 := Lib.hid (hX.new (.cells #[.int .i64 t1] 3))
  have V1 := Lib.hid (show Rep G (w1.alloc (.cells #[.int .i64 t1] 3)) (ints [t1]) (.slice (some ⟨w1.heap.size, 0, none⟩) 1 1) from ints_new [t1] hX.cx.hG (by simp))
  clear hX hk ht
  go_wp2_with fail
  refine (gen_sx GA.out _ [t1] 0 X1.out (by repeat (first | with_reducible exact Keep.refl _ _ | with_reducible refine Keep.drew ?_ | with_reducible refine Keep.alloc ?_ _ | exact Keep.refl _ _ | fail)) V1.out (by simp) (by omega) (by omega) (HB0.out [t1] (.inl rfl)).2.2 (by rw [show (16 : Int).toNat = 16 from rfl, cst16]; omega)).mono ?_
  rintro e w2 ⟨x, p2, a2, c2, rfl, hx, hX, hk, _, hp2, hr2⟩
  rw [show (16 : Int).toNat = 16 from rfl, cst16] at hp2
  have s2 := hX.size
  have TX := Lib.hid (show HasTy l (sgs fs) ([] ++ [t1]) x 0 from hx.1)
  have R2 := Lib.hid (show Rep (List.range (w.heap.size + 2)) w2 (kidsD x.kids) (.slice a2 x.kids.length c2) from hr2.sub (range_sub (by simp; omega)))
  have B2 := Lib.hid (Bx.new R2.out)
  have X2 := Lib.hid (hX.new (.cells #[.int .i64 x.op, .int .i64 x.num, .slice a2 x.kids.length c2] 55))
  have hbm : br ∈ w2.heap.size :: List.range (w.heap.size + 2) := by simp; omega
  clear hX hk hr2 hx q1 r1
  go_wp2_with fail
  refine (pick_sx 3 X2.out (by repeat (first | with_reducible exact Keep.refl _ _ | with_reducible refine Keep.drew ?_ | with_reducible refine Keep.alloc ?_ _ | exact Keep.refl _ _ | fail)) (by omega) (by omega)).mono ?_
  rintro e w3 ⟨k3, rfl, k3a, k3b, hX, hk⟩
  have B3 := Lib.hid (B2.out.call X2.out hk hbm (by omega))
  have X3 := Lib.hid hX
  have s3 := hk.size
  simp at s3
  obtain ⟨a3, c3, ⟨z0, z1, z2⟩, ⟨f0, f1, f2⟩, rr⟩ := B3.out.cells
  have R3 := Lib.hid rr
  clear hX hk k3b rr
  by_cases hk3 : k3 = 0
  · subst hk3
    go_wp2_with fail
    refine (node_ex 5 0 _ 1 1 _).mono ?_
    rintro e w4 ⟨rfl, hk'⟩
    have X4 := Lib.hid (X3.out.keep0 (Keep.then0 (by repeat (first | with_reducible exact Keep.refl _ _ | with_reducible refine Keep.drew ?_ | with_reducible refine Keep.alloc ?_ _ | exact Keep.refl _ _ | fail)) hk'))
    have B4 := Lib.hid (B3.out.keep0 (Keep.then0 (by repeat (first | with_reducible exact Keep.refl _ _ | with_reducible refine Keep.drew ?_ | with_reducible refine Keep.alloc ?_ _ | exact Keep.refl _ _ | fail)) hk'))
    have R4 := Lib.hid (Rep.keep0 (kids_new1 R3.out (fun g hg => by simp at hg; omega)) hk')
    have s4 := hk'.size
    simp at s4
    clear z0 z1 z2 f0 f1 f2 hk'
    obtain ⟨a4, c4, ⟨z0, z1, z2⟩, ⟨f0, f1, f2⟩, _⟩ := B4.out.cells
    have XS := Lib.hid (X4.out.set (j := w2.heap.size) (by omega) (.int .i64 5) (.int .i64 0) (.slice (some ⟨w3.heap.size, 0, none⟩) 1 1))
    have BS := Lib.hid (B4.out.set (x := .mk 5 0 [x]) (by simp) R4.out)
    have RXS := Lib.hid (show Rep (List.range (w.heap.size + 2)) _ (kidsD [x]) (.slice (some ⟨w3.heap.size, 0, none⟩) 1 1) from (R4.out.other_set (j := w2.heap.size) (by simp) (.int .i64 5) (.int .i64 0) (.slice (some ⟨w3.heap.size, 0, none⟩) 1 1)).tail)
    have TXX := Lib.hid (show HasTy l (sgs fs) ([] ++ [t1]) (.mk 5 0 [x]) 0 from .print TX.out)
    have CK := Lib.hid (show C3 (put3 w4 w2.heap.size (.int .i64 5) (.int .i64 0) (.slice (some ⟨w3.heap.size, 0, none⟩) 1 1)) w2.heap.size (.int .i64 5) (.int .i64 0) (.slice (some ⟨w3.heap.size, 0, none⟩) 1 1) from by obtain ⟨a, c, h1, _⟩ := B4.out.ex; exact (blk3 (put3_block h1)).1)
    go_wp2
    go_region_held3 (fun w' => w'.cell? ⟨w2.heap.size, 0, none⟩ = some (.int .i64 5) ∧ w'.cell? ⟨w2.heap.size, 1, none⟩ = some (.int .i64 0) ∧ w'.cell? ⟨w2.heap.size, 2, none⟩ = some (.slice (some ⟨w3.heap.size, 0, none⟩) 1 1))
      (first | (refine C3.keep0 CK.out ?_; (repeat (first | with_reducible exact Keep.refl _ _ | with_reducible refine Keep.drew ?_ | with_reducible refine Keep.alloc ?_ _ | exact Keep.refl _ _ | fail)); done) | (refine C3.keep0 CK6.out ?_; (repeat (first | with_reducible exact Keep.refl _ _ | with_reducible refine Keep.drew ?_ | with_reducible refine Keep.alloc ?_ _ | exact Keep.refl _ _ | fail)); done) | (refine C3.keep0 CK7.out ?_; (repeat (first | with_reducible exact Keep.refl _ _ | with_reducible refine Keep.drew ?_ | with_reducible refine Keep.alloc ?_ _ | exact Keep.refl _ _ | fail)); done) | (refine C3.put CK7.out ?_ _ _ _; omega) | go_keep)
      (first
      | (go_at_call 58
         have hq := X6.out
         clear hq
         refine (node_sx 13 0 _ [y, .mk 5 0 [x]] X6.out (by repeat (first | with_reducible exact Keep.refl _ _ | with_reducible refine Keep.drew ?_ | with_reducible refine Keep.alloc ?_ _ | exact Keep.refl _ _ | fail)) (by exact (Rep.keep0 (kids_new2 RY.out (y := .mk 5 0 [x]) RX6.out (fun g hg => by simp at hg; omega)) (by repeat (first | exact Keep.refl _ _ | refine Keep.drew ?_ | refine Keep.alloc ?_ _ | fail))))).mono ?_
         rintro e w99 ⟨a99, cap99, rfl, hX, hk, hv99⟩
         have X99 := Lib.hid hX
         have V99 := Lib.hid hv99
         have CK7 := Lib.hid (CK6.out.keep0 hk)
         obtain ⟨⟨y0, y1, y2⟩, g0, g1, g2⟩ := hX.out
         clear hX hk hv99)
      | (go_at_call 59
         refine (literal_sx HL.out t1 (by omega) XS.out (by repeat (first | with_reducible exact Keep.refl _ _ | with_reducible refine Keep.drew ?_ | with_reducible refine Keep.alloc ?_ _ | exact Keep.refl _ _ | fail)) (by omega)).mono ?_
         rintro e w6 ⟨y, p6, ay, cy, rfl, hy, hX, hk, _, hp6, hr6⟩
         have hKs := BS.out.lt
         have X6 := Lib.hid hX
         have TY := Lib.hid (hy [])
         have s6 := hk.size
         have CK6 := Lib.hid (CK.out.keepM hk (by simp; omega))
         have RY := Lib.hid (hr6.sub (G' := List.range (w.heap.size + 2)) (range_sub XS.out.size))
         have s6b := hX.size
         have RX6 := Lib.hid (RXS.out.keep hk (XS.out.rmem (by omega)))
         clear hX hk hy hr6))
    all_goals
      go_wp2
      refine bodyPost_ret (v := .agg #[.int .i64 13, .int .i64 0, .slice a99 2 cap99]) (by simp [results, Tryd.results41, go_sem, y0, y1, y2]) rfl (X99.out.post (x := .mk 13 0 [y, .mk 5 0 [x]]) V99.out (HasTy.lett (by omega) TY.out TXX.out) (by omega))
  · have hk3b : (k3 == 0) = false := by simpa using hk3
    have XS := X3
    have BS := B3
    have RXS := Lib.hid (show Rep (List.range (w.heap.size + 2)) w3 (kidsD x.kids) (.slice a3 x.kids.length c3) from R3.out.tail)
    have TXX := TX
    have CK := Lib.hid (show C3 _ _ _ _ _ from ⟨z0, z1, z2⟩)
    go_wp2
    go_region_held3 (fun w' => w'.cell? ⟨w2.heap.size, 0, none⟩ = some (.int .i64 x.op) ∧ w'.cell? ⟨w2.heap.size, 1, none⟩ = some (.int .i64 x.num) ∧ w'.cell? ⟨w2.heap.size, 2, none⟩ = some (.slice a3 x.kids.length c3))
      (first | (refine C3.keep0 CK.out ?_; (repeat (first | with_reducible exact Keep.refl _ _ | with_reducible refine Keep.drew ?_ | with_reducible refine Keep.alloc ?_ _ | exact Keep.refl _ _ | fail)); done) | (refine C3.keep0 CK6.out ?_; (repeat (first | with_reducible exact Keep.refl _ _ | with_reducible refine Keep.drew ?_ | with_reducible refine Keep.alloc ?_ _ | exact Keep.refl _ _ | fail)); done) | (refine C3.keep0 CK7.out ?_; (repeat (first | with_reducible exact Keep.refl _ _ | with_reducible refine Keep.drew ?_ | with_reducible refine Keep.alloc ?_ _ | exact Keep.refl _ _ | fail)); done) | (refine C3.put CK7.out ?_ _ _ _; omega) | go_keep)
      (first
      | (go_at_call 58
         have hq := X6.out
         clear hq
         refine (node_sx 13 0 _ [y, x] X6.out (by repeat (first | with_reducible exact Keep.refl _ _ | with_reducible refine Keep.drew ?_ | with_reducible refine Keep.alloc ?_ _ | exact Keep.refl _ _ | fail)) (by exact (Rep.keep0 (kids_new2 RY.out  RX6.out (fun g hg => by simp at hg; omega)) (by repeat (first | exact Keep.refl _ _ | refine Keep.drew ?_ | refine Keep.alloc ?_ _ | fail))))).mono ?_
         rintro e w99 ⟨a99, cap99, rfl, hX, hk, hv99⟩
         have X99 := Lib.hid hX
         have V99 := Lib.hid hv99
         have CK7 := Lib.hid (CK6.out.keep0 hk)
         obtain ⟨⟨y0, y1, y2⟩, g0, g1, g2⟩ := hX.out
         clear hX hk hv99)
      | (go_at_call 59
         refine (literal_sx HL.out t1 (by omega) XS.out (by repeat (first | with_reducible exact Keep.refl _ _ | with_reducible refine Keep.drew ?_ | with_reducible refine Keep.alloc ?_ _ | exact Keep.refl _ _ | fail)) (by omega)).mono ?_
         rintro e w6 ⟨y, p6, ay, cy, rfl, hy, hX, hk, _, hp6, hr6⟩
         have hKs := BS.out.lt
         have X6 := Lib.hid hX
         have TY := Lib.hid (hy [])
         have s6 := hk.size
         have CK6 := Lib.hid (CK.out.keepM hk (by simp; omega))
         have RY := Lib.hid (hr6.sub (G' := List.range (w.heap.size + 2)) (range_sub XS.out.size))
         have s6b := hX.size
         have RX6 := Lib.hid (RXS.out.keep hk (XS.out.rmem (by omega)))
         clear hX hk hy hr6))
    all_goals
      go_wp2
      refine bodyPost_ret (v := .agg #[.int .i64 13, .int .i64 0, .slice a99 2 cap99]) (by simp [results, Tryd.results41, go_sem, y0, y1, y2]) rfl (X99.out.post (x := .mk 13 0 [y, x]) V99.out (HasTy.lett (by omega) TY.out TXX.out) (by omega))
end Go.Proofs.YtnjincgemmgllaaDoor
