/- The walk of the generator's literal. -/
import Derived.Test.YtnjincgemmgllaaDoorGLit
namespace Go.Proofs.YtnjincgemmgllaaDoor
open Go.RowKit
attribute [local go_sem ↓] Go.wp_at_zero Go.wp_at_succ

theorem kids_new3At {G : List Nat} {w : World} {n : Nat} (hn : n = w.heap.size) {x y z : Ex} {ax ay az : Option Addr} {cx cy cz : Nat} {E : TypeId} (h1 : Rep G w (kidsD x.kids) (.slice ax x.kids.length cx)) (h2 : Rep G w (kidsD y.kids) (.slice ay y.kids.length cy)) (h3 : Rep G w (kidsD z.kids) (.slice az z.kids.length cz)) (hG : ∀ g, g ∈ G → g < w.heap.size) :
    Rep G (w.alloc (.cells #[.int .i64 x.op, .int .i64 x.num, .slice ax x.kids.length cx, .int .i64 y.op, .int .i64 y.num, .slice ay y.kids.length cy, .int .i64 z.op, .int .i64 z.num, .slice az z.kids.length cz] E)) (kidsD [x, y, z]) (.slice (some ⟨n, 0, none⟩) 3 3) := by subst hn; exact kids_new3 h1 h2 h3 hG
theorem lit3At {G : List Nat} {w : World} {n : Nat} (hn : n = w.heap.size) {k : Int} {a2 a5 : Option Addr} {c2 c5 : Nat} {E : TypeId} (h2 : c2 ≤ 9223372036854775807) (h5 : c5 ≤ 9223372036854775807) (hG : ∀ g, g ∈ G → g < w.heap.size) :
    Rep G (w.alloc (.cells #[.int .i64 6, .int .i64 2, .slice a2 0 c2, .int .i64 0, .int .i64 k, .slice a5 0 c5, .int .i64 6, .int .i64 2, .slice a2 0 c2] E)) (kidsD [.mk 6 2 [], .mk 0 k [], .mk 6 2 []]) (.slice (some ⟨n, 0, none⟩) 3 3) :=
  kids_new3At hn (x := .mk 6 2 []) (y := .mk 0 k []) (z := .mk 6 2 []) (kids0 h2) (kids0 h5) (kids0 h2) hG
theorem Bx.zeroAt {Gb : List Nat} (W : World) {n : Nat} (hn : n = W.heap.size) : Bx Gb (W.alloc (.cells #[.int .i64 0, .int .i64 0, .slice none 0 0] 55)) n (.mk 0 0 []) := by
  subst hn; exact ⟨none, 0, heap_alloc_new W _, Rep.nil _ _ _ _ _ (by omega)⟩
theorem Bx.drew {Gb : List Nat} {W : World} {k : Nat} {x : Ex} (h : Bx Gb W k x) : Bx Gb W.drew k x := h.keep0 (Keep.refl _ _).drew
theorem Bx.alloc {Gb : List Nat} {W : World} {k : Nat} {x : Ex} (h : Bx Gb W k x) (o : Obj) : Bx Gb (W.alloc o) k x := h.keep0 ((Keep.refl _ _).alloc o)
theorem Bx.storeLeaf {G : List Nat} {W : World} {K sb cap : Nat} {z x : Ex} (hz : Bx [] W K z) (h : Rep G W (kidsD x.kids) (.slice (some ⟨sb, 0, none⟩) x.kids.length cap)) (hl : ∀ y ∈ x.kids, y.kids = []) (hK : K ≠ sb) : Bx G (put3 W K (.int .i64 x.op) (.int .i64 x.num) (.slice (some ⟨sb, 0, none⟩) x.kids.length cap)) K x := by
  obtain ⟨a', cap', h1, _⟩ := hz.ex
  exact ⟨_, cap, put3_block h1, ((leaf_avoid h hl hK).keep (Keep.put3' W K _ _ _) (fun m hm => by simp at hm; subst hm; exact .inl (by simp))).tail⟩
def LCut (B br : Nat) (w : World) (p N : Nat) (a2 : Option Addr) (c2 : Nat) (s7 : Value) (wx : World) : Prop :=
  ∃ (K : Nat) (k : Int), s7 = .pointer (some ⟨K, 0, none⟩) ∧ 0 ≤ k ∧ k ≤ 9 ∧ Lx B br w wx p ∧ C3 wx N (.int .i64 6) (.int .i64 2) (.slice a2 0 c2) ∧ Bx (List.range (w.heap.size + 1)) wx K (.mk 6 3 [.mk 6 2 [], .mk 0 k [], .mk 6 2 []]) ∧ w.heap.size < K
theorem LCut.ofPut {B br : Nat} {w W : World} {p N : Nat} {a2 : Option Addr} {c2 K sb : Nat} {k : Int} {z : Ex} (h0 : 0 ≤ k) (h9 : k ≤ 9) (X : Lx B br w W p) (hC : C3 W N (.int .i64 6) (.int .i64 2) (.slice a2 0 c2)) (hz : Bx [] W K z) (hr : Rep (List.range (w.heap.size + 1)) W (kidsD [.mk 6 2 [], .mk 0 k [], .mk 6 2 []]) (.slice (some ⟨sb, 0, none⟩) 3 3)) (hK : K ≠ sb) (hN : N ≠ K) (hw : w.heap.size < K) :
    LCut B br w p N a2 c2 (.pointer (some ⟨K, 0, none⟩)) (put3 W K (.int .i64 6) (.int .i64 3) (.slice (some ⟨sb, 0, none⟩) 3 3)) :=
  ⟨K, k, rfl, h0, h9, X.set (by omega) _ _ _, hC.put hN _ _ _, hz.storeLeaf (x := .mk 6 3 [.mk 6 2 [], .mk 0 k [], .mk 6 2 []]) hr (fun y hy => by simp [Ex.kids] at hy; rcases hy with rfl | rfl | rfl <;> rfl) hK, hw⟩
theorem LCut.ofNew {B br : Nat} {w W : World} {p N : Nat} {a2 : Option Addr} {c2 sb : Nat} {k : Int} (h0 : 0 ≤ k) (h9 : k ≤ 9) (X : Lx B br w W p) (hC : C3 W N (.int .i64 6) (.int .i64 2) (.slice a2 0 c2)) (hr : Rep (List.range (w.heap.size + 1)) W (kidsD [.mk 6 2 [], .mk 0 k [], .mk 6 2 []]) (.slice (some ⟨sb, 0, none⟩) 3 3)) (hw : w.heap.size < W.heap.size) :
    LCut B br w p N a2 c2 (.pointer (some ⟨W.heap.size, 0, none⟩)) (W.alloc (.cells #[.int .i64 6, .int .i64 3, .slice (some ⟨sb, 0, none⟩) 3 3] 55)) :=
  ⟨W.heap.size, k, rfl, h0, h9, X.new _, hC.keep0 ((Keep.refl _ _).alloc _), (Bx.new (x := .mk 6 3 [.mk 6 2 [], .mk 0 k [], .mk 6 2 []]) hr).sub (fun g hg => .inl (by simp at hg ⊢; omega)), hw⟩

set_option maxRecDepth 100000 in
set_option maxHeartbeats 8000000 in
theorem literal_one {B br : Nat} {w : World} (p : Nat) (hr : RdAt B w br p) (hB : B ≤ w.heap.size) {l : List Dc} (hl : GD l) (sg : List Sg) (hp : p + 20 ≤ 1125899906842624) :
    Calls Tryd.prog 59 #[.pointer (some ⟨br, 0, none⟩), .int .i64 1] w (GenK B w br p 20 (LtT l sg 1)) := by
  have X0 := Lib.hid (Lx.start hr hB)
  have hbl := X0.out.brlt
  have HL := Lib.hid hl
  clear hr hl
  go_enter Tryd.func59, Tryd.ntmps59
  go_wp2_with fail
  refine (node_lx (Gb := List.range (w.heap.size + 1)) 6 0 _ [] X0.out (by repeat (first | exact Keep.refl _ _ | refine Keep.drew ?_ | refine Keep.alloc ?_ _ | fail)) (kids0 (by omega))).mono ?_
  rintro e w1 ⟨a1, c1, rfl, hX, hk, _, hr1⟩
  have X1 := Lib.hid hX
  have s1 := hX.size
  have R1 := Lib.hid hr1
  have hc1 := kids_cap hr1
  have BO := Bx.new (W := w1.alloc (.cells #[.int .i64 6, .int .i64 0, .slice a1 0 c1] 55)) (x := .mk 6 0 []) (R1.out.alloc _)
  rw [World.size_alloc] at BO
  have BO := Lib.hid BO
  clear hX hk hr1
  go_wp2_with fail
  refine (pick_lx 3 X1.out (by repeat (first | with_reducible exact Keep.refl _ _ | with_reducible refine Keep.drew ?_ | with_reducible refine Keep.alloc ?_ _ | fail)) (by omega) (by omega)).mono ?_
  rintro e w2 ⟨k2, rfl, k2a, k2b, hX, hk, hk'⟩
  have k2c := k2b (by omega)
  have hbm : br ∈ (w1.heap.size + 1) :: List.range (w.heap.size + 1) := by simp; omega
  have X2 := Lib.hid hX
  have s2 := hk'.size
  simp at s2
  have B2 := Lib.hid (BO.out.keep hk' (fun m hm => by simp at hm; subst hm; exact .inl hbm) (by simp; omega))
  clear hX hk hk' k2b
  go_wp2
  go_loopw [9] (fun s9 wr => ∃ (n : Int) (x : Ex) (p' : Nat), s9 = .int .i64 n ∧ 0 ≤ n ∧ n ≤ 3 ∧ Lx B br w wr p' ∧ Bx ((w1.heap.size + 1) :: List.range (w.heap.size + 1)) wr (w1.heap.size + 1) x ∧ LtT l sg 1 x ∧ p' + 4 * n.toNat ≤ p + 13 ∧ w1.heap.size + 1 < wr.heap.size) (fun s9 _ => (intOf s9).toNat)
  case atStart => exact ⟨1 + k2, .mk 6 0 [], p + 1, rfl, by omega, by omega, X2.out, B2.out, lt_nil HL.out sg, by omega, by omega⟩
  case round =>
    obtain ⟨n, x, p', rfl, n0, n3, hX, hBx, hx, hp', hsz⟩ := hrel
    have X3 := Lib.hid hX
    have B3 := Lib.hid hBx
    have TX := Lib.hid hx
    obtain ⟨a3, c3, ⟨z0, z1, z2⟩, ⟨f0, f1, f2⟩, rr⟩ := hBx.cells
    have R3 := Lib.hid rr
    have hne : w1.heap.size + 1 ≠ br := by omega
    clear hX hBx hx rr
    by_cases hn : 0 < n
    · go_wp2
      go_region_with (first
        | (go_at_call 58
           have hq := X5.out
           clear hq
           refine (node_lx (Gb := (w1.heap.size + 1) :: List.range (w.heap.size + 1)) 6 1 _ [.mk 0 k4 [], x] X5.out (by repeat (first | with_reducible exact Keep.refl _ _ | with_reducible refine Keep.drew ?_ | with_reducible refine Keep.alloc ?_ _ | fail)) (by exact (Rep.keep0 (kids_new2 (x := .mk 0 k4 []) (kids0 (by omega)) R5.out (fun g hg => by simp at hg; omega)) (by repeat (first | exact Keep.refl _ _ | refine Keep.drew ?_ | refine Keep.alloc ?_ _ | fail))))).mono ?_
           rintro e w6 ⟨a6, c6, rfl, hX, hk, hk', hr6⟩
           have X6 := Lib.hid hX
           have R6 := Lib.hid hr6
           have s6 := hk.size
           have B6 := Lib.hid (B5.out.keep0 hk)
           obtain ⟨_, _, ⟨y0, y1, y2⟩, ⟨g0, g1, g2⟩, _⟩ := B6.out.cells
           clear hX hk hk' hr6 z0 z1 z2 f0 f1 f2)
        | (go_at_call 40
           have hq := X4.out
           clear hq
           refine (integer_lx k4 X4.out (by repeat (first | with_reducible exact Keep.refl _ _ | with_reducible refine Keep.drew ?_ | with_reducible refine Keep.alloc ?_ _ | fail))).mono ?_
           rintro e w5 ⟨a5, c5, rfl, hX, hk, hk', hc5⟩
           have X5 := Lib.hid hX
           have s5 := hk.size
           have R5 := Lib.hid (R4.out.keep0 hk)
           have B5 := Lib.hid (B4.out.keep0 hk)
           have i0 := hk.cellEq j0 (by simp)
           have i1 := hk.cellEq j1 (by simp)
           have i2 := hk.cellEq j2 (by simp)
           clear hX hk hk')
        | (go_at_call 77
           refine (someInt_lx X3.out (by repeat (first | with_reducible exact Keep.refl _ _ | with_reducible refine Keep.drew ?_ | with_reducible refine Keep.alloc ?_ _ | fail)) (by omega)).mono ?_
           rintro e w4 ⟨k4, p4, rfl, k4a, k4b, hX, hk, hk', hp4⟩
           have X4 := Lib.hid hX
           have s4 := hk.size
           have R4 := Lib.hid (R3.out.keep hk (fun m hm => by simp at hm; subst hm; exact .inl hbm))
           have B4 := Lib.hid (B3.out.callL X3.out hk hbm (by omega))
           have j0 := hk.cellEq z0 (by simp; omega)
           have j1 := hk.cellEq z1 (by simp; omega)
           have j2 := hk.cellEq z2 (by simp; omega)
           clear hX hk hk'))
      all_goals
        go_wp2
        go_roundw
        case rel => exact ⟨n - 1, .mk 6 1 [.mk 0 k4 [], x], p4, rfl, by omega, by omega, X6.out.set (by omega) _ _ _, B6.out.set (x := .mk 6 1 [.mk 0 k4 [], x]) (by simp) R6.out, fun vars => ty_cons HL.out (.int k4a k4b) (TX.out vars), by omega, by simp; omega⟩
        case measure => simp [intOf]; omega
    · obtain ⟨⟨y0, y1, y2⟩, g0, g1, g2⟩ := X3.out.out
      have R4 := Lib.hid (show Rep (List.range (w.heap.size + 1)) wr (kidsD x.kids) (.slice a3 x.kids.length c3) from R3.out.tail)
      go_wp2
      refine bodyPost_ret (v := .agg #[.int .i64 x.op, .int .i64 x.num, .slice a3 x.kids.length c3]) (by simp [results, Tryd.results59, go_sem, y0, y1, y2]) rfl (X3.out.post R4.out TX.out (by omega))

end Go.Proofs.YtnjincgemmgllaaDoor
