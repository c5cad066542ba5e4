/- The walk of the generator's literal: trees. -/
import Derived.Test.YtnjincgemmgllaaDoorGLit2
namespace Go.Proofs.YtnjincgemmgllaaDoor
open Go.RowKit
attribute [local go_sem ↓] Go.wp_at_zero Go.wp_at_succ

set_option maxRecDepth 100000 in
set_option maxHeartbeats 8000000 in
theorem literal_tree {B br : Nat} {w : World} (p : Nat) (hr : RdAt B w br p) (hB : B ≤ w.heap.size) {l : List Dc} (hl : GD l) (sg : List Sg) (hp : p + 20 ≤ 1125899906842624) :
    Calls Tryd.prog 59 #[.pointer (some ⟨br, 0, none⟩), .int .i64 3] w (GenK B w br p 20 (LtT l sg 3)) := by
  have X0 := Lib.hid (Lx.start hr hB)
  have hbl := X0.out.brlt
  have HL := Lib.hid hl
  have hbm : br ∈ List.range (w.heap.size + 1) := by simp; omega
  clear hr hl
  go_enter Tryd.func59, Tryd.ntmps59
  go_wp2_with fail
  refine (node_lx (Gb := List.range (w.heap.size + 1)) 6 0 _ [] X0.out (by repeat (first | exact Keep.refl _ _ | refine Keep.drew ?_ | refine Keep.alloc ?_ _ | fail)) (kids0 (by omega))).mono ?_
  rintro e w1 ⟨a1, c1, rfl, hX, hk, _, hr1⟩
  have X1 := Lib.hid hX
  have s1 := hX.size
  clear hX hk hr1
  go_wp2_with fail
  refine (node_lx (Gb := List.range (w.heap.size + 1)) 6 2 _ [] X1.out (by repeat (first | with_reducible exact Keep.refl _ _ | with_reducible refine Keep.drew ?_ | with_reducible refine Keep.alloc ?_ _ | fail)) (kids0 (by omega))).mono ?_
  rintro e w2 ⟨a2, c2, rfl, hX, hk, _, hr2⟩
  have hc2 := kids_cap hr2
  have s2 := hk.size
  have X2 := Lib.hid (hX.new (.cells #[.int .i64 6, .int .i64 2, .slice a2 0 c2] 55))
  have C2 := Lib.hid (show C3 (w2.alloc (.cells #[.int .i64 6, .int .i64 2, .slice a2 0 c2] 55)) w2.heap.size (.int .i64 6) (.int .i64 2) (.slice a2 0 c2) from (blk3 (heap_alloc_new w2 _)).1)
  clear hX hk hr2
  go_upto_region 4 with fail
  go_cut [7] (fun s7 wx => LCut B br w (p + 1) w2.heap.size a2 c2 s7 wx)
  case first =>
    go_region_held3 (fun w' => w'.cell? ⟨w2.heap.size, 0, none⟩ = some (.int .i64 6) ∧ w'.cell? ⟨w2.heap.size, 1, none⟩ = some (.int .i64 2) ∧ w'.cell? ⟨w2.heap.size, 2, none⟩ = some (.slice a2 0 c2))
      (first | (refine C3.keep0 C6.out ?_; (repeat (first | with_reducible exact Keep.refl _ _ | with_reducible refine Keep.drew ?_ | with_reducible refine Keep.alloc ?_ _ | fail)); done) | (refine C3.keep0 C5.out ?_; (repeat (first | with_reducible exact Keep.refl _ _ | with_reducible refine Keep.drew ?_ | with_reducible refine Keep.alloc ?_ _ | fail)); done) | (refine C3.keep0 C4.out ?_; (repeat (first | with_reducible exact Keep.refl _ _ | with_reducible refine Keep.drew ?_ | with_reducible refine Keep.alloc ?_ _ | fail)); done) | (refine C3.keep0 C2.out ?_; (repeat (first | with_reducible exact Keep.refl _ _ | with_reducible refine Keep.drew ?_ | with_reducible refine Keep.alloc ?_ _ | fail)); done) | (refine C3.put C6.out ?_ _ _ _; omega) | go_keep)
      (first
      | (go_at_call 40
         have hq := X4.out
         clear hq
         refine (integer_lx k4 X4.out (by repeat (first | with_reducible exact Keep.refl _ _ | with_reducible refine Keep.drew ?_ | with_reducible refine Keep.alloc ?_ _ | fail))).mono ?_
         rintro e w5 ⟨a5, c5, rfl, hX, hk, hk', hc5⟩
         have X5 := Lib.hid hX
         have s5 := hk.size
         have C5 := Lib.hid (C4.out.keep0 hk)
         first
         | (have ZC := Lib.hid (ZB.out.keep0 hk))
         | (refine cut (A := Hid (Bx [] w5 w4.heap.size (.mk 0 0 []))) ?_ ?_
            · refine Lib.hid (Bx.keep0 ?_ hk')
              (repeat (first | with_reducible refine Bx.drew ?_ | ((with_reducible refine Bx.zeroAt _ ?_) <;> (first | (simp; done) | fail)) | with_reducible refine Bx.alloc ?_ _ | fail))
            intro ZC)
         | skip
         first
         | (have zl := ZC.out.lt)
         | skip
         clear hX hk hk')
      | (go_at_call 25
         refine (pick_lx 9 X2.out (by repeat (first | with_reducible exact Keep.refl _ _ | with_reducible refine Keep.drew ?_ | with_reducible refine Keep.alloc ?_ _ | fail)) (by omega) (by omega)).mono ?_
         rintro e w4 ⟨k4, rfl, k4a, k4b, hX, hk, hk'⟩
         have k4c := k4b (by omega)
         have X4 := Lib.hid hX
         have s4 := hk.size
         simp at s4
         have C4 := Lib.hid (C2.out.keepM hk (by simp; omega))
         first
         | (refine cut (A := Hid (Bx [] w4 (w2.heap.size + 1) (.mk 0 0 []))) ?_ ?_
            · refine Lib.hid (Bx.sub (Bx.keep (Gb := [br]) ?_ hk' (fun m hm => .inl hm) (by simp; omega)) (fun g hg => by cases hg))
              (repeat (first | with_reducible refine Bx.drew ?_ | ((with_reducible refine Bx.zeroAt _ ?_) <;> (first | (simp; done) | fail)) | with_reducible refine Bx.alloc ?_ _ | fail))
            intro ZB)
         | skip
         clear hX hk hk' k4b)
      | (go_at_call 58
         have hq := X5.out
         clear hq
         refine (node_ex 6 3 _ 3 3 _).mono ?_
         rintro e w6 ⟨rfl, hk'⟩
         have X6 := Lib.hid (X5.out.keep0 (Keep.then0 (by repeat (first | with_reducible exact Keep.refl _ _ | with_reducible refine Keep.drew ?_ | with_reducible refine Keep.alloc ?_ _ | fail)) hk'))
         have C6 := Lib.hid (C5.out.keep0 (Keep.then0 (by repeat (first | with_reducible exact Keep.refl _ _ | with_reducible refine Keep.drew ?_ | with_reducible refine Keep.alloc ?_ _ | fail)) hk'))
         have s6 := hk'.size
         simp at s6
         first
         | (refine cut (A := Hid (Rep (List.range (w.heap.size + 1)) w6 (kidsD [.mk 6 2 [], .mk 0 k4 [], .mk 6 2 []]) (.slice (some ⟨w5.heap.size, 0, none⟩) 3 3))) ?_ ?_
            · refine Lib.hid (Rep.keep0 ?_ hk')
              (repeat (first | with_reducible refine Rep.drew ?_ | ((with_reducible refine lit3At ?_ ?_ ?_ ?_) <;> (first | (simp; done) | omega | (intro g hg; simp at hg; (try simp); omega) | fail)) | with_reducible refine Rep.alloc ?_ _ | fail))
            intro RS)
         | (refine cut (A := Hid (Rep (List.range (w.heap.size + 1)) w6 (kidsD [.mk 6 2 [], .mk 0 k4 [], .mk 6 2 []]) (.slice (some ⟨w5.heap.size + 1, 0, none⟩) 3 3))) ?_ ?_
            · refine Lib.hid (Rep.keep0 ?_ hk')
              (repeat (first | with_reducible refine Rep.drew ?_ | ((with_reducible refine lit3At ?_ ?_ ?_ ?_) <;> (first | (simp; done) | omega | (intro g hg; simp at hg; (try simp); omega) | fail)) | with_reducible refine Rep.alloc ?_ _ | fail))
            intro RS)
         first
         | (have ZD := Lib.hid (ZC.out.keep0 (Keep.then0 (by repeat (first | with_reducible exact Keep.refl _ _ | with_reducible refine Keep.drew ?_ | with_reducible refine Keep.alloc ?_ _ | fail)) hk')))
         | (refine cut (A := Hid (Bx [] w6 w5.heap.size (.mk 0 0 []))) ?_ ?_
            · refine Lib.hid (Bx.keep0 ?_ hk')
              (repeat (first | with_reducible refine Bx.drew ?_ | ((with_reducible refine Bx.zeroAt _ ?_) <;> (first | (simp; done) | fail)) | with_reducible refine Bx.alloc ?_ _ | fail))
            intro ZD)
         | (refine cut (A := Hid (Bx [] w6 (w5.heap.size + 1) (.mk 0 0 []))) ?_ ?_
            · refine Lib.hid (Bx.keep0 ?_ hk')
              (repeat (first | with_reducible refine Bx.drew ?_ | ((with_reducible refine Bx.zeroAt _ ?_) <;> (first | (simp; done) | fail)) | with_reducible refine Bx.alloc ?_ _ | fail))
            intro ZD)
         | skip
         first
         | (obtain ⟨_, _, ⟨y0, y1, y2⟩, ⟨g0, g1, g2⟩, _⟩ := ZD.out.cells)
         | skip
         clear hk'))
    all_goals
      go_wp2_with fail
      go_meet
      first
      | exact LCut.ofPut k4a (by omega) X6.out C6.out ZD.out RS.out (by omega) (by omega) (by omega)
      | exact LCut.ofNew k4a (by omega) X6.out C6.out RS.out (by omega)
  case rest =>
    obtain ⟨K, k, rfl, k0, k9, hX, hCN, hB3, hK3⟩ := hcut
    have X3 := Lib.hid hX
    have CN := Lib.hid hCN
    obtain ⟨n0, n1, n2⟩ := hCN
    obtain ⟨a3, c3, ⟨z0, z1, z2⟩, _, rr⟩ := hB3.cells
    have CK := Lib.hid (show C3 _ K _ _ _ from ⟨z0, z1, z2⟩)
    have R3 := Lib.hid rr
    have hKl := hB3.lt
    clear hX hB3 rr
    go_wp2
    go_region_held3 (fun w' => w'.cell? ⟨K, 0, none⟩ = some (.int .i64 6) ∧ w'.cell? ⟨K, 1, none⟩ = some (.int .i64 3) ∧ w'.cell? ⟨K, 2, none⟩ = some (.slice a3 3 c3) ∧ w'.cell? ⟨w2.heap.size, 0, none⟩ = some (.int .i64 6) ∧ w'.cell? ⟨w2.heap.size, 1, none⟩ = some (.int .i64 2) ∧ w'.cell? ⟨w2.heap.size, 2, none⟩ = some (.slice a2 0 c2))
      (first | (refine C3.two (C3.keep0 CK.out ?_) (C3.keep0 CN.out ?_) <;> ((repeat (first | with_reducible exact Keep.refl _ _ | with_reducible refine Keep.drew ?_ | with_reducible refine Keep.alloc ?_ _ | fail)); done)) | (refine C3.two (C3.keep0 CK4.out ?_) (C3.keep0 CN4.out ?_) <;> ((repeat (first | with_reducible exact Keep.refl _ _ | with_reducible refine Keep.drew ?_ | with_reducible refine Keep.alloc ?_ _ | fail)); done)) | (refine C3.two (C3.keep0 CK5.out ?_) (C3.keep0 CN5.out ?_) <;> ((repeat (first | with_reducible exact Keep.refl _ _ | with_reducible refine Keep.drew ?_ | with_reducible refine Keep.alloc ?_ _ | fail)); done)) | (refine C3.two (C3.keep0 CK6.out ?_) (C3.keep0 CN6.out ?_) <;> ((repeat (first | with_reducible exact Keep.refl _ _ | with_reducible refine Keep.drew ?_ | with_reducible refine Keep.alloc ?_ _ | fail)); done)) | (refine C3.two (C3.put CK6.out ?_ _ _ _) (C3.put CN6.out ?_ _ _ _) <;> omega) | go_keep)
      (first
      | (go_at_call 58
         have hq := X5.out
         clear hq
         refine (node_lx (Gb := List.range (w.heap.size + 1)) 6 3 _ [.mk 6 3 [.mk 6 2 [], .mk 0 k [], .mk 6 2 []], .mk 0 k4 [], .mk 6 2 []] X5.out (by repeat (first | with_reducible exact Keep.refl _ _ | with_reducible refine Keep.drew ?_ | with_reducible refine Keep.alloc ?_ _ | fail)) (by exact (Rep.keep0 (kids_new3 (x := .mk 6 3 [.mk 6 2 [], .mk 0 k [], .mk 6 2 []]) (y := .mk 0 k4 []) (z := .mk 6 2 []) R5.out (kids0 hc5) (kids0 hc2) (fun g hg => by simp at hg; omega)) (by repeat (first | exact Keep.refl _ _ | refine Keep.drew ?_ | refine Keep.alloc ?_ _ | fail))))).mono ?_
         rintro e w6 ⟨a6, c6, rfl, hX, hk, hk', hr6⟩
         have X6 := Lib.hid hX
         have R6 := Lib.hid hr6
         have CK6 := Lib.hid (CK5.out.keep0 hk)
         have CN6 := Lib.hid (CN5.out.keep0 hk)
         obtain ⟨⟨y0, y1, y2⟩, g0, g1, g2⟩ := hX.out
         clear hX hk hk' hr6)
      | (go_at_call 40
         have hq := X4.out
         clear hq
         refine (integer_lx k4 X4.out (by repeat (first | with_reducible exact Keep.refl _ _ | with_reducible refine Keep.drew ?_ | with_reducible refine Keep.alloc ?_ _ | fail))).mono ?_
         rintro e w5 ⟨a5, c5, rfl, hX, hk, hk', hc5⟩
         have X5 := Lib.hid hX
         have s5 := hk.size
         have CK5 := Lib.hid (CK4.out.keep0 hk)
         have CN5 := Lib.hid (CN4.out.keep0 hk)
         have R5 := Lib.hid (R4.out.keep0 hk)
         clear hX hk hk')
      | (go_at_call 25
         refine (pick_lx 9 X3.out (by repeat (first | with_reducible exact Keep.refl _ _ | with_reducible refine Keep.drew ?_ | with_reducible refine Keep.alloc ?_ _ | fail)) (by omega) (by omega)).mono ?_
         rintro e w4 ⟨k4, rfl, k4a, k4b, hX, hk, hk'⟩
         have k4c := k4b (by omega)
         have X4 := Lib.hid hX
         have s4 := hk.size
         have CK4 := Lib.hid (CK.out.keepM hk (by simp; omega))
         have CN4 := Lib.hid (CN.out.keepM hk (by simp; omega))
         have R4 := Lib.hid (R3.out.keep hk (fun m hm => by simp at hm; subst hm; exact .inl hbm))
         clear hX hk hk' k4b))
    all_goals
      go_wp2
      refine bodyPost_ret (v := .agg #[.int .i64 6, .int .i64 3, .slice a6 3 c6]) (by simp [results, Tryd.results59, go_sem, y0, y1, y2]) rfl (X6.out.post (x := .mk 6 3 [.mk 6 3 [.mk 6 2 [], .mk 0 k [], .mk 6 2 []], .mk 0 k4 [], .mk 6 2 []]) R6.out (fun vars => ty_tree HL.out (ty_tree HL.out (lt_none HL.out sg vars) (.int (by omega) (by omega)) (lt_none HL.out sg vars)) (.int (by omega) (by omega)) (lt_none HL.out sg vars)) (by omega))
end Go.Proofs.YtnjincgemmgllaaDoor
