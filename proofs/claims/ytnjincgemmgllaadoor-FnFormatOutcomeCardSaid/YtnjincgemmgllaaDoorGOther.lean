/- The walk of the generator's genOther, under the contract of gen at lesser budgets. -/
import Derived.Test.YtnjincgemmgllaaDoorGSx
import Derived.Deep.RegionHeld3
import Derived.Deep.DrawnRows
namespace Go.Proofs.YtnjincgemmgllaaDoor
open Go.RowKit
attribute [local go_sem ↓] Go.wp_at_zero Go.wp_at_succ

theorem Sx.cells3 {G : List Nat} {B br : Nat} {l : List Dc} {fs : List Fn} {b off dc : Nat} {fa : Option Addr} {fc : Nat} {w W : World} {p : Nat} (X : Sx G B br l fs (some ⟨b, off, none⟩) dc fa fc w W p) {i : Nat} (hi : i < l.length) :
    W.cell? ⟨w.heap.size, 0, none⟩ = some (.slice (some ⟨b, off, none⟩) l.length dc) ∧ W.cell? ⟨w.heap.size, 1, none⟩ = some (.slice fa fs.length fc) ∧ W.cell? ⟨b, off + i * 3, none⟩ = some (.int .i64 l[i].fr) :=
  ⟨X.cells.1, X.cells.2, (decls_cell X.cx.hd hi).1⟩
set_option maxRecDepth 100000 in
set_option maxHeartbeats 8000000 in
theorem genOther_any {G : List Nat} {B br : Nat} {l : List Dc} {fs : List Fn} {dv fv : Value} {w : World} (hx : Cx G B br l fs dv fv w) (p : Nat) (hr : RdAt B w br p) (vv : Value) (vars : List Int) (hv : Rep G w (ints vars) vv) (hl : GD l) (hs : GS l (sgs fs)) (t : Int) (t0 : 0 ≤ t) (t1 : t ≤ l.length) (hc : canB l (sgs fs) vars t = true) (b : Int) (b0 : 3 ≤ b) (b1 : b ≤ 1000) (hvb : vars.length + 3 * b.toNat ≤ 1000)
    (ih : ∀ b', 0 ≤ b' → b' < b → GenC l fs b') (hp : p + 60 + 3 * cst (b - 1).toNat ≤ 1125899906842624) :
    Calls Tryd.prog 76 #[.pointer (some ⟨br, 0, none⟩), .agg #[dv, fv], vv, .int .i64 t, .int .i64 b] w (GenK B w br p (60 + 3 * cst (b - 1).toNat) (fun x => HasTy l (sgs fs) vars x t)) := by
  have hn4 : fs.length ≤ 4 := by have := hs.len; rw [sgs_len] at this; omega
  have hn1 : 1 ≤ fs.length := by have := hs.len; rw [sgs_len] at this; omega
  obtain ⟨da, dc, fa, fc, rfl, rfl⟩ := hx.forms
  have X0 := Lib.hid (Sx.start hx hr)
  have hfb := hl.bound
  have HL := Lib.hid hl
  have HS := Lib.hid hs
  have hbr : br ∈ G := hx.hbr
  have hbl := X0.out.brlt
  obtain ⟨va, vc, rfl, _⟩ := ints_form hv
  have V0 := Lib.hid (show Rep G (bx w (.slice da l.length dc) (.slice fa fs.length fc)) (ints vars) (.slice va vars.length vc) from (hv.alloc _).alloc _)
  have IH := Lib.hid ih
  have HCB := Lib.hid hc
  have HD0 := Lib.hid hx.hd
  obtain ⟨C, hC⟩ : ∃ C, C = cst (b - 1).toNat := ⟨_, rfl⟩
  rw [← hC] at hp
  rw [← hC]
  have HCC := Lib.hid hC
  clear ih hc hC hx hr hv hl hs
  go_enter Tryd.func76, Tryd.ntmps76
  go_wp2_with fail
  refine (pick_sx 4 X0.out (by repeat (first | exact Keep.refl _ _ | refine Keep.drew ?_ | refine Keep.alloc ?_ _ | fail)) (by omega) (by omega)).mono ?_
  rintro e w1 ⟨k1, rfl, k1a, k1b, hX, hk⟩
  have k1c := k1b (by omega)
  clear k1b
  have X1 := Lib.hid hX
  have V1 := Lib.hid (V0.out.keep hk X0.out.mem)
  have s1 := hX.size
  have tz1 := hk.size
  obtain ⟨q1, r1⟩ := hX.cells
  clear hX hk
  by_cases hk1 : k1 = 0
  · skip
    subst hk1
    go_wp2
    go_loopw [11] (fun a' wr => ∃ i : Nat, i ≤ l.length ∧ a' = .int .i64 ((i : Int) + 1) ∧ Sx G B br l fs da dc fa fc w wr (p + 1) ∧ Keep [] w1 wr) (fun a' _ => l.length + 1 - (intOf a').toNat)
    case atStart => exact ⟨0, Nat.zero_le _, rfl, X1.out, Keep.refl _ _⟩
    case round =>
      obtain ⟨i, hi, rfl, hX, hk⟩ := hrel
      have HK1 := Lib.hid hk
      clear q1 r1
      have X2 := Lib.hid hX
      have V2 := Lib.hid (V1.out.keep0 hk)
      have s2 := hX.size
      have tz2 := hk.size
      obtain ⟨q2, r2⟩ := hX.cells
      clear hX hk
      have hl4 : l.length ≤ 4 := by have := HL.out.len; omega
      by_cases hil : i < l.length
      · skip
        obtain ⟨bd, od, _, _, rfl, hbd, _⟩ := decls_at HD0.out hil
        obtain ⟨cfr, cto⟩ := decls_cell X2.out.cx.hd hil
        have hti : (((i : Int) + 1) - 1).toNat = i := by omega
        have HTI := Lib.hid hti
        clear hti
        cases hia : isArr l ((i : Int) + 1)
        · skip
          go_wp2_with (first | (go_at_call 84; refine (isArrow_sx _ X2.out (by repeat (first | exact Keep.refl _ _ | refine Keep.drew ?_ | refine Keep.alloc ?_ _ | fail))).mono ?_; rintro e w' ⟨rfl, rfl⟩; rw [hia]))
          go_roundw
          case rel => exact ⟨i + 1, by omega, by go_num, X2.out, HK1.out⟩
          case measure => simp [intOf]; omega
        · skip
          cases hto : (l[i].to == t)
          · skip
            go_wp2_with (first | (go_at_call 84; refine (isArrow_sx _ X2.out (by repeat (first | exact Keep.refl _ _ | refine Keep.drew ?_ | refine Keep.alloc ?_ _ | fail))).mono ?_; rintro e w' ⟨rfl, rfl⟩; rw [hia]))
            go_roundw
            case rel => exact ⟨i + 1, by omega, by go_num, X2.out, HK1.out⟩
            case measure => simp [intOf]; omega
          · skip
            have ARR := Lib.hid (arr_of HL.out hia)
            have HIA := Lib.hid hia
            have HTO := Lib.hid (show l[i].to = t by simpa using hto)
            go_wp2_with fail
            refine (isArrow_sx _ X2.out (by repeat (first | exact Keep.refl _ _ | refine Keep.drew ?_ | refine Keep.alloc ?_ _ | fail))).mono ?_
            rintro e w' ⟨rfl, rfl⟩
            rw [hia]
            go_wp2_with fail
            refine (canMake_sx (by omega) _ vars _ X2.out (by repeat (first | exact Keep.refl _ _ | refine Keep.drew ?_ | refine Keep.alloc ?_ _ | fail)) V2.out).mono ?_
            rintro e w3 ⟨rfl, hX, hk⟩
            have HK3 := Lib.hid (HK1.out.then0 hk)
            clear q2 r2 cfr cto hia hto
            have X3 := Lib.hid hX
            have V3 := Lib.hid (V2.out.keep0 hk)
            have s3 := hX.size
            have tz3 := hk.size
            obtain ⟨q3, r3⟩ := hX.cells
            clear hX hk
            obtain ⟨cfr, cto⟩ := decls_cell X3.out.cx.hd hil
            cases hcn : canB l (sgs fs) vars ((i : Int) + 1)
            · clear cfr cto
              go_wp2
              go_roundw
              case rel => exact ⟨i + 1, by omega, by go_num, X3.out, HK3.out⟩
              case measure => simp [intOf]; omega
            · have TA := Lib.hid (fun x y (h1 : HasTy l (sgs fs) vars x ((i : Int) + 1)) (h2 : HasTy l (sgs fs) vars y l[i].fr) => show HasTy l (sgs fs) vars (.mk 11 0 [x, y]) t from by
                  have h := HasTy.apply (a := x) (b := y) HIA.out h1 (by rw [HTI.out, dat_at hil]; exact h2)
                  rw [HTI.out, dat_at hil, HTO.out] at h
                  exact h)
              have hw2 : IntKind.i64.wrap (b - 2) = b - 2 := IntWalk.i64_in _ (by omega)
              have e0 : IntKind.i64.wrap (i : Int) = i := IntWalk.i64_in _ (by omega)
              have e1 : IntKind.i64.wrap ((i : Int) + 1 - 1) = i := by rw [show (i : Int) + 1 - 1 = i by omega]; exact e0
              have BF := Lib.hid (show base l[i].fr by have h := ARR.out.2.2.1; rw [HTI.out, dat_at hil] at h; exact h)
              have BC := Lib.hid (base_can (sg := sgs fs) HL.out vars BF.out)
              have IH2 := Lib.hid (IH.out (b - 2) (by omega) (by omega))
              have hc2 : cst (b - 2).toNat ≤ C := by rw [HCC.out]; exact cst_mono (by omega)
              have HC2 := Lib.hid hc2
              have HCN := Lib.hid hcn
              have hil2 : (0 : Int) ≤ (i : Int) := by omega
              have hil3 : (i : Int) < (l.length : Int) := by omega
              clear hcn
              go_wp2
              go_region_held3 (fun w' => w'.cell? ⟨w.heap.size, 0, none⟩ = some (.slice (some ⟨bd, od, none⟩) l.length dc) ∧ w'.cell? ⟨w.heap.size, 1, none⟩ = some (.slice fa fs.length fc) ∧ w'.cell? ⟨bd, od + i * 3, none⟩ = some (.int .i64 l[i].fr))
                (first | (refine Sx.cells3 (Sx.keep0 X3.out ?_) hil; (repeat (first | exact Keep.refl _ _ | refine Keep.drew ?_ | refine Keep.alloc ?_ _ | fail)); done) | (refine Sx.cells3 (Sx.keep0 X51.out ?_) hil; (repeat (first | exact Keep.refl _ _ | refine Keep.drew ?_ | refine Keep.alloc ?_ _ | fail)); done) | (refine Sx.cells3 (Sx.keep0 X52.out ?_) hil; (repeat (first | exact Keep.refl _ _ | refine Keep.drew ?_ | refine Keep.alloc ?_ _ | fail)); done) | (refine Sx.cells3 (Sx.keep0 X99.out ?_) hil; (repeat (first | exact Keep.refl _ _ | refine Keep.drew ?_ | refine Keep.alloc ?_ _ | fail)); done) | exact ⟨k99, j99, i99⟩ | go_keep)
                (first
                | (go_at_call 58
                   have hq := X52.out
                   clear hq
                   refine (node_sx 11 0 _ [x, y] X52.out (by repeat (first | exact Keep.refl _ _ | refine Keep.drew ?_ | refine Keep.alloc ?_ _ | fail)) (kids_new2 RX2.out RY.out (fun g hg => by simp at hg; omega) |>.keep0 (by repeat (first | exact Keep.refl _ _ | refine Keep.drew ?_ | refine Keep.alloc ?_ _ | fail)))).mono ?_
                   rintro e w99 ⟨a99, cap99, rfl, hX, hk, hv99⟩
                   have X99 := Lib.hid hX
                   have V99 := Lib.hid hv99
                   have T99 := Lib.hid (TY.out)
                   obtain ⟨⟨z0, z1, z2⟩, f0, f1, f2⟩ := hX.out
                   obtain ⟨q99, r99⟩ := hX.cells
                   have k99 := (Keep.put3' w99 (w.heap.size + 1) (.int .i64 (11)) (.int .i64 (0)) (.slice a99 2 cap99)).cellEq q99 (by simp)
                   have j99 := (Keep.put3' w99 (w.heap.size + 1) (.int .i64 (11)) (.int .i64 (0)) (.slice a99 2 cap99)).cellEq r99 (by simp)
                   have i99 := (Keep.put3' w99 (w.heap.size + 1) (.int .i64 11) (.int .i64 0) (.slice a99 2 cap99)).cellEq (decls_cell X99.out.cx.hd hil).1 (by simp; omega)
                   clear hX hk hv99)
                | (go_at_call 57
                   have hq := X51.out
                   clear hq
                   try rw [hw2]
                   refine (gen_sx IH2.out _ vars _ X51.out (by repeat (first | exact Keep.refl _ _ | refine Keep.drew ?_ | refine Keep.alloc ?_ _ | fail)) V51.out (by omega) BC.out.1 BC.out.2.1 BC.out.2.2 (by omega)).mono ?_
                   rintro e w52 ⟨y, p52, ay, cy, rfl, hy, hX, hk, _, hp52, hr52⟩
                   have RY := Lib.hid (hr52.sub (G' := List.range (w.heap.size + 2)) (range_sub (by omega)))
                   have RX2 := Lib.hid (RX.out.keep hk (X51.out.rmem (by omega)))
                   have TY := Lib.hid (show HasTy l (sgs fs) vars (.mk 11 0 [x, y]) t from TA.out x y TX.out hy.1)
                   have X52 := Lib.hid hX
                   have s52 := hX.size
                   clear hr52 hy hX hk)
                | (go_at_call 62
                   refine (leaf_sx HL.out HS.out _ vars ((i : Int) + 1) X3.out (by repeat (first | exact Keep.refl _ _ | refine Keep.drew ?_ | refine Keep.alloc ?_ _ | fail)) V3.out (by omega) (by omega) (by omega) HCN.out (by omega)).mono ?_
                   rintro e w51 ⟨x, p51, ax, cx, rfl, hx, hX, hk, _, hp51, hr51⟩
                   have RX := Lib.hid (hr51.sub (G' := List.range (w.heap.size + 2)) (range_sub (by omega)))
                   have TX := Lib.hid hx.1
                   have X51 := Lib.hid hX
                   have V51 := Lib.hid (V3.out.keep hk X3.out.mem)
                   have s51 := hX.size
                   clear hr51 hx hX hk))
              all_goals
                go_wp2
                refine bodyPost_ret (v := .agg #[.int .i64 11, .int .i64 0, .slice a99 2 cap99]) (by simp [results, Tryd.results76, go_sem, z0, z1, z2]) rfl (X99.out.post (x := .mk 11 0 [x, y]) V99.out T99.out (by omega))
      · skip
        obtain rfl : i = l.length := by omega
        clear hil
        go_wp2_with fail
        refine (consOf_sx hfb t X2.out (by repeat (first | exact Keep.refl _ _ | refine Keep.drew ?_ | refine Keep.alloc ?_ _ | fail))).mono ?_
        rintro e w3 ⟨ca, cc, rfl, hX, hk, hr3⟩
        have RC := Lib.hid hr3
        clear hr3 q2 r2
        have X3 := Lib.hid hX
        have V3 := Lib.hid (V2.out.keep0 hk)
        have s3 := hX.size
        have tz3 := hk.size
        obtain ⟨q3, r3⟩ := hX.cells
        clear hX hk
        rcases Nat.eq_zero_or_pos (consL l t).length with hz | hz
        · skip
          rw [hz]
          clear hz
          by_cases ht : 0 < t
          · skip
            go_wp2_with fail
            refine (leaf_sx HL.out HS.out _ vars t X3.out (by repeat (first | exact Keep.refl _ _ | refine Keep.drew ?_ | refine Keep.alloc ?_ _ | fail)) V3.out (by omega) t0 t1 HCB.out (by omega)).mono ?_
            rintro e w99 ⟨x, p99, a99, cap99, rfl, hx99, hX, hk, _, hp99, hv99⟩
            have X99 := Lib.hid hX
            have V99 := Lib.hid (show Rep (List.range (w.heap.size + 2)) w99 (kidsD x.kids) (.slice a99 x.kids.length cap99) from hv99.sub (range_sub (by omega)))
            have T99 := Lib.hid (hx99.1)
            obtain ⟨⟨z0, z1, z2⟩, f0, f1, f2⟩ := hX.out
            clear hX hk hv99 hx99 q3 r3
            go_wp2
            refine bodyPost_ret (v := .agg #[.int .i64 x.op, .int .i64 x.num, .slice a99 x.kids.length cap99]) (by simp [results, Tryd.results76, go_sem, z0, z1, z2]) rfl (X99.out.post V99.out T99.out (by omega))
          · skip
            obtain rfl : t = 0 := by omega
            clear q3 r3
            go_wp2_with fail
            refine (pick_sx 3 X3.out (by repeat (first | exact Keep.refl _ _ | refine Keep.drew ?_ | refine Keep.alloc ?_ _ | fail)) (by omega) (by omega)).mono ?_
            rintro e w4 ⟨k3, rfl, k3a, k3b, hX, hk⟩
            have k3c := k3b (by omega)
            clear k3b
            have X4 := Lib.hid hX
            have V4 := Lib.hid (V3.out.keep hk X3.out.mem)
            have s4 := hX.size
            have tz4 := hk.size
            obtain ⟨q4, r4⟩ := hX.cells
            clear hX hk
            by_cases hk3 : k3 = 0
            · skip
              subst hk3
              have IHK := Lib.hid (fun b' (h0 : 0 ≤ b') (h1 : b' ≤ b - 1) => IH.out b' h0 (by omega))
              go_wp2_with fail
              refine (genAll_sx HS.out _ vars _ [0] (b - 1) X4.out (by repeat (first | exact Keep.refl _ _ | refine Keep.drew ?_ | refine Keep.alloc ?_ _ | fail)) V4.out (by exact ints_new [0] X4.out.cx.hG (by simp)) (by simp) (by omega) (by omega) (by omega) (fun u hu => by simp at hu; subst hu; exact base_can HL.out vars (.inl rfl)) IHK.out (by rw [← HCC.out]; omega)).mono ?_
              rintro e w5 ⟨ks, p5, ka, kc, rfl, hks, hX, hk, _, hp5, hr5⟩
              rw [← HCC.out] at hp5
              obtain ⟨x, rfl, tx⟩ := kids1 hks
              have RK := Lib.hid (hr5.sub (G' := List.range (w.heap.size + 2)) (range_sub (by omega)))
              have TX := Lib.hid tx
              clear hr5 hks tx q4 r4
              have X5 := Lib.hid hX
              have V5 := Lib.hid (V4.out.keep hk X4.out.mem)
              have s5 := hX.size
              have tz5 := hk.size
              clear hX hk
              go_wp2_with fail
              refine (node_sx 5 0 _ [x] X5.out (by repeat (first | exact Keep.refl _ _ | refine Keep.drew ?_ | refine Keep.alloc ?_ _ | fail)) RK.out).mono ?_
              rintro e w99 ⟨a99, cap99, rfl, hX, hk, hv99⟩
              have X99 := Lib.hid hX
              have V99 := Lib.hid hv99
              have T99 := Lib.hid (HasTy.print TX.out)
              obtain ⟨⟨z0, z1, z2⟩, f0, f1, f2⟩ := hX.out
              clear hX hk hv99 
              go_wp2
              refine bodyPost_ret (v := .agg #[.int .i64 (5), .int .i64 (0), .slice a99 1 cap99]) (by simp [results, Tryd.results76, go_sem, z0, z1, z2]) rfl (X99.out.post (x := .mk (5) (0) [x]) V99.out T99.out (by omega))
            · skip
              have hk3b : (k3 == 0) = false := by simpa using hk3
              have HBR := Lib.hid (fun g (hg : g ∈ [br]) => show g < w4.heap.size by simp at hg; omega)
              have hw1 : IntKind.i64.wrap (b - 1) = b - 1 := IntWalk.i64_in _ (by omega)
              have IHK := Lib.hid (fun b' (h0 : 0 ≤ b') (h1 : b' ≤ b - 1) => IH.out b' h0 (by omega))
              go_wp2
              go_region_held3 (fun w' => w'.cell? ⟨w.heap.size, 0, none⟩ = some (.slice da l.length dc) ∧ w'.cell? ⟨w.heap.size, 1, none⟩ = some (.slice fa fs.length fc))
                (first | (refine Sx.cells (Sx.keep0 X4.out ?_); (repeat (first | exact Keep.refl _ _ | refine Keep.drew ?_ | refine Keep.alloc ?_ _ | fail)); done) | (refine Sx.cells (Sx.keep0 X51.out ?_); (repeat (first | exact Keep.refl _ _ | refine Keep.drew ?_ | refine Keep.alloc ?_ _ | fail)); done) | (refine Sx.cells (Sx.keep0 X52.out ?_); (repeat (first | exact Keep.refl _ _ | refine Keep.drew ?_ | refine Keep.alloc ?_ _ | fail)); done) | (refine Sx.cells (Sx.keep0 X99.out ?_); (repeat (first | exact Keep.refl _ _ | refine Keep.drew ?_ | refine Keep.alloc ?_ _ | fail)); done) | go_keep)
                (first
                | (go_at_call 58
                   have hq := X52.out
                   clear hq
                   refine (node_sx o51 0 _ [x, y] X52.out (by repeat (first | exact Keep.refl _ _ | refine Keep.drew ?_ | refine Keep.alloc ?_ _ | fail)) (RK.out.keep0 (by repeat (first | exact Keep.refl _ _ | refine Keep.drew ?_ | refine Keep.alloc ?_ _ | fail)))).mono ?_
                   rintro e w99 ⟨a99, cap99, rfl, hX, hk, hv99⟩
                   have X99 := Lib.hid hX
                   have V99 := Lib.hid hv99
                   have T99 := Lib.hid (TXY.out)
                   obtain ⟨⟨z0, z1, z2⟩, f0, f1, f2⟩ := hX.out
                   obtain ⟨q99, r99⟩ := hX.cells
                   have k99 := (Keep.put3' w99 (w.heap.size + 1) (.int .i64 (o51)) (.int .i64 (0)) (.slice a99 2 cap99)).cellEq q99 (by simp)
                   have j99 := (Keep.put3' w99 (w.heap.size + 1) (.int .i64 (o51)) (.int .i64 (0)) (.slice a99 2 cap99)).cellEq r99 (by simp)
                   clear hX hk hv99)
                | (go_at_call 24
                   refine (one_sx (G' := [br]) _ [1, 2, 3, 4] X4.out (by repeat (first | exact Keep.refl _ _ | refine Keep.drew ?_ | refine Keep.alloc ?_ _ | fail)) (by omega) (by simp) (by (repeat (first | ((refine ints_newAt [1, 2, 3, 4] ?_ ?_ (by simp)) <;> (first | (simp; done) | (intro g hg; have := HBR.out g hg; simp; omega) | fail)) | refine Rep.drew ?_ | refine Rep.alloc ?_ _ | fail))) (by simp) (by simp)).mono ?_
                   rintro e w51 ⟨o51, rfl, ho51, hX, hk, hk'⟩
                   have OP := Lib.hid (show 1 ≤ o51 ∧ o51 ≤ 4 by simp at ho51; omega)
                   have X51 := Lib.hid hX
                   have V51 := Lib.hid (V4.out.keep hk X4.out.mem)
                   have s51 := hX.size
                   first
                   | (refine cut (A := Hid (Rep G w51 (ints [0, 0]) (.slice (some ⟨w4.heap.size + 1, 0, none⟩) 2 2))) ?_ ?_
                      · refine Lib.hid (Rep.keep ?_ hk' (memG hbr))
                        (repeat (first | ((refine ints_newAt [0, 0] ?_ ?_ (by simp)) <;> (first | (simp; done) | (intro g hg; have := X4.out.cx.hG g hg; simp; omega) | fail)) | refine Rep.drew ?_ | refine Rep.alloc ?_ _ | fail))
                      intro L0)
                   | (refine cut (A := Hid (Rep G w51 (ints [0, 0]) (.slice (some ⟨w4.heap.size, 0, none⟩) 2 2))) ?_ ?_
                      · refine Lib.hid (Rep.keep ?_ hk' (memG hbr))
                        (repeat (first | ((refine ints_newAt [0, 0] ?_ ?_ (by simp)) <;> (first | (simp; done) | (intro g hg; have := X4.out.cx.hG g hg; simp; omega) | fail)) | refine Rep.drew ?_ | refine Rep.alloc ?_ _ | fail))
                      intro L0)
                   | skip
                   clear ho51 hX hk hk')
                | (go_at_call 73
                   have hq := X51.out
                   clear hq
                   try rw [hw1]
                   refine (genAll_sx HS.out _ vars _ [0, 0] (b - 1) X51.out (by repeat (first | exact Keep.refl _ _ | refine Keep.drew ?_ | refine Keep.alloc ?_ _ | fail)) V51.out (by first | exact L0.out.keep0 (by repeat (first | exact Keep.refl _ _ | refine Keep.drew ?_ | refine Keep.alloc ?_ _ | fail)) | (repeat (first | ((refine ints_newAt [0, 0] ?_ ?_ (by simp)) <;> (first | (simp; done) | (intro g hg; have := X51.out.cx.hG g hg; simp; omega) | fail)) | refine Rep.drew ?_ | refine Rep.alloc ?_ _ | fail))) (by simp) (by omega) (by omega) (by omega) (fun u hu => by simp at hu; subst hu; exact base_can HL.out vars (.inl rfl)) IHK.out (by rw [← HCC.out]; omega)).mono ?_
                   rintro e w52 ⟨ks, p52, ka, kc, rfl, hks, hX, hk, _, hp52, hr52⟩
                   rw [← HCC.out] at hp52
                   obtain ⟨x, y, rfl, tx, ty⟩ := kids2 hks
                   have RK := Lib.hid (hr52.sub (G' := List.range (w.heap.size + 2)) (range_sub (by omega)))
                   have TXY := Lib.hid (show HasTy l (sgs fs) vars (.mk o51 0 [x, y]) 0 from .prim OP.out tx ty)
                   have X52 := Lib.hid hX
                   have s52 := hX.size
                   clear hr52 hks tx ty hX hk))
              all_goals
                go_wp2
                refine bodyPost_ret (v := .agg #[.int .i64 o51, .int .i64 0, .slice a99 2 cap99]) (by simp [results, Tryd.results76, go_sem, z0, z1, z2]) rfl (X99.out.post (x := .mk o51 0 [x, y]) V99.out T99.out (by omega))
        · have htp : 0 < t := by rcases Int.lt_or_eq_of_le t0 with h | h; exact h; subst h; rw [HL.out.c0] at hz; simp at hz
          have hcl := cons_len HL.out t0 t1
          have g0 : decide ((0 : Int) < ((consL l t).length : Int)) = true := by simp; omega
          have CM := Lib.hid (fun c (h : c ∈ consL l t) => con_of HL.out t0 t1 h)
          generalize consL l t = L at *
          clear q3 r3
          go_wp2_with fail
          refine (pick_sx L.length X3.out (by repeat (first | exact Keep.refl _ _ | refine Keep.drew ?_ | refine Keep.alloc ?_ _ | fail)) (by omega) (by omega)).mono ?_
          rintro e w4 ⟨kc, rfl, kca, kcb, hX, hk⟩
          have kcc := kcb (by omega)
          clear kcb
          have HK9 := Lib.hid hk
          have X4 := Lib.hid hX
          have V4 := Lib.hid (V3.out.keep hk X3.out.mem)
          have s4 := hX.size
          have tz4 := hk.size
          obtain ⟨q4, r4⟩ := hX.cells
          clear hX hk
          obtain ⟨n5, rfl⟩ := Int.eq_ofNat_of_zero_le kca
          have hn5 : n5 < L.length := by omega
          have RC5 := Lib.hid (RC.out.keep HK9.out X3.out.mem)
          obtain ⟨b5, off5, rfl, _, _, cl5⟩ := ints_at RC5.out hn5
          have CT := Lib.hid (CM.out _ (List.getElem_mem hn5))
          generalize L[n5] = c at *
          have hw1 : IntKind.i64.wrap (b - 1) = b - 1 := IntWalk.i64_in _ (by omega)
          have hf3 := CT.out.len
          have IHK := Lib.hid (fun b' (h0 : 0 ≤ b') (h1 : b' ≤ b - 1) => IH.out b' h0 (by omega))
          clear g0
          go_wp2
          go_region_held3 (fun w' => w'.cell? ⟨w.heap.size, 0, none⟩ = some (.slice da l.length dc) ∧ w'.cell? ⟨w.heap.size, 1, none⟩ = some (.slice fa fs.length fc))
            (first | (refine Sx.cells (Sx.keep0 X4.out ?_); (repeat (first | exact Keep.refl _ _ | refine Keep.drew ?_ | refine Keep.alloc ?_ _ | fail)); done) | (refine Sx.cells (Sx.keep0 X51.out ?_); (repeat (first | exact Keep.refl _ _ | refine Keep.drew ?_ | refine Keep.alloc ?_ _ | fail)); done) | (refine Sx.cells (Sx.keep0 X52.out ?_); (repeat (first | exact Keep.refl _ _ | refine Keep.drew ?_ | refine Keep.alloc ?_ _ | fail)); done) | (refine Sx.cells (Sx.keep0 X99.out ?_); (repeat (first | exact Keep.refl _ _ | refine Keep.drew ?_ | refine Keep.alloc ?_ _ | fail)); done) | go_keep)
            (first
            | (go_at_call 58
               have hq := X52.out
               clear hq
               refine (node_sx 6 c _ ks X52.out (by repeat (first | exact Keep.refl _ _ | refine Keep.drew ?_ | refine Keep.alloc ?_ _ | fail)) (RK.out.keep0 (by repeat (first | exact Keep.refl _ _ | refine Keep.drew ?_ | refine Keep.alloc ?_ _ | fail)))).mono ?_
               rintro e w99 ⟨a99, cap99, rfl, hX, hk, hv99⟩
               have X99 := Lib.hid hX
               have V99 := Lib.hid hv99
               have T99 := Lib.hid (TK.out)
               obtain ⟨⟨z0, z1, z2⟩, f0, f1, f2⟩ := hX.out
               obtain ⟨q99, r99⟩ := hX.cells
               have k99 := (Keep.put3' w99 (w.heap.size + 1) (.int .i64 (6)) (.int .i64 (c)) (.slice a99 ks.length cap99)).cellEq q99 (by simp)
               have j99 := (Keep.put3' w99 (w.heap.size + 1) (.int .i64 (6)) (.int .i64 (c)) (.slice a99 ks.length cap99)).cellEq r99 (by simp)
               clear hX hk hv99)
            | (go_at_call 73
               have hq := X51.out
               clear hq
               try rw [hw1]
               refine (genAll_sx HS.out _ vars _ (cflds l c) (b - 1) X51.out (by repeat (first | exact Keep.refl _ _ | refine Keep.drew ?_ | refine Keep.alloc ?_ _ | fail)) V51.out (by exact RF.out.keep0 (by repeat (first | exact Keep.refl _ _ | refine Keep.drew ?_ | refine Keep.alloc ?_ _ | fail))) hf3 (by omega) (by omega) (by omega) (fun u hu => base_can HL.out vars (CT.out.flds u hu)) IHK.out (by rw [← HCC.out]; omega)).mono ?_
               rintro e w52 ⟨ks, p52, ka, kc, rfl, hks, hX, hk, _, hp52, hr52⟩
               rw [← HCC.out] at hp52
               have RK := Lib.hid (hr52.sub (G' := List.range (w.heap.size + 2)) (range_sub (by omega)))
               have TK := Lib.hid (show HasTy l (sgs fs) vars (.mk 6 c ks) t from CT.out.ty ▸ HasTy.con (by rw [CT.out.ty]; exact htp) hks.1 hks.2)
               have X52 := Lib.hid hX
               have s52 := hX.size
               clear hr52 hks hX hk)
            | (go_at_call 86
               refine (conFields_sx hfb c X4.out (by repeat (first | exact Keep.refl _ _ | refine Keep.drew ?_ | refine Keep.alloc ?_ _ | fail))).mono ?_
               rintro e w51 ⟨fla, flc, rfl, hX, hk, hr51⟩
               have RF := Lib.hid hr51
               have X51 := Lib.hid hX
               have V51 := Lib.hid (V4.out.keep0 hk)
               have s51 := hX.size
               clear hX hk hr51))
          all_goals
            go_wp2
            refine bodyPost_ret (v := .agg #[.int .i64 6, .int .i64 c, .slice a99 ks.length cap99]) (by simp [results, Tryd.results76, go_sem, z0, z1, z2]) rfl (X99.out.post (x := .mk 6 c ks) V99.out T99.out (by omega))
  · have hk1b : (k1 == 0) = false := by simpa using hk1
    clear hk1
    go_wp2_with fail
    refine (consOf_sx hfb t X1.out (by repeat (first | exact Keep.refl _ _ | refine Keep.drew ?_ | refine Keep.alloc ?_ _ | fail))).mono ?_
    rintro e w2 ⟨ca, cc, rfl, hX, hk, hr2⟩
    have RC := Lib.hid hr2
    clear hr2 q1 r1
    have X2 := Lib.hid hX
    have V2 := Lib.hid (V1.out.keep0 hk)
    have s2 := hX.size
    have tz2 := hk.size
    obtain ⟨q2, r2⟩ := hX.cells
    clear hX hk
    rcases Nat.eq_zero_or_pos (consL l t).length with hz | hz
    · skip
      rw [hz]
      clear hz
      by_cases ht : 0 < t
      · skip
        go_wp2_with fail
        refine (leaf_sx HL.out HS.out _ vars t X2.out (by repeat (first | exact Keep.refl _ _ | refine Keep.drew ?_ | refine Keep.alloc ?_ _ | fail)) V2.out (by omega) t0 t1 HCB.out (by omega)).mono ?_
        rintro e w99 ⟨x, p99, a99, cap99, rfl, hx99, hX, hk, _, hp99, hv99⟩
        have X99 := Lib.hid hX
        have V99 := Lib.hid (show Rep (List.range (w.heap.size + 2)) w99 (kidsD x.kids) (.slice a99 x.kids.length cap99) from hv99.sub (range_sub (by omega)))
        have T99 := Lib.hid (hx99.1)
        obtain ⟨⟨z0, z1, z2⟩, f0, f1, f2⟩ := hX.out
        clear hX hk hv99 hx99 q2 r2
        go_wp2
        refine bodyPost_ret (v := .agg #[.int .i64 x.op, .int .i64 x.num, .slice a99 x.kids.length cap99]) (by simp [results, Tryd.results76, go_sem, z0, z1, z2]) rfl (X99.out.post V99.out T99.out (by omega))
      · skip
        obtain rfl : t = 0 := by omega
        clear q2 r2
        go_wp2_with fail
        refine (pick_sx 3 X2.out (by repeat (first | exact Keep.refl _ _ | refine Keep.drew ?_ | refine Keep.alloc ?_ _ | fail)) (by omega) (by omega)).mono ?_
        rintro e w3 ⟨k3, rfl, k3a, k3b, hX, hk⟩
        have k3c := k3b (by omega)
        clear k3b
        have X3 := Lib.hid hX
        have V3 := Lib.hid (V2.out.keep hk X2.out.mem)
        have s3 := hX.size
        have tz3 := hk.size
        obtain ⟨q3, r3⟩ := hX.cells
        clear hX hk
        by_cases hk3 : k3 = 0
        · skip
          subst hk3
          have IHK := Lib.hid (fun b' (h0 : 0 ≤ b') (h1 : b' ≤ b - 1) => IH.out b' h0 (by omega))
          go_wp2_with fail
          refine (genAll_sx HS.out _ vars _ [0] (b - 1) X3.out (by repeat (first | exact Keep.refl _ _ | refine Keep.drew ?_ | refine Keep.alloc ?_ _ | fail)) V3.out (by exact ints_new [0] X3.out.cx.hG (by simp)) (by simp) (by omega) (by omega) (by omega) (fun u hu => by simp at hu; subst hu; exact base_can HL.out vars (.inl rfl)) IHK.out (by rw [← HCC.out]; omega)).mono ?_
          rintro e w4 ⟨ks, p4, ka, kc, rfl, hks, hX, hk, _, hp4, hr4⟩
          rw [← HCC.out] at hp4
          obtain ⟨x, rfl, tx⟩ := kids1 hks
          have RK := Lib.hid (hr4.sub (G' := List.range (w.heap.size + 2)) (range_sub (by omega)))
          have TX := Lib.hid tx
          clear hr4 hks tx q3 r3
          have X4 := Lib.hid hX
          have V4 := Lib.hid (V3.out.keep hk X3.out.mem)
          have s4 := hX.size
          have tz4 := hk.size
          clear hX hk
          go_wp2_with fail
          refine (node_sx 5 0 _ [x] X4.out (by repeat (first | exact Keep.refl _ _ | refine Keep.drew ?_ | refine Keep.alloc ?_ _ | fail)) RK.out).mono ?_
          rintro e w99 ⟨a99, cap99, rfl, hX, hk, hv99⟩
          have X99 := Lib.hid hX
          have V99 := Lib.hid hv99
          have T99 := Lib.hid (HasTy.print TX.out)
          obtain ⟨⟨z0, z1, z2⟩, f0, f1, f2⟩ := hX.out
          clear hX hk hv99 
          go_wp2
          refine bodyPost_ret (v := .agg #[.int .i64 (5), .int .i64 (0), .slice a99 1 cap99]) (by simp [results, Tryd.results76, go_sem, z0, z1, z2]) rfl (X99.out.post (x := .mk (5) (0) [x]) V99.out T99.out (by omega))
        · skip
          have hk3b : (k3 == 0) = false := by simpa using hk3
          have HBR := Lib.hid (fun g (hg : g ∈ [br]) => show g < w3.heap.size by simp at hg; omega)
          have hw1 : IntKind.i64.wrap (b - 1) = b - 1 := IntWalk.i64_in _ (by omega)
          have IHK := Lib.hid (fun b' (h0 : 0 ≤ b') (h1 : b' ≤ b - 1) => IH.out b' h0 (by omega))
          go_wp2
          go_region_held3 (fun w' => w'.cell? ⟨w.heap.size, 0, none⟩ = some (.slice da l.length dc) ∧ w'.cell? ⟨w.heap.size, 1, none⟩ = some (.slice fa fs.length fc))
            (first | (refine Sx.cells (Sx.keep0 X3.out ?_); (repeat (first | exact Keep.refl _ _ | refine Keep.drew ?_ | refine Keep.alloc ?_ _ | fail)); done) | (refine Sx.cells (Sx.keep0 X51.out ?_); (repeat (first | exact Keep.refl _ _ | refine Keep.drew ?_ | refine Keep.alloc ?_ _ | fail)); done) | (refine Sx.cells (Sx.keep0 X52.out ?_); (repeat (first | exact Keep.refl _ _ | refine Keep.drew ?_ | refine Keep.alloc ?_ _ | fail)); done) | (refine Sx.cells (Sx.keep0 X99.out ?_); (repeat (first | exact Keep.refl _ _ | refine Keep.drew ?_ | refine Keep.alloc ?_ _ | fail)); done) | go_keep)
            (first
            | (go_at_call 58
               have hq := X52.out
               clear hq
               refine (node_sx o51 0 _ [x, y] X52.out (by repeat (first | exact Keep.refl _ _ | refine Keep.drew ?_ | refine Keep.alloc ?_ _ | fail)) (RK.out.keep0 (by repeat (first | exact Keep.refl _ _ | refine Keep.drew ?_ | refine Keep.alloc ?_ _ | fail)))).mono ?_
               rintro e w99 ⟨a99, cap99, rfl, hX, hk, hv99⟩
               have X99 := Lib.hid hX
               have V99 := Lib.hid hv99
               have T99 := Lib.hid (TXY.out)
               obtain ⟨⟨z0, z1, z2⟩, f0, f1, f2⟩ := hX.out
               obtain ⟨q99, r99⟩ := hX.cells
               have k99 := (Keep.put3' w99 (w.heap.size + 1) (.int .i64 (o51)) (.int .i64 (0)) (.slice a99 2 cap99)).cellEq q99 (by simp)
               have j99 := (Keep.put3' w99 (w.heap.size + 1) (.int .i64 (o51)) (.int .i64 (0)) (.slice a99 2 cap99)).cellEq r99 (by simp)
               clear hX hk hv99)
            | (go_at_call 24
               refine (one_sx (G' := [br]) _ [1, 2, 3, 4] X3.out (by repeat (first | exact Keep.refl _ _ | refine Keep.drew ?_ | refine Keep.alloc ?_ _ | fail)) (by omega) (by simp) (by (repeat (first | ((refine ints_newAt [1, 2, 3, 4] ?_ ?_ (by simp)) <;> (first | (simp; done) | (intro g hg; have := HBR.out g hg; simp; omega) | fail)) | refine Rep.drew ?_ | refine Rep.alloc ?_ _ | fail))) (by simp) (by simp)).mono ?_
               rintro e w51 ⟨o51, rfl, ho51, hX, hk, hk'⟩
               have OP := Lib.hid (show 1 ≤ o51 ∧ o51 ≤ 4 by simp at ho51; omega)
               have X51 := Lib.hid hX
               have V51 := Lib.hid (V3.out.keep hk X3.out.mem)
               have s51 := hX.size
               first
               | (refine cut (A := Hid (Rep G w51 (ints [0, 0]) (.slice (some ⟨w3.heap.size + 1, 0, none⟩) 2 2))) ?_ ?_
                  · refine Lib.hid (Rep.keep ?_ hk' (memG hbr))
                    (repeat (first | ((refine ints_newAt [0, 0] ?_ ?_ (by simp)) <;> (first | (simp; done) | (intro g hg; have := X3.out.cx.hG g hg; simp; omega) | fail)) | refine Rep.drew ?_ | refine Rep.alloc ?_ _ | fail))
                  intro L0)
               | (refine cut (A := Hid (Rep G w51 (ints [0, 0]) (.slice (some ⟨w3.heap.size, 0, none⟩) 2 2))) ?_ ?_
                  · refine Lib.hid (Rep.keep ?_ hk' (memG hbr))
                    (repeat (first | ((refine ints_newAt [0, 0] ?_ ?_ (by simp)) <;> (first | (simp; done) | (intro g hg; have := X3.out.cx.hG g hg; simp; omega) | fail)) | refine Rep.drew ?_ | refine Rep.alloc ?_ _ | fail))
                  intro L0)
               | skip
               clear ho51 hX hk hk')
            | (go_at_call 73
               have hq := X51.out
               clear hq
               try rw [hw1]
               refine (genAll_sx HS.out _ vars _ [0, 0] (b - 1) X51.out (by repeat (first | exact Keep.refl _ _ | refine Keep.drew ?_ | refine Keep.alloc ?_ _ | fail)) V51.out (by first | exact L0.out.keep0 (by repeat (first | exact Keep.refl _ _ | refine Keep.drew ?_ | refine Keep.alloc ?_ _ | fail)) | (repeat (first | ((refine ints_newAt [0, 0] ?_ ?_ (by simp)) <;> (first | (simp; done) | (intro g hg; have := X51.out.cx.hG g hg; simp; omega) | fail)) | refine Rep.drew ?_ | refine Rep.alloc ?_ _ | fail))) (by simp) (by omega) (by omega) (by omega) (fun u hu => by simp at hu; subst hu; exact base_can HL.out vars (.inl rfl)) IHK.out (by rw [← HCC.out]; omega)).mono ?_
               rintro e w52 ⟨ks, p52, ka, kc, rfl, hks, hX, hk, _, hp52, hr52⟩
               rw [← HCC.out] at hp52
               obtain ⟨x, y, rfl, tx, ty⟩ := kids2 hks
               have RK := Lib.hid (hr52.sub (G' := List.range (w.heap.size + 2)) (range_sub (by omega)))
               have TXY := Lib.hid (show HasTy l (sgs fs) vars (.mk o51 0 [x, y]) 0 from .prim OP.out tx ty)
               have X52 := Lib.hid hX
               have s52 := hX.size
               clear hr52 hks tx ty hX hk))
          all_goals
            go_wp2
            refine bodyPost_ret (v := .agg #[.int .i64 o51, .int .i64 0, .slice a99 2 cap99]) (by simp [results, Tryd.results76, go_sem, z0, z1, z2]) rfl (X99.out.post (x := .mk o51 0 [x, y]) V99.out T99.out (by omega))
    · have htp : 0 < t := by rcases Int.lt_or_eq_of_le t0 with h | h; exact h; subst h; rw [HL.out.c0] at hz; simp at hz
      have hcl := cons_len HL.out t0 t1
      have g0 : decide ((0 : Int) < ((consL l t).length : Int)) = true := by simp; omega
      have CM := Lib.hid (fun c (h : c ∈ consL l t) => con_of HL.out t0 t1 h)
      generalize consL l t = L at *
      clear q2 r2
      go_wp2_with fail
      refine (pick_sx L.length X2.out (by repeat (first | exact Keep.refl _ _ | refine Keep.drew ?_ | refine Keep.alloc ?_ _ | fail)) (by omega) (by omega)).mono ?_
      rintro e w3 ⟨kc, rfl, kca, kcb, hX, hk⟩
      have kcc := kcb (by omega)
      clear kcb
      have HK9 := Lib.hid hk
      have X3 := Lib.hid hX
      have V3 := Lib.hid (V2.out.keep hk X2.out.mem)
      have s3 := hX.size
      have tz3 := hk.size
      obtain ⟨q3, r3⟩ := hX.cells
      clear hX hk
      obtain ⟨n5, rfl⟩ := Int.eq_ofNat_of_zero_le kca
      have hn5 : n5 < L.length := by omega
      have RC5 := Lib.hid (RC.out.keep HK9.out X2.out.mem)
      obtain ⟨b5, off5, rfl, _, _, cl5⟩ := ints_at RC5.out hn5
      have CT := Lib.hid (CM.out _ (List.getElem_mem hn5))
      generalize L[n5] = c at *
      have hw1 : IntKind.i64.wrap (b - 1) = b - 1 := IntWalk.i64_in _ (by omega)
      have hf3 := CT.out.len
      have IHK := Lib.hid (fun b' (h0 : 0 ≤ b') (h1 : b' ≤ b - 1) => IH.out b' h0 (by omega))
      clear g0
      go_wp2
      go_region_held3 (fun w' => w'.cell? ⟨w.heap.size, 0, none⟩ = some (.slice da l.length dc) ∧ w'.cell? ⟨w.heap.size, 1, none⟩ = some (.slice fa fs.length fc))
        (first | (refine Sx.cells (Sx.keep0 X3.out ?_); (repeat (first | exact Keep.refl _ _ | refine Keep.drew ?_ | refine Keep.alloc ?_ _ | fail)); done) | (refine Sx.cells (Sx.keep0 X51.out ?_); (repeat (first | exact Keep.refl _ _ | refine Keep.drew ?_ | refine Keep.alloc ?_ _ | fail)); done) | (refine Sx.cells (Sx.keep0 X52.out ?_); (repeat (first | exact Keep.refl _ _ | refine Keep.drew ?_ | refine Keep.alloc ?_ _ | fail)); done) | (refine Sx.cells (Sx.keep0 X99.out ?_); (repeat (first | exact Keep.refl _ _ | refine Keep.drew ?_ | refine Keep.alloc ?_ _ | fail)); done) | go_keep)
        (first
        | (go_at_call 58
           have hq := X52.out
           clear hq
           refine (node_sx 6 c _ ks X52.out (by repeat (first | exact Keep.refl _ _ | refine Keep.drew ?_ | refine Keep.alloc ?_ _ | fail)) (RK.out.keep0 (by repeat (first | exact Keep.refl _ _ | refine Keep.drew ?_ | refine Keep.alloc ?_ _ | fail)))).mono ?_
           rintro e w99 ⟨a99, cap99, rfl, hX, hk, hv99⟩
           have X99 := Lib.hid hX
           have V99 := Lib.hid hv99
           have T99 := Lib.hid (TK.out)
           obtain ⟨⟨z0, z1, z2⟩, f0, f1, f2⟩ := hX.out
           obtain ⟨q99, r99⟩ := hX.cells
           have k99 := (Keep.put3' w99 (w.heap.size + 1) (.int .i64 (6)) (.int .i64 (c)) (.slice a99 ks.length cap99)).cellEq q99 (by simp)
           have j99 := (Keep.put3' w99 (w.heap.size + 1) (.int .i64 (6)) (.int .i64 (c)) (.slice a99 ks.length cap99)).cellEq r99 (by simp)
           clear hX hk hv99)
        | (go_at_call 73
           have hq := X51.out
           clear hq
           try rw [hw1]
           refine (genAll_sx HS.out _ vars _ (cflds l c) (b - 1) X51.out (by repeat (first | exact Keep.refl _ _ | refine Keep.drew ?_ | refine Keep.alloc ?_ _ | fail)) V51.out (by exact RF.out.keep0 (by repeat (first | exact Keep.refl _ _ | refine Keep.drew ?_ | refine Keep.alloc ?_ _ | fail))) hf3 (by omega) (by omega) (by omega) (fun u hu => base_can HL.out vars (CT.out.flds u hu)) IHK.out (by rw [← HCC.out]; omega)).mono ?_
           rintro e w52 ⟨ks, p52, ka, kc, rfl, hks, hX, hk, _, hp52, hr52⟩
           rw [← HCC.out] at hp52
           have RK := Lib.hid (hr52.sub (G' := List.range (w.heap.size + 2)) (range_sub (by omega)))
           have TK := Lib.hid (show HasTy l (sgs fs) vars (.mk 6 c ks) t from CT.out.ty ▸ HasTy.con (by rw [CT.out.ty]; exact htp) hks.1 hks.2)
           have X52 := Lib.hid hX
           have s52 := hX.size
           clear hr52 hks hX hk)
        | (go_at_call 86
           refine (conFields_sx hfb c X3.out (by repeat (first | exact Keep.refl _ _ | refine Keep.drew ?_ | refine Keep.alloc ?_ _ | fail))).mono ?_
           rintro e w51 ⟨fla, flc, rfl, hX, hk, hr51⟩
           have RF := Lib.hid hr51
           have X51 := Lib.hid hX
           have V51 := Lib.hid (V3.out.keep0 hk)
           have s51 := hX.size
           clear hX hk hr51))
      all_goals
        go_wp2
        refine bodyPost_ret (v := .agg #[.int .i64 6, .int .i64 c, .slice a99 ks.length cap99]) (by simp [results, Tryd.results76, go_sem, z0, z1, z2]) rfl (X99.out.post (x := .mk 6 c ks) V99.out T99.out (by omega))
end Go.Proofs.YtnjincgemmgllaaDoor
