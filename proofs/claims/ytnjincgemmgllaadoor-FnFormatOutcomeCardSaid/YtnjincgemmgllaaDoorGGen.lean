/- The walk of the generator's gen, and its contract at every budget. -/
import Derived.Test.YtnjincgemmgllaaDoorGOther
namespace Go.Proofs.YtnjincgemmgllaaDoor
open Go.RowKit
attribute [local go_sem ↓] Go.wp_at_zero Go.wp_at_succ

theorem funcs_cell {G : List Nat} {w : World} {l : List Fn} {b off n cap : Nat} (h : Rep G w (funcsD l) (.slice (some ⟨b, off, none⟩) n cap)) {i : Nat} (hi : i < l.length) : ∃ pa pc ka kc, w.cell? ⟨b, off + i * 5, none⟩ = some (.slice pa l[i].sig.params.length pc) ∧ w.cell? ⟨b, off + i * 5 + 1, none⟩ = some (.int .i64 l[i].sig.result) ∧
      w.cell? ⟨b, off + i * 5 + 2, none⟩ = some (.int .i64 l[i].body.op) ∧ w.cell? ⟨b, off + i * 5 + 3, none⟩ = some (.int .i64 l[i].body.num) ∧ w.cell? ⟨b, off + i * 5 + 4, none⟩ = some (.slice ka l[i].body.kids.length kc) ∧
      Rep G w (ints l[i].sig.params) (.slice pa l[i].sig.params.length pc) ∧ Rep G w (kidsD l[i].body.kids) (.slice ka l[i].body.kids.length kc) := by
  obtain ⟨b', off', pa, pc, ka, kc, ha, _, h0, h1, h2, h3, h4, h5, h6⟩ := funcs_at h hi
  injection ha with ha
  injection ha with h7 h8
  subst h7 h8
  exact ⟨pa, pc, ka, kc, h0, h1, h2, h3, h4, h5, h6⟩
theorem funcs_out {G : List Nat} {w : World} {l : List Fn} {b off n cap : Nat} (h : Rep G w (funcsD l) (.slice (some ⟨b, off, none⟩) n cap)) (hi : 0 < l.length) : b ∉ G := by
  obtain ⟨b', off', ha, hb, _⟩ := Rep.at_ h (i := 0) (by simpa using hi)
  injection ha with ha
  injection ha with h7 h8
  subst h7
  exact hb
theorem Sx.cells5 {G : List Nat} {B br : Nat} {l : List Dc} {fs : List Fn} {da : Option Addr} {dc : Nat} {fa : Option Addr} {fc : Nat} {w W W' : World} {p : Nat} (X : Sx G B br l fs da dc fa fc w W p) {a : Addr} {v : Value} (hc : W.cell? a = some v) (hk : Keep [] W W') :
    W'.cell? ⟨w.heap.size, 0, none⟩ = some (.slice da l.length dc) ∧ W'.cell? ⟨w.heap.size, 1, none⟩ = some (.slice fa fs.length fc) ∧ W'.cell? a = some v :=
  ⟨(X.keep0 hk).cells.1, (X.keep0 hk).cells.2, hk.cellEq hc (by simp)⟩
theorem genOther_sx {G : List Nat} {B br : Nat} {l : List Dc} {fs : List Fn} {da : Option Addr} {dc : Nat} {fa : Option Addr} {fc : Nat} {w W W' : World} {p : Nat} (hl : GD l) (hs : GS l (sgs fs)) (vv : Value) (vars : List Int) (t b : Int) (X : Sx G B br l fs da dc fa fc w W p) (hk : Keep [] W W') (hv : Rep G W (ints vars) vv) (t0 : 0 ≤ t) (t1 : t ≤ l.length) (hc : canB l (sgs fs) vars t = true) (b0 : 3 ≤ b) (b1 : b ≤ 1000) (hvb : vars.length + 3 * b.toNat ≤ 1000)
    (ih : ∀ b', 0 ≤ b' → b' < b → GenC l fs b') (hp : p + 60 + 3 * cst (b - 1).toNat ≤ 1125899906842624) :
    Calls Tryd.prog 76 #[.pointer (some ⟨br, 0, none⟩), .agg #[.slice da l.length dc, .slice fa fs.length fc], vv, .int .i64 t, .int .i64 b] W' (GX G B br l fs da dc fa fc w W W' p (60 + 3 * cst (b - 1).toNat) (fun x => HasTy l (sgs fs) vars x t)) :=
  (genOther_any (X.keep0 hk).cx p (X.keep0 hk).rd vv vars (hv.keep0 hk) hl hs t t0 t1 hc b b0 b1 hvb ih hp).mono fun _ _ h => GX.of X hk h
set_option maxRecDepth 100000 in
set_option maxHeartbeats 8000000 in
theorem gen_step {l : List Dc} {fs : List Fn} (hl : GD l) (hs : GS l (sgs fs)) (b : Int) (b0 : 0 ≤ b) (b1 : b ≤ 1000) (ih : ∀ b', 0 ≤ b' → b' < b → GenC l fs b') : GenC l fs b := by
  intro G B br dv fv w hx p hr vv vars hv hvb t t0 t1 hc hp
  have hn4 : fs.length ≤ 4 := by have := hs.len; rw [sgs_len] at this; omega
  have hn1 : 1 ≤ fs.length := by have := hs.len; rw [sgs_len] at this; omega
  obtain ⟨da, dc, fa, fc, rfl, rfl⟩ := hx.forms
  have X0 := Lib.hid (Sx.start hx hr)
  have hfb := hl.bound
  have HL := Lib.hid hl
  have HS := Lib.hid hs
  have hbr : br ∈ G := hx.hbr
  have hbl := X0.out.brlt
  obtain ⟨va, vc, rfl, _⟩ := ints_form hv
  have V0 := Lib.hid (show Rep G (bx w (.slice da l.length dc) (.slice fa fs.length fc)) (ints vars) (.slice va vars.length vc) from (hv.alloc _).alloc _)
  have IH := Lib.hid ih
  have HCB := Lib.hid hc
  have HF0 := Lib.hid hx.hf
  obtain ⟨C, hC⟩ : ∃ C, C = cst b.toNat := ⟨_, rfl⟩
  rw [← hC] at hp
  rw [← hC]
  have hC1 : 100 ≤ C := by rw [hC]; exact cst_pos _
  have HCC := Lib.hid hC
  clear ih hc hC hx hr hv hl hs
  by_cases hb3 : b < 3
  · skip
    go_enter Tryd.func57, Tryd.ntmps57
    go_wp2_with fail
    refine (leaf_sx HL.out HS.out _ vars t X0.out (by repeat (first | exact Keep.refl _ _ | refine Keep.drew ?_ | refine Keep.alloc ?_ _ | fail)) V0.out (by omega) t0 t1 HCB.out (by omega)).mono ?_
    rintro e w99 ⟨x, p99, a99, cap99, rfl, hx99, hX, hk, _, hp99, hv99⟩
    have X99 := Lib.hid hX
    have V99 := Lib.hid (show Rep (List.range (w.heap.size + 2)) w99 (kidsD x.kids) (.slice a99 x.kids.length cap99) from hv99.sub (range_sub (by rw [bx_size]; exact Nat.le_refl _)))
    have T99 := Lib.hid (show GnT l (sgs fs) vars t b x from ⟨hx99.1, fun _ => hx99.2⟩)
    obtain ⟨⟨z0, z1, z2⟩, f0, f1, f2⟩ := hX.out
    clear hX hk hv99 hx99 
    go_wp2
    refine bodyPost_ret (v := .agg #[.int .i64 x.op, .int .i64 x.num, .slice a99 x.kids.length cap99]) (by simp [results, Tryd.results57, go_sem, z0, z1, z2]) rfl (X99.out.post V99.out T99.out (by omega))
  · skip
    obtain ⟨C1, hC2⟩ : ∃ C1, C1 = cst (b - 1).toNat := ⟨_, rfl⟩
    have hC4 : C = 4 * C1 := by rw [HCC.out, hC2, ← cst_succ, show (b - 1).toNat + 1 = b.toNat by omega]
    have HC1 := Lib.hid hC2
    have h100 : 100 ≤ C1 := by rw [hC2]; exact cst_pos _
    subst hC4
    clear hC2 hC1
    have hb3b : ¬ b < 3 := hb3
    go_enter Tryd.func57, Tryd.ntmps57
    go_wp2_with fail
    refine (pick_sx 12 X0.out (by repeat (first | exact Keep.refl _ _ | refine Keep.drew ?_ | refine Keep.alloc ?_ _ | fail)) (by omega) (by omega)).mono ?_
    rintro e w1 ⟨k1, rfl, k1a, k1b, hX, hk⟩
    have k1c := k1b (by omega)
    clear k1b
    have X1 := Lib.hid hX
    have V1 := Lib.hid (V0.out.keep hk X0.out.mem)
    have s1 := hX.size
    have tz1 := hk.size
    obtain ⟨q1, r1⟩ := hX.cells
    clear hX hk
    rcases (show k1 = 0 ∨ k1 = 1 ∨ k1 = 2 ∨ k1 = 3 ∨ k1 = 4 ∨ k1 = 5 ∨ k1 = 6 ∨ k1 = 7 ∨ k1 = 8 ∨ 9 ≤ k1 by omega) with rfl | rfl | rfl | rfl | rfl | rfl | rfl | rfl | rfl | hk9
    · skip
      go_wp2_with fail
      refine (leaf_sx HL.out HS.out _ vars t X1.out (by repeat (first | exact Keep.refl _ _ | refine Keep.drew ?_ | refine Keep.alloc ?_ _ | fail)) V1.out (by omega) t0 t1 HCB.out (by omega)).mono ?_
      rintro e w99 ⟨x, p99, a99, cap99, rfl, hx99, hX, hk, _, hp99, hv99⟩
      have X99 := Lib.hid hX
      have V99 := Lib.hid (show Rep (List.range (w.heap.size + 2)) w99 (kidsD x.kids) (.slice a99 x.kids.length cap99) from hv99.sub (range_sub (by omega)))
      have T99 := Lib.hid (show GnT l (sgs fs) vars t b x from ⟨hx99.1, fun h => absurd h (by omega)⟩)
      obtain ⟨⟨z0, z1, z2⟩, f0, f1, f2⟩ := hX.out
      clear hX hk hv99 hx99 q1 r1
      go_wp2
      refine bodyPost_ret (v := .agg #[.int .i64 x.op, .int .i64 x.num, .slice a99 x.kids.length cap99]) (by simp [results, Tryd.results57, go_sem, z0, z1, z2]) rfl (X99.out.post V99.out T99.out (by omega))
    · skip
      go_wp2_with fail
      refine (anyType_sx HL.out HS.out _ vars X1.out (by repeat (first | exact Keep.refl _ _ | refine Keep.drew ?_ | refine Keep.alloc ?_ _ | fail)) V1.out (by omega) (by omega)).mono ?_
      rintro e w2 ⟨u, p2, rfl, u0, u1, hcu, hX, hk, hp2⟩
      have HCU := Lib.hid hcu
      clear hcu q1 r1
      have X2 := Lib.hid hX
      have V2 := Lib.hid (V1.out.keep hk X1.out.mem)
      have s2 := hX.size
      have tz2 := hk.size
      obtain ⟨q2, r2⟩ := hX.cells
      clear hX hk
      obtain ⟨d0, d1⟩ := half_in (show 3 ≤ b by omega)
      have hw : IntKind.i64.wrap (b.tdiv 2) = b.tdiv 2 := IntWalk.i64_in _ (by omega)
      have IHK := Lib.hid (IH.out (b.tdiv 2) d0 (by omega))
      have hcs : cst (b.tdiv 2).toNat ≤ C1 := by rw [HC1.out]; exact cst_mono (by omega)
      go_wp2
      go_region_held3 (fun w' => w'.cell? ⟨w.heap.size, 0, none⟩ = some (.slice da l.length dc) ∧ w'.cell? ⟨w.heap.size, 1, none⟩ = some (.slice fa fs.length fc))
        (first | (refine Sx.cells (Sx.keep0 X2.out ?_); (repeat (first | exact Keep.refl _ _ | refine Keep.drew ?_ | refine Keep.alloc ?_ _ | fail)); done) | (refine Sx.cells (Sx.keep0 X51.out ?_); (repeat (first | exact Keep.refl _ _ | refine Keep.drew ?_ | refine Keep.alloc ?_ _ | fail)); done) | (refine Sx.cells (Sx.keep0 X52.out ?_); (repeat (first | exact Keep.refl _ _ | refine Keep.drew ?_ | refine Keep.alloc ?_ _ | fail)); done) | (refine Sx.cells (Sx.keep0 X53.out ?_); (repeat (first | exact Keep.refl _ _ | refine Keep.drew ?_ | refine Keep.alloc ?_ _ | fail)); done) | (refine Sx.cells (Sx.keep0 X99.out ?_); (repeat (first | exact Keep.refl _ _ | refine Keep.drew ?_ | refine Keep.alloc ?_ _ | fail)); done) | go_keep)
        (first
        | (go_at_call 58
           have hq := X53.out
           clear hq
           refine (node_sx 13 0 _ [x, y] X53.out (by repeat (first | exact Keep.refl _ _ | refine Keep.drew ?_ | refine Keep.alloc ?_ _ | fail)) (kids_new2 RX3.out RY.out (fun g hg => by simp at hg; omega) |>.keep0 (by repeat (first | exact Keep.refl _ _ | refine Keep.drew ?_ | refine Keep.alloc ?_ _ | fail)))).mono ?_
           rintro e w99 ⟨a99, cap99, rfl, hX, hk, hv99⟩
           have X99 := Lib.hid hX
           have V99 := Lib.hid hv99
           have T99 := Lib.hid (TY.out)
           obtain ⟨⟨z0, z1, z2⟩, f0, f1, f2⟩ := hX.out
           obtain ⟨q99, r99⟩ := hX.cells
           have k99 := (Keep.put3' w99 (w.heap.size + 1) (.int .i64 (13)) (.int .i64 (0)) (.slice a99 2 cap99)).cellEq q99 (by simp)
           have j99 := (Keep.put3' w99 (w.heap.size + 1) (.int .i64 (13)) (.int .i64 (0)) (.slice a99 2 cap99)).cellEq r99 (by simp)
           clear hX hk hv99)
        | (go_at_call 57
           have hq := X52.out
           clear hq
           try rw [hw]
           refine (gen_sx IHK.out _ (vars ++ [u]) t X52.out (by repeat (first | exact Keep.refl _ _ | refine Keep.drew ?_ | refine Keep.alloc ?_ _ | fail)) (by first | exact R52.out | exact R52.out.keep0 (by repeat (first | exact Keep.refl _ _ | refine Keep.drew ?_ | refine Keep.alloc ?_ _ | fail))) (by simp; omega) t0 t1 (canB_weak _ HCB.out) (by omega)).mono ?_
           rintro e w53 ⟨y, p53, ay, cy, rfl, hy, hX, hk, _, hp53, hr53⟩
           have RY := Lib.hid (hr53.sub (G' := List.range (w.heap.size + 2)) (range_sub (by omega)))
           have RX3 := Lib.hid (RX2.out.keep hk (X52.out.rmem (by omega)))
           have TY := Lib.hid (show GnT l (sgs fs) vars t b (.mk 13 0 [x, y]) from ⟨.lett u0 TX.out hy.1, fun h => absurd h (by omega)⟩)
           have X53 := Lib.hid hX
           have s53 := hX.size
           clear hr53 hy hX hk)
        | (go_at_call 60
           have hq := X51.out
           clear hq
           refine (extend_sx _ _ vars [u] X51.out (by repeat (first | exact Keep.refl _ _ | refine Keep.drew ?_ | refine Keep.alloc ?_ _ | fail)) (by exact V51.out.keep0 (by repeat (first | exact Keep.refl _ _ | refine Keep.drew ?_ | refine Keep.alloc ?_ _ | fail))) (by first | exact LU.out.keep0 (by repeat (first | exact Keep.refl _ _ | refine Keep.drew ?_ | refine Keep.alloc ?_ _ | fail)) | (repeat (first | ((refine ints_newAt [u] ?_ ?_ (by simp)) <;> (first | (simp; done) | (intro g hg; have := X51.out.cx.hG g hg; simp; omega) | fail)) | refine Rep.drew ?_ | refine Rep.alloc ?_ _ | fail))) (by omega) (by simp)).mono ?_
           rintro e w52 ⟨ea, ec, rfl, hX, hk, hr52⟩
           have R52 := Lib.hid hr52
           rw [show (vars ++ [u]).length = vars.length + 1 by simp] at R52
           try rw [show (vars ++ [u]).length = vars.length + 1 by simp]
           have X52 := Lib.hid hX
           have s52 := hX.size
           have RX2 := Lib.hid (RX.out.keep0 hk)
           clear hr52 hX hk)
        | (go_at_call 57
           try rw [hw]
           refine (gen_sx IHK.out _ vars u X2.out (by repeat (first | exact Keep.refl _ _ | refine Keep.drew ?_ | refine Keep.alloc ?_ _ | fail)) V2.out (by omega) u0 u1 HCU.out (by omega)).mono ?_
           rintro e w51 ⟨x, p51, ax, cx, rfl, hx, hX, hk, hk', hp51, hr51⟩
           have RX := Lib.hid (hr51.sub (G' := List.range (w.heap.size + 2)) (range_sub (by omega)))
           have TX := Lib.hid hx.1
           have X51 := Lib.hid hX
           have V51 := Lib.hid (V2.out.keep hk X2.out.mem)
           have s51 := hX.size
           first
           | (refine cut (A := Hid (Rep G w51 (ints [u]) (.slice (some ⟨w2.heap.size, 0, none⟩) 1 1))) ?_ ?_
              · refine Lib.hid (Rep.keep ?_ hk' (memG hbr))
                (repeat (first | ((refine ints_newAt [u] ?_ ?_ (by simp)) <;> (first | (simp; done) | (intro g hg; have := X2.out.cx.hG g hg; simp; omega) | fail)) | refine Rep.drew ?_ | refine Rep.alloc ?_ _ | fail))
              intro LU)
           | skip
           clear hr51 hx hX hk hk'))
      all_goals
        go_wp2
        refine bodyPost_ret (v := .agg #[.int .i64 13, .int .i64 0, .slice a99 2 cap99]) (by simp [results, Tryd.results57, go_sem, z0, z1, z2]) rfl (X99.out.post (x := .mk 13 0 [x, y]) V99.out T99.out (by omega))
    · skip
      go_wp2_with fail
      refine (anyType_sx HL.out HS.out _ vars X1.out (by repeat (first | exact Keep.refl _ _ | refine Keep.drew ?_ | refine Keep.alloc ?_ _ | fail)) V1.out (by omega) (by omega)).mono ?_
      rintro e w2 ⟨u, p2, rfl, u0, u1, hcu, hX, hk, hp2⟩
      have HCU := Lib.hid hcu
      clear hcu q1 r1
      have X2 := Lib.hid hX
      have V2 := Lib.hid (V1.out.keep hk X1.out.mem)
      have s2 := hX.size
      have tz2 := hk.size
      obtain ⟨q2, r2⟩ := hX.cells
      clear hX hk
      obtain ⟨d0, d1⟩ := half_in (show 3 ≤ b by omega)
      have hw : IntKind.i64.wrap (b.tdiv 2) = b.tdiv 2 := IntWalk.i64_in _ (by omega)
      have IHK := Lib.hid (IH.out (b.tdiv 2) d0 (by omega))
      have hcs : cst (b.tdiv 2).toNat ≤ C1 := by rw [HC1.out]; exact cst_mono (by omega)
      go_wp2
      go_region_held3 (fun w' => w'.cell? ⟨w.heap.size, 0, none⟩ = some (.slice da l.length dc) ∧ w'.cell? ⟨w.heap.size, 1, none⟩ = some (.slice fa fs.length fc))
        (first | (refine Sx.cells (Sx.keep0 X2.out ?_); (repeat (first | exact Keep.refl _ _ | refine Keep.drew ?_ | refine Keep.alloc ?_ _ | fail)); done) | (refine Sx.cells (Sx.keep0 X51.out ?_); (repeat (first | exact Keep.refl _ _ | refine Keep.drew ?_ | refine Keep.alloc ?_ _ | fail)); done) | (refine Sx.cells (Sx.keep0 X52.out ?_); (repeat (first | exact Keep.refl _ _ | refine Keep.drew ?_ | refine Keep.alloc ?_ _ | fail)); done) | (refine Sx.cells (Sx.keep0 X53.out ?_); (repeat (first | exact Keep.refl _ _ | refine Keep.drew ?_ | refine Keep.alloc ?_ _ | fail)); done) | (refine Sx.cells (Sx.keep0 X99.out ?_); (repeat (first | exact Keep.refl _ _ | refine Keep.drew ?_ | refine Keep.alloc ?_ _ | fail)); done) | go_keep)
        (first
        | (go_at_call 58
           have hq := X53.out
           clear hq
           refine (node_sx 13 0 _ [x, y] X53.out (by repeat (first | exact Keep.refl _ _ | refine Keep.drew ?_ | refine Keep.alloc ?_ _ | fail)) (kids_new2 RX3.out RY.out (fun g hg => by simp at hg; omega) |>.keep0 (by repeat (first | exact Keep.refl _ _ | refine Keep.drew ?_ | refine Keep.alloc ?_ _ | fail)))).mono ?_
           rintro e w99 ⟨a99, cap99, rfl, hX, hk, hv99⟩
           have X99 := Lib.hid hX
           have V99 := Lib.hid hv99
           have T99 := Lib.hid (TY.out)
           obtain ⟨⟨z0, z1, z2⟩, f0, f1, f2⟩ := hX.out
           obtain ⟨q99, r99⟩ := hX.cells
           have k99 := (Keep.put3' w99 (w.heap.size + 1) (.int .i64 (13)) (.int .i64 (0)) (.slice a99 2 cap99)).cellEq q99 (by simp)
           have j99 := (Keep.put3' w99 (w.heap.size + 1) (.int .i64 (13)) (.int .i64 (0)) (.slice a99 2 cap99)).cellEq r99 (by simp)
           clear hX hk hv99)
        | (go_at_call 57
           have hq := X52.out
           clear hq
           try rw [hw]
           refine (gen_sx IHK.out _ (vars ++ [u]) t X52.out (by repeat (first | exact Keep.refl _ _ | refine Keep.drew ?_ | refine Keep.alloc ?_ _ | fail)) (by first | exact R52.out | exact R52.out.keep0 (by repeat (first | exact Keep.refl _ _ | refine Keep.drew ?_ | refine Keep.alloc ?_ _ | fail))) (by simp; omega) t0 t1 (canB_weak _ HCB.out) (by omega)).mono ?_
           rintro e w53 ⟨y, p53, ay, cy, rfl, hy, hX, hk, _, hp53, hr53⟩
           have RY := Lib.hid (hr53.sub (G' := List.range (w.heap.size + 2)) (range_sub (by omega)))
           have RX3 := Lib.hid (RX2.out.keep hk (X52.out.rmem (by omega)))
           have TY := Lib.hid (show GnT l (sgs fs) vars t b (.mk 13 0 [x, y]) from ⟨.lett u0 TX.out hy.1, fun h => absurd h (by omega)⟩)
           have X53 := Lib.hid hX
           have s53 := hX.size
           clear hr53 hy hX hk)
        | (go_at_call 60
           have hq := X51.out
           clear hq
           refine (extend_sx _ _ vars [u] X51.out (by repeat (first | exact Keep.refl _ _ | refine Keep.drew ?_ | refine Keep.alloc ?_ _ | fail)) (by exact V51.out.keep0 (by repeat (first | exact Keep.refl _ _ | refine Keep.drew ?_ | refine Keep.alloc ?_ _ | fail))) (by first | exact LU.out.keep0 (by repeat (first | exact Keep.refl _ _ | refine Keep.drew ?_ | refine Keep.alloc ?_ _ | fail)) | (repeat (first | ((refine ints_newAt [u] ?_ ?_ (by simp)) <;> (first | (simp; done) | (intro g hg; have := X51.out.cx.hG g hg; simp; omega) | fail)) | refine Rep.drew ?_ | refine Rep.alloc ?_ _ | fail))) (by omega) (by simp)).mono ?_
           rintro e w52 ⟨ea, ec, rfl, hX, hk, hr52⟩
           have R52 := Lib.hid hr52
           rw [show (vars ++ [u]).length = vars.length + 1 by simp] at R52
           try rw [show (vars ++ [u]).length = vars.length + 1 by simp]
           have X52 := Lib.hid hX
           have s52 := hX.size
           have RX2 := Lib.hid (RX.out.keep0 hk)
           clear hr52 hX hk)
        | (go_at_call 57
           try rw [hw]
           refine (gen_sx IHK.out _ vars u X2.out (by repeat (first | exact Keep.refl _ _ | refine Keep.drew ?_ | refine Keep.alloc ?_ _ | fail)) V2.out (by omega) u0 u1 HCU.out (by omega)).mono ?_
           rintro e w51 ⟨x, p51, ax, cx, rfl, hx, hX, hk, hk', hp51, hr51⟩
           have RX := Lib.hid (hr51.sub (G' := List.range (w.heap.size + 2)) (range_sub (by omega)))
           have TX := Lib.hid hx.1
           have X51 := Lib.hid hX
           have V51 := Lib.hid (V2.out.keep hk X2.out.mem)
           have s51 := hX.size
           first
           | (refine cut (A := Hid (Rep G w51 (ints [u]) (.slice (some ⟨w2.heap.size, 0, none⟩) 1 1))) ?_ ?_
              · refine Lib.hid (Rep.keep ?_ hk' (memG hbr))
                (repeat (first | ((refine ints_newAt [u] ?_ ?_ (by simp)) <;> (first | (simp; done) | (intro g hg; have := X2.out.cx.hG g hg; simp; omega) | fail)) | refine Rep.drew ?_ | refine Rep.alloc ?_ _ | fail))
              intro LU)
           | skip
           clear hr51 hx hX hk hk'))
      all_goals
        go_wp2
        refine bodyPost_ret (v := .agg #[.int .i64 13, .int .i64 0, .slice a99 2 cap99]) (by simp [results, Tryd.results57, go_sem, z0, z1, z2]) rfl (X99.out.post (x := .mk 13 0 [x, y]) V99.out T99.out (by omega))
    · skip
      have IHK := Lib.hid (fun b' (h0 : 0 ≤ b') (h1 : b' ≤ b - 1) => IH.out b' h0 (by omega))
      go_wp2_with fail
      refine (genAll_sx HS.out _ vars _ [0, t, t] (b - 1) X1.out (by repeat (first | exact Keep.refl _ _ | refine Keep.drew ?_ | refine Keep.alloc ?_ _ | fail)) V1.out (by exact ints_new [0, t, t] X1.out.cx.hG (by simp)) (by simp) (by omega) (by omega) (by omega) (fun u hu => by simp at hu; rcases hu with rfl | rfl; exact base_can HL.out vars (.inl rfl); exact ⟨t0, t1, HCB.out⟩) IHK.out (by rw [← HC1.out]; omega)).mono ?_
      rintro e w2 ⟨ks, p2, ka, kc, rfl, hks, hX, hk, _, hp2, hr2⟩
      rw [← HC1.out] at hp2
      obtain ⟨x, y, z, rfl, tx, ty, tz⟩ := kids3 hks
      have RK := Lib.hid (hr2.sub (G' := List.range (w.heap.size + 2)) (range_sub (by omega)))
      have TX := Lib.hid (show GnT l (sgs fs) vars t b (.mk 7 0 [x, y, z]) from ⟨.iff tx ty tz, fun h => absurd h (by omega)⟩)
      clear hr2 hks tx ty tz q1 r1
      have X2 := Lib.hid hX
      have V2 := Lib.hid (V1.out.keep hk X1.out.mem)
      have s2 := hX.size
      have tz2 := hk.size
      clear hX hk
      go_wp2_with fail
      refine (node_sx 7 0 _ [x, y, z] X2.out (by repeat (first | exact Keep.refl _ _ | refine Keep.drew ?_ | refine Keep.alloc ?_ _ | fail)) RK.out).mono ?_
      rintro e w99 ⟨a99, cap99, rfl, hX, hk, hv99⟩
      have X99 := Lib.hid hX
      have V99 := Lib.hid hv99
      have T99 := Lib.hid (TX.out)
      obtain ⟨⟨z0, z1, z2⟩, f0, f1, f2⟩ := hX.out
      clear hX hk hv99 
      go_wp2
      refine bodyPost_ret (v := .agg #[.int .i64 (7), .int .i64 (0), .slice a99 3 cap99]) (by simp [results, Tryd.results57, go_sem, z0, z1, z2]) rfl (X99.out.post (x := .mk (7) (0) [x, y, z]) V99.out T99.out (by omega))
    · skip
      have IHM := Lib.hid (fun b' (h0 : 0 ≤ b') (h1 : b' < b) => IH.out b' h0 h1)
      have hcs : cst (b - 2).toNat ≤ C1 := by rw [HC1.out]; exact cst_mono (by omega)
      go_wp2_with fail
      refine (genMatch_sx HL.out HS.out _ vars t b X1.out (by repeat (first | exact Keep.refl _ _ | refine Keep.drew ?_ | refine Keep.alloc ?_ _ | fail)) V1.out t0 t1 HCB.out (by omega) (by omega) (by omega) IHM.out (by omega)).mono ?_
      rintro e w99 ⟨x, p99, a99, cap99, rfl, hx99, hX, hk, _, hp99, hv99⟩
      have X99 := Lib.hid hX
      have V99 := Lib.hid (show Rep (List.range (w.heap.size + 2)) w99 (kidsD x.kids) (.slice a99 x.kids.length cap99) from hv99.sub (range_sub (by omega)))
      have T99 := Lib.hid (show GnT l (sgs fs) vars t b x from ⟨hx99, fun h => absurd h (by omega)⟩)
      obtain ⟨⟨z0, z1, z2⟩, f0, f1, f2⟩ := hX.out
      clear hX hk hv99 hx99 q1 r1
      go_wp2
      refine bodyPost_ret (v := .agg #[.int .i64 x.op, .int .i64 x.num, .slice a99 x.kids.length cap99]) (by simp [results, Tryd.results57, go_sem, z0, z1, z2]) rfl (X99.out.post V99.out T99.out (by omega))
    · skip
      have IHM := Lib.hid (fun b' (h0 : 0 ≤ b') (h1 : b' < b) => IH.out b' h0 h1)
      have hcs : cst (b - 2).toNat ≤ C1 := by rw [HC1.out]; exact cst_mono (by omega)
      go_wp2_with fail
      refine (genMatch_sx HL.out HS.out _ vars t b X1.out (by repeat (first | exact Keep.refl _ _ | refine Keep.drew ?_ | refine Keep.alloc ?_ _ | fail)) V1.out t0 t1 HCB.out (by omega) (by omega) (by omega) IHM.out (by omega)).mono ?_
      rintro e w99 ⟨x, p99, a99, cap99, rfl, hx99, hX, hk, _, hp99, hv99⟩
      have X99 := Lib.hid hX
      have V99 := Lib.hid (show Rep (List.range (w.heap.size + 2)) w99 (kidsD x.kids) (.slice a99 x.kids.length cap99) from hv99.sub (range_sub (by omega)))
      have T99 := Lib.hid (show GnT l (sgs fs) vars t b x from ⟨hx99, fun h => absurd h (by omega)⟩)
      obtain ⟨⟨z0, z1, z2⟩, f0, f1, f2⟩ := hX.out
      clear hX hk hv99 hx99 q1 r1
      go_wp2
      refine bodyPost_ret (v := .agg #[.int .i64 x.op, .int .i64 x.num, .slice a99 x.kids.length cap99]) (by simp [results, Tryd.results57, go_sem, z0, z1, z2]) rfl (X99.out.post V99.out T99.out (by omega))
    · skip
      have IHM := Lib.hid (fun b' (h0 : 0 ≤ b') (h1 : b' < b) => IH.out b' h0 h1)
      have hcs : cst (b - 2).toNat ≤ C1 := by rw [HC1.out]; exact cst_mono (by omega)
      go_wp2_with fail
      refine (genMatch_sx HL.out HS.out _ vars t b X1.out (by repeat (first | exact Keep.refl _ _ | refine Keep.drew ?_ | refine Keep.alloc ?_ _ | fail)) V1.out t0 t1 HCB.out (by omega) (by omega) (by omega) IHM.out (by omega)).mono ?_
      rintro e w99 ⟨x, p99, a99, cap99, rfl, hx99, hX, hk, _, hp99, hv99⟩
      have X99 := Lib.hid hX
      have V99 := Lib.hid (show Rep (List.range (w.heap.size + 2)) w99 (kidsD x.kids) (.slice a99 x.kids.length cap99) from hv99.sub (range_sub (by omega)))
      have T99 := Lib.hid (show GnT l (sgs fs) vars t b x from ⟨hx99, fun h => absurd h (by omega)⟩)
      obtain ⟨⟨z0, z1, z2⟩, f0, f1, f2⟩ := hX.out
      clear hX hk hv99 hx99 q1 r1
      go_wp2
      refine bodyPost_ret (v := .agg #[.int .i64 x.op, .int .i64 x.num, .slice a99 x.kids.length cap99]) (by simp [results, Tryd.results57, go_sem, z0, z1, z2]) rfl (X99.out.post V99.out T99.out (by omega))
    · skip
      go_wp2_with fail
      refine (callable_sx (by omega) hn1 t X1.out (by repeat (first | exact Keep.refl _ _ | refine Keep.drew ?_ | refine Keep.alloc ?_ _ | fail))).mono ?_
      rintro e w2 ⟨la, lc, rfl, hX, hk, hr2⟩
      have RL := Lib.hid hr2
      clear hr2 q1 r1
      have X2 := Lib.hid hX
      have V2 := Lib.hid (V1.out.keep0 hk)
      have s2 := hX.size
      have tz2 := hk.size
      obtain ⟨q2, r2⟩ := hX.cells
      clear hX hk
      have hkl := calK_len l (sgs fs) t fs.length
      rcases Nat.eq_zero_or_pos (calK l (sgs fs) t fs.length).length with hz | hz
      · skip
        rw [hz]
        clear hz hkl
        have IHM := Lib.hid (fun b' (h0 : 0 ≤ b') (h1 : b' < b) => IH.out b' h0 h1)
        go_wp2_with fail
        refine (genOther_sx HL.out HS.out _ vars t b X2.out (by repeat (first | exact Keep.refl _ _ | refine Keep.drew ?_ | refine Keep.alloc ?_ _ | fail)) V2.out t0 t1 HCB.out (by omega) (by omega) (by omega) IHM.out (by rw [← HC1.out]; omega)).mono ?_
        rintro e w99 ⟨x, p99, a99, cap99, rfl, hx99, hX, hk, _, hp99, hv99⟩
        rw [← HC1.out] at hp99
        have X99 := Lib.hid hX
        have V99 := Lib.hid (show Rep (List.range (w.heap.size + 2)) w99 (kidsD x.kids) (.slice a99 x.kids.length cap99) from hv99.sub (range_sub (by omega)))
        have T99 := Lib.hid (show GnT l (sgs fs) vars t b x from ⟨hx99, fun h => absurd h (by omega)⟩)
        obtain ⟨⟨z0, z1, z2⟩, f0, f1, f2⟩ := hX.out
        clear hX hk hv99 hx99 q2 r2
        go_wp2
        refine bodyPost_ret (v := .agg #[.int .i64 x.op, .int .i64 x.num, .slice a99 x.kids.length cap99]) (by simp [results, Tryd.results57, go_sem, z0, z1, z2]) rfl (X99.out.post V99.out T99.out (by omega))
      · skip
        have g0 : decide ((0 : Int) < ((calK l (sgs fs) t fs.length).length : Int)) = true := by simp; omega
        have CM := Lib.hid (fun c (h : c ∈ calK l (sgs fs) t fs.length) => calK_mem h)
        generalize calK l (sgs fs) t fs.length = L at *
        clear q2 r2
        go_wp2_with fail
        refine (pick_sx L.length X2.out (by repeat (first | exact Keep.refl _ _ | refine Keep.drew ?_ | refine Keep.alloc ?_ _ | fail)) (by omega) (by omega)).mono ?_
        rintro e w3 ⟨kc, rfl, kca, kcb, hX, hk⟩
        have kcc := kcb (by omega)
        clear kcb
        have HK9 := Lib.hid hk
        have X3 := Lib.hid hX
        have V3 := Lib.hid (V2.out.keep hk X2.out.mem)
        have s3 := hX.size
        have tz3 := hk.size
        obtain ⟨q3, r3⟩ := hX.cells
        clear hX hk
        obtain ⟨n5, rfl⟩ := Int.eq_ofNat_of_zero_le kca
        have hn5 : n5 < L.length := by omega
        obtain ⟨b5, off5, rfl, _, _, cl5⟩ := ints_at (RL.out.keep HK9.out X2.out.mem) hn5
        obtain ⟨f, hf, hfe, hfr, hfc⟩ := CM.out _ (List.getElem_mem hn5)
        rw [hfe] at cl5
        rw [sgs_at hf] at hfr hfc
        obtain ⟨bf, of, _, _, _, _, rfl, hbf, _⟩ := funcs_at HF0.out hf
        obtain ⟨pa, pc, _, _, cp, _, _, _, _, rp, _⟩ := funcs_cell X3.out.cx.hf hf
        have HSF := Lib.hid (HS.out.plen f (by rw [sgs_len]; exact hf))
        have hps : fs[f].sig.params.length ≤ 3 := by have := HSF.out; simpa [sgs] using this
        have HPT := Lib.hid (show ∀ u ∈ fs[f].sig.params, 0 ≤ u ∧ u ≤ l.length ∧ canB l (sgs fs) vars u = true from fun u hu => by
          have h1 := HS.out.ptys f (by rw [sgs_len]; exact hf) u (by simpa [sgs] using hu)
          have := HL.out.len
          exact ⟨by omega, by omega, canB_nil_any vars (hfc u hu)⟩)
        have RP := Lib.hid rp
        have HPS := Lib.hid (show (sgAt (sgs fs) f).params = fs[f].sig.params by rw [sgs_at hf])
        have HRS := Lib.hid (show (sgAt (sgs fs) f).result = t by rw [sgs_at hf]; exact hfr)
        have hbn : bf ≠ br := by rintro rfl; exact funcs_out HF0.out (by omega) hbr
        generalize fs[f].sig.params = ps at *
        have hw1 : IntKind.i64.wrap (b - 1) = b - 1 := IntWalk.i64_in _ (by omega)
        have hf0 : (0 : Int) ≤ (f : Int) := by omega
        have hf1 : (f : Int) < (fs.length : Int) := by omega
        have IHK := Lib.hid (fun b' (h0 : 0 ≤ b') (h1 : b' ≤ b - 1) => IH.out b' h0 (by omega))
        clear g0 hfe hfr hfc rp HSF
        go_wp2
        go_region_held3 (fun w' => w'.cell? ⟨w.heap.size, 0, none⟩ = some (.slice da l.length dc) ∧ w'.cell? ⟨w.heap.size, 1, none⟩ = some (.slice (some ⟨bf, of, none⟩) fs.length fc) ∧ w'.cell? ⟨bf, of + f * 5, none⟩ = some (.slice pa ps.length pc))
          (first | (refine Sx.cells5 X3.out cp ?_; (repeat (first | exact Keep.refl _ _ | refine Keep.drew ?_ | refine Keep.alloc ?_ _ | fail)); done) | (refine Sx.cells5 X51.out cp51 ?_; (repeat (first | exact Keep.refl _ _ | refine Keep.drew ?_ | refine Keep.alloc ?_ _ | fail)); done) | (refine Sx.cells5 X99.out cp99 ?_; (repeat (first | exact Keep.refl _ _ | refine Keep.drew ?_ | refine Keep.alloc ?_ _ | fail)); done) | exact ⟨k99, j99, i99⟩ | go_keep)
          (first
          | (go_at_call 58
             have hq := X51.out
             clear hq
             refine (node_sx 9 (f : Int) _ ks X51.out (by repeat (first | exact Keep.refl _ _ | refine Keep.drew ?_ | refine Keep.alloc ?_ _ | fail)) (RK.out.keep0 (by repeat (first | exact Keep.refl _ _ | refine Keep.drew ?_ | refine Keep.alloc ?_ _ | fail)))).mono ?_
             rintro e w99 ⟨a99, cap99, rfl, hX, hk, hv99⟩
             have X99 := Lib.hid hX
             have V99 := Lib.hid hv99
             have T99 := Lib.hid (TK.out)
             obtain ⟨⟨z0, z1, z2⟩, f0, f1, f2⟩ := hX.out
             obtain ⟨q99, r99⟩ := hX.cells
             have k99 := (Keep.put3' w99 (w.heap.size + 1) (.int .i64 (9)) (.int .i64 ((f : Int))) (.slice a99 ks.length cap99)).cellEq q99 (by simp)
             have j99 := (Keep.put3' w99 (w.heap.size + 1) (.int .i64 (9)) (.int .i64 ((f : Int))) (.slice a99 ks.length cap99)).cellEq r99 (by simp)
             have cp99 := hk.cellEq cp51 (by simp)
             have i99 := (Keep.put3' w99 (w.heap.size + 1) (.int .i64 9) (.int .i64 (f : Int)) (.slice a99 ks.length cap99)).cellEq cp99 (by simp; omega)
             clear hX hk hv99)
          | (go_at_call 73
             try rw [hw1]
             refine (genAll_sx HS.out _ vars _ ps (b - 1) X3.out (by repeat (first | exact Keep.refl _ _ | refine Keep.drew ?_ | refine Keep.alloc ?_ _ | fail)) V3.out (by exact RP.out.keep0 (by repeat (first | exact Keep.refl _ _ | refine Keep.drew ?_ | refine Keep.alloc ?_ _ | fail))) hps (by omega) (by omega) (by omega) HPT.out IHK.out (by rw [← HC1.out]; omega)).mono ?_
             rintro e w51 ⟨ks, p51, ka, kc, rfl, hks, hX, hk, _, hp51, hr51⟩
             rw [← HC1.out] at hp51
             have RK := Lib.hid (hr51.sub (G' := List.range (w.heap.size + 2)) (range_sub (by omega)))
             have TK := Lib.hid (show GnT l (sgs fs) vars t b (.mk 9 (f : Int) ks) from ⟨by
               have h := HasTy.call (l := l) (sg := sgs fs) (vars := vars) (f := f) (kids := ks) (by rw [sgs_len]; exact hf) (by rw [HPS.out]; exact hks.1) (by rw [HPS.out]; exact hks.2)
               rw [HRS.out] at h
               exact h, fun h => absurd h (by omega)⟩)
             have X51 := Lib.hid hX
             have s51 := hX.size
             have cp51 := hk.cellEq cp (by simp; omega)
             clear hr51 hks hX hk))
        all_goals
          go_wp2
          refine bodyPost_ret (v := .agg #[.int .i64 9, .int .i64 (f : Int), .slice a99 ks.length cap99]) (by simp [results, Tryd.results57, go_sem, z0, z1, z2]) rfl (X99.out.post (x := .mk 9 (f : Int) ks) V99.out T99.out (by omega))
    · skip
      go_wp2_with fail
      refine (callable_sx (by omega) hn1 t X1.out (by repeat (first | exact Keep.refl _ _ | refine Keep.drew ?_ | refine Keep.alloc ?_ _ | fail))).mono ?_
      rintro e w2 ⟨la, lc, rfl, hX, hk, hr2⟩
      have RL := Lib.hid hr2
      clear hr2 q1 r1
      have X2 := Lib.hid hX
      have V2 := Lib.hid (V1.out.keep0 hk)
      have s2 := hX.size
      have tz2 := hk.size
      obtain ⟨q2, r2⟩ := hX.cells
      clear hX hk
      have hkl := calK_len l (sgs fs) t fs.length
      rcases Nat.eq_zero_or_pos (calK l (sgs fs) t fs.length).length with hz | hz
      · skip
        rw [hz]
        clear hz hkl
        have IHM := Lib.hid (fun b' (h0 : 0 ≤ b') (h1 : b' < b) => IH.out b' h0 h1)
        go_wp2_with fail
        refine (genOther_sx HL.out HS.out _ vars t b X2.out (by repeat (first | exact Keep.refl _ _ | refine Keep.drew ?_ | refine Keep.alloc ?_ _ | fail)) V2.out t0 t1 HCB.out (by omega) (by omega) (by omega) IHM.out (by rw [← HC1.out]; omega)).mono ?_
        rintro e w99 ⟨x, p99, a99, cap99, rfl, hx99, hX, hk, _, hp99, hv99⟩
        rw [← HC1.out] at hp99
        have X99 := Lib.hid hX
        have V99 := Lib.hid (show Rep (List.range (w.heap.size + 2)) w99 (kidsD x.kids) (.slice a99 x.kids.length cap99) from hv99.sub (range_sub (by omega)))
        have T99 := Lib.hid (show GnT l (sgs fs) vars t b x from ⟨hx99, fun h => absurd h (by omega)⟩)
        obtain ⟨⟨z0, z1, z2⟩, f0, f1, f2⟩ := hX.out
        clear hX hk hv99 hx99 q2 r2
        go_wp2
        refine bodyPost_ret (v := .agg #[.int .i64 x.op, .int .i64 x.num, .slice a99 x.kids.length cap99]) (by simp [results, Tryd.results57, go_sem, z0, z1, z2]) rfl (X99.out.post V99.out T99.out (by omega))
      · skip
        have g0 : decide ((0 : Int) < ((calK l (sgs fs) t fs.length).length : Int)) = true := by simp; omega
        have CM := Lib.hid (fun c (h : c ∈ calK l (sgs fs) t fs.length) => calK_mem h)
        generalize calK l (sgs fs) t fs.length = L at *
        clear q2 r2
        go_wp2_with fail
        refine (pick_sx L.length X2.out (by repeat (first | exact Keep.refl _ _ | refine Keep.drew ?_ | refine Keep.alloc ?_ _ | fail)) (by omega) (by omega)).mono ?_
        rintro e w3 ⟨kc, rfl, kca, kcb, hX, hk⟩
        have kcc := kcb (by omega)
        clear kcb
        have HK9 := Lib.hid hk
        have X3 := Lib.hid hX
        have V3 := Lib.hid (V2.out.keep hk X2.out.mem)
        have s3 := hX.size
        have tz3 := hk.size
        obtain ⟨q3, r3⟩ := hX.cells
        clear hX hk
        obtain ⟨n5, rfl⟩ := Int.eq_ofNat_of_zero_le kca
        have hn5 : n5 < L.length := by omega
        obtain ⟨b5, off5, rfl, _, _, cl5⟩ := ints_at (RL.out.keep HK9.out X2.out.mem) hn5
        obtain ⟨f, hf, hfe, hfr, hfc⟩ := CM.out _ (List.getElem_mem hn5)
        rw [hfe] at cl5
        rw [sgs_at hf] at hfr hfc
        obtain ⟨bf, of, _, _, _, _, rfl, hbf, _⟩ := funcs_at HF0.out hf
        obtain ⟨pa, pc, _, _, cp, _, _, _, _, rp, _⟩ := funcs_cell X3.out.cx.hf hf
        have HSF := Lib.hid (HS.out.plen f (by rw [sgs_len]; exact hf))
        have hps : fs[f].sig.params.length ≤ 3 := by have := HSF.out; simpa [sgs] using this
        have HPT := Lib.hid (show ∀ u ∈ fs[f].sig.params, 0 ≤ u ∧ u ≤ l.length ∧ canB l (sgs fs) vars u = true from fun u hu => by
          have h1 := HS.out.ptys f (by rw [sgs_len]; exact hf) u (by simpa [sgs] using hu)
          have := HL.out.len
          exact ⟨by omega, by omega, canB_nil_any vars (hfc u hu)⟩)
        have RP := Lib.hid rp
        have HPS := Lib.hid (show (sgAt (sgs fs) f).params = fs[f].sig.params by rw [sgs_at hf])
        have HRS := Lib.hid (show (sgAt (sgs fs) f).result = t by rw [sgs_at hf]; exact hfr)
        have hbn : bf ≠ br := by rintro rfl; exact funcs_out HF0.out (by omega) hbr
        generalize fs[f].sig.params = ps at *
        have hw1 : IntKind.i64.wrap (b - 1) = b - 1 := IntWalk.i64_in _ (by omega)
        have hf0 : (0 : Int) ≤ (f : Int) := by omega
        have hf1 : (f : Int) < (fs.length : Int) := by omega
        have IHK := Lib.hid (fun b' (h0 : 0 ≤ b') (h1 : b' ≤ b - 1) => IH.out b' h0 (by omega))
        clear g0 hfe hfr hfc rp HSF
        go_wp2
        go_region_held3 (fun w' => w'.cell? ⟨w.heap.size, 0, none⟩ = some (.slice da l.length dc) ∧ w'.cell? ⟨w.heap.size, 1, none⟩ = some (.slice (some ⟨bf, of, none⟩) fs.length fc) ∧ w'.cell? ⟨bf, of + f * 5, none⟩ = some (.slice pa ps.length pc))
          (first | (refine Sx.cells5 X3.out cp ?_; (repeat (first | exact Keep.refl _ _ | refine Keep.drew ?_ | refine Keep.alloc ?_ _ | fail)); done) | (refine Sx.cells5 X51.out cp51 ?_; (repeat (first | exact Keep.refl _ _ | refine Keep.drew ?_ | refine Keep.alloc ?_ _ | fail)); done) | (refine Sx.cells5 X99.out cp99 ?_; (repeat (first | exact Keep.refl _ _ | refine Keep.drew ?_ | refine Keep.alloc ?_ _ | fail)); done) | exact ⟨k99, j99, i99⟩ | go_keep)
          (first
          | (go_at_call 58
             have hq := X51.out
             clear hq
             refine (node_sx 9 (f : Int) _ ks X51.out (by repeat (first | exact Keep.refl _ _ | refine Keep.drew ?_ | refine Keep.alloc ?_ _ | fail)) (RK.out.keep0 (by repeat (first | exact Keep.refl _ _ | refine Keep.drew ?_ | refine Keep.alloc ?_ _ | fail)))).mono ?_
             rintro e w99 ⟨a99, cap99, rfl, hX, hk, hv99⟩
             have X99 := Lib.hid hX
             have V99 := Lib.hid hv99
             have T99 := Lib.hid (TK.out)
             obtain ⟨⟨z0, z1, z2⟩, f0, f1, f2⟩ := hX.out
             obtain ⟨q99, r99⟩ := hX.cells
             have k99 := (Keep.put3' w99 (w.heap.size + 1) (.int .i64 (9)) (.int .i64 ((f : Int))) (.slice a99 ks.length cap99)).cellEq q99 (by simp)
             have j99 := (Keep.put3' w99 (w.heap.size + 1) (.int .i64 (9)) (.int .i64 ((f : Int))) (.slice a99 ks.length cap99)).cellEq r99 (by simp)
             have cp99 := hk.cellEq cp51 (by simp)
             have i99 := (Keep.put3' w99 (w.heap.size + 1) (.int .i64 9) (.int .i64 (f : Int)) (.slice a99 ks.length cap99)).cellEq cp99 (by simp; omega)
             clear hX hk hv99)
          | (go_at_call 73
             try rw [hw1]
             refine (genAll_sx HS.out _ vars _ ps (b - 1) X3.out (by repeat (first | exact Keep.refl _ _ | refine Keep.drew ?_ | refine Keep.alloc ?_ _ | fail)) V3.out (by exact RP.out.keep0 (by repeat (first | exact Keep.refl _ _ | refine Keep.drew ?_ | refine Keep.alloc ?_ _ | fail))) hps (by omega) (by omega) (by omega) HPT.out IHK.out (by rw [← HC1.out]; omega)).mono ?_
             rintro e w51 ⟨ks, p51, ka, kc, rfl, hks, hX, hk, _, hp51, hr51⟩
             rw [← HC1.out] at hp51
             have RK := Lib.hid (hr51.sub (G' := List.range (w.heap.size + 2)) (range_sub (by omega)))
             have TK := Lib.hid (show GnT l (sgs fs) vars t b (.mk 9 (f : Int) ks) from ⟨by
               have h := HasTy.call (l := l) (sg := sgs fs) (vars := vars) (f := f) (kids := ks) (by rw [sgs_len]; exact hf) (by rw [HPS.out]; exact hks.1) (by rw [HPS.out]; exact hks.2)
               rw [HRS.out] at h
               exact h, fun h => absurd h (by omega)⟩)
             have X51 := Lib.hid hX
             have s51 := hX.size
             have cp51 := hk.cellEq cp (by simp; omega)
             clear hr51 hks hX hk))
        all_goals
          go_wp2
          refine bodyPost_ret (v := .agg #[.int .i64 9, .int .i64 (f : Int), .slice a99 ks.length cap99]) (by simp [results, Tryd.results57, go_sem, z0, z1, z2]) rfl (X99.out.post (x := .mk 9 (f : Int) ks) V99.out T99.out (by omega))
    · skip
      have g9 : (k1 == 0) = false ∧ (k1 == 1) = false ∧ (k1 == 2) = false ∧ (k1 == 3) = false ∧ (k1 == 4) = false ∧ (k1 == 5) = false ∧ (k1 == 6) = false ∧ (k1 == 7) = false ∧ (k1 == 8) = false := by simp; omega
      obtain ⟨g0, g1, g2, g3, g4, g5, g6, g7, g8⟩ := g9
      have IHM := Lib.hid (fun b' (h0 : 0 ≤ b') (h1 : b' < b) => IH.out b' h0 h1)
      go_wp2_with fail
      refine (genOther_sx HL.out HS.out _ vars t b X1.out (by repeat (first | exact Keep.refl _ _ | refine Keep.drew ?_ | refine Keep.alloc ?_ _ | fail)) V1.out t0 t1 HCB.out (by omega) (by omega) (by omega) IHM.out (by rw [← HC1.out]; omega)).mono ?_
      rintro e w99 ⟨x, p99, a99, cap99, rfl, hx99, hX, hk, _, hp99, hv99⟩
      rw [← HC1.out] at hp99
      have X99 := Lib.hid hX
      have V99 := Lib.hid (show Rep (List.range (w.heap.size + 2)) w99 (kidsD x.kids) (.slice a99 x.kids.length cap99) from hv99.sub (range_sub (by omega)))
      have T99 := Lib.hid (show GnT l (sgs fs) vars t b x from ⟨hx99, fun h => absurd h (by omega)⟩)
      obtain ⟨⟨z0, z1, z2⟩, f0, f1, f2⟩ := hX.out
      clear hX hk hv99 hx99 q1 r1
      go_wp2
      refine bodyPost_ret (v := .agg #[.int .i64 x.op, .int .i64 x.num, .slice a99 x.kids.length cap99]) (by simp [results, Tryd.results57, go_sem, z0, z1, z2]) rfl (X99.out.post V99.out T99.out (by omega))

theorem gen_all {l : List Dc} {fs : List Fn} (hl : GD l) (hs : GS l (sgs fs)) (b : Int) (b0 : 0 ≤ b) (b1 : b ≤ 1000) : GenC l fs b := by
  obtain ⟨n, rfl⟩ := Int.eq_ofNat_of_zero_le b0
  induction n using Nat.strongRecOn with
  | ind n ih =>
    refine gen_step hl hs n b0 b1 (fun b' h0 h1 => ?_)
    obtain ⟨m, rfl⟩ := Int.eq_ofNat_of_zero_le h0
    exact ih m (by omega) h0 (by omega)
end Go.Proofs.YtnjincgemmgllaaDoor
