/- The walk of DrawFormatOutcome. -/
import Derived.Test.YtnjincgemmgllaaDoorGPc
import Derived.Test.YtnjincgemmgllaaDoorEvJ
import Derived.Deep.DeepCutAuto
import Derived.Deep.RegionLaw
namespace Go.Proofs.YtnjincgemmgllaaDoor
open Go.RowKit
attribute [local go_sem ↓] Go.wp_at_zero Go.wp_at_succ

theorem BytesIn.keep0 {w w' : World} {a : Option Addr} {len : Nat} (h : BytesIn w a len) (hk : Keep [] w w') : BytesIn w' a len := fun j hj => by
  obtain ⟨b, off, n, h1, h2, h3, h4, h5⟩ := h j hj
  exact ⟨b, off, n, h1, Nat.lt_of_lt_of_le h2 hk.size, h3, h4, hk.cellEq h5 (by simp)⟩
/- a drawn outcome in a variable's block ko; br the reader -/
structure Dr (w wx : World) (p ko : Nat) (st va ca : Int) (a : Option Addr) (cap : Nat) (os : List Int) : Prop where
  keep : Keep [] w wx
  rd : RdAt (w.heap.size + 2) wx (w.heap.size + 1) p
  pb : p ≤ 200000000000000
  blk : wx.heap[ko]? = some (.cells #[.int .i64 st, .int .i64 va, .int .i64 ca, .slice a os.length cap] 27 (0, 0))
  res : wx.heap[w.heap.size]? = some (.cells #[.int .i64 0, .int .i64 0, .int .i64 0, .slice none 0 0] 27 (0, 0))
  own : Own [w.heap.size, w.heap.size + 1, ko] (w.heap.size + 2) wx 3 1 (.slice a os.length cap) (intsE os)
  len : os.length ≤ 100000
  ca0 : -1 ≤ ca
  ca1 : ca ≤ 41
  hko : w.heap.size + 2 ≤ ko
theorem step_wanted {P : Program} {ops : Array Oper} {o : Oper} {a : Act} {K : Act → World → Prop} {Q : Exit → Act → World → Prop} {w : World} {X : Prop} (hgd : o.guard = none) (h : Oper.wp P o a w K Q) : if Region.wanted o (yielded ops a.tmps) = true then Oper.wp P o a w K Q else X := by
  have hw : Region.wanted o (yielded ops a.tmps) = true := by simp [Region.wanted, hgd]
  rw [if_pos hw]
  exact h
theorem hp_new (w : World) (o : Obj) {n : Nat} (h : n = w.heap.size) : (w.alloc o).heap[n]? = some o := by subst h; exact heap_alloc_new w o
theorem hp_old {w : World} {o v : Obj} {n : Nat} (h : w.heap[n]? = some v) : (w.alloc o).heap[n]? = some v := (Below.heap_alloc w o n (Array.getElem?_eq_some_iff.1 h).1).trans h
theorem hp_drew {w : World} {v : Obj} {n : Nat} (h : w.heap[n]? = some v) : w.drew.heap[n]? = some v := h
theorem put4_block {w : World} {k : Nat} {a0 a1 a2 a3 c0 c1 c2 c3 : Value} {T : TypeId} (h : w.heap[k]? = some (.cells #[a0, a1, a2, a3] T (0, 0))) : (put4 w k c0 c1 c2 c3).heap[k]? = some (.cells #[c0, c1, c2, c3] T (0, 0)) := by
  simp [put4, World.setCell, Array.getElem?_modify, h]
theorem own_list {G : List Nat} {B B' : Nat} {w : World} {E : TypeId} {v : Value} {zs : List Int} (h : Own [] B w E 1 v (intsE zs)) (hB : B' ≤ B) (hG : ∀ g, g ∈ ob v → g ∉ G) : Own G B' w E 1 v (intsE zs) := by
  have h1 := h.base hB
  obtain ⟨⟨cs, hr, hc⟩, hs, ha⟩ := h1
  refine ⟨⟨cs, hr, ?_⟩, hs, hG⟩
  have : ∀ (l : List Int) (vs : List Value), RepC (ob v ++ []) w (intsE l).flatten vs → RepC (ob v ++ G) w (intsE l).flatten vs := by
    intro l
    induction l with
    | nil => intro vs h; cases vs with
      | nil => exact trivial
      | cons _ _ => exact h.elim
    | cons n l ih => intro vs h; cases vs with
      | nil => exact h.elim
      | cons u vs => exact ⟨h.1, ih vs h.2⟩
  exact this zs cs hc
theorem dr_put {w x2 : World} {p ko Bc : Nat} {st va : Int} {c : Nat} {a : Option Addr} {cap : Nat} {os : List Int} (hk : Keep [] w x2) (hr : RdAt (w.heap.size + 2) x2 (w.heap.size + 1) p) (hp : p ≤ 200000000000000) (hb : x2.heap[ko]? = some (.cells #[.int .i64 0, .int .i64 0, .int .i64 0, .slice none 0 0] 27 (0, 0))) (hres : x2.heap[w.heap.size]? = some (.cells #[.int .i64 0, .int .i64 0, .int .i64 0, .slice none 0 0] 27 (0, 0)))
    (ho : Own [] Bc x2 3 1 (.slice a os.length cap) (intsE os)) (hBc : w.heap.size + 2 ≤ Bc) (hne : ∀ g, g ∈ ob (.slice a os.length cap) → g ≠ ko) (hos : os.length ≤ 100000) (hc : c ≤ 40) (hko : w.heap.size + 2 ≤ ko) :
    Dr w (put4 x2 ko (.int .i64 st) (.int .i64 va) (.int .i64 (c : Int)) (.slice a os.length cap)) p ko st va c a cap os := by
  have KP := Keep.put4' x2 ko (.int .i64 st) (.int .i64 va) (.int .i64 (c : Int)) (.slice a os.length cap)
  refine ⟨hk.trans KP (fun m hm => .inr (by simp at hm; omega)), hr.keep KP (fun m hm => by simp at hm; omega), hp, put4_block hb, ?_, ?_, hos, by omega, by omega, hko⟩
  · rw [KP.block w.heap.size (Array.getElem?_eq_some_iff.1 hres).1 (by simp; omega)]
    exact hres
  · refine (own_list ho hBc (fun g hg hm => ?_)).keep KP (fun m hm => .inl (by simp at hm; simp [hm]))
    have h1 := hne g hg
    have h2 := ho.lt g hg
    simp at hm
    omega
theorem dr_new {w x2 : World} {p Bc : Nat} {st va : Int} {c : Nat} {a : Option Addr} {cap : Nat} {os : List Int} (hk : Keep [] w x2) (hr : RdAt (w.heap.size + 2) x2 (w.heap.size + 1) p) (hp : p ≤ 200000000000000) (hres : x2.heap[w.heap.size]? = some (.cells #[.int .i64 0, .int .i64 0, .int .i64 0, .slice none 0 0] 27 (0, 0)))
    (ho : Own [] Bc x2 3 1 (.slice a os.length cap) (intsE os)) (hBc : w.heap.size + 2 ≤ Bc) (hos : os.length ≤ 100000) (hc : c ≤ 40) (hko : w.heap.size + 2 ≤ x2.heap.size) :
    Dr w (x2.alloc (.cells #[.int .i64 st, .int .i64 va, .int .i64 (c : Int), .slice a os.length cap] 27)) p x2.heap.size st va c a cap os := by
  refine ⟨hk.alloc _, hr.keep0 ((Keep.refl _ _).alloc _), hp, heap_alloc_new x2 _, hp_old hres, ?_, hos, by omega, by omega, hko⟩
  refine (own_list ho hBc (fun g hg hm => ?_)).alloc _
  have h2 := ho.lt g hg
  simp at hm
  omega
theorem Dr.keepR {w wx wy : World} {p p' ko : Nat} {st va ca : Int} {a : Option Addr} {cap : Nat} {os : List Int} (h : Dr w wx p ko st va ca a cap os) (hk : Keep [w.heap.size + 1] wx wy) (hr : RdAt (w.heap.size + 2) wy (w.heap.size + 1) p') (hp : p' ≤ 200000000000000) : Dr w wy p' ko st va ca a cap os :=
  ⟨h.keep.trans hk (fun m hm => .inr (by simp at hm; omega)), hr, hp, (hk.block ko (Array.getElem?_eq_some_iff.1 h.blk).1 (by have := h.hko; simp; omega)).trans h.blk, (hk.block w.heap.size (Array.getElem?_eq_some_iff.1 h.res).1 (by simp)).trans h.res, h.own.keep hk (fun m hm => .inl (by simp at hm; simp [hm])), h.len, h.ca0, h.ca1, h.hko⟩
/- what DrawFormatOutcome leaves -/
def DrK (w : World) (e : Ending) (w' : World) : Prop := ∃ (st va ca : Int) (a : Option Addr) (cap : Nat) (os : List Int), e = .returned (.agg #[.int .i64 st, .int .i64 va, .int .i64 ca, .slice a os.length cap]) ∧ Keep [] w w' ∧ Rep [] w' (ints os) (.slice a os.length cap) ∧ os.length ≤ 100001 ∧ -1 ≤ ca ∧ ca ≤ 41

theorem dr_end {w wz wE : World} {p ko : Nat} {st va ca st' va' ca' : Int} {a : Option Addr} {cap : Nat} {os : List Int} (h : Dr w wz p ko st va ca a cap os) (hK : Keep [w.heap.size, ko] wz wE) (h0 : -1 ≤ ca') (h1 : ca' ≤ 41) : DrK w (.returned (.agg #[.int .i64 st', .int .i64 va', .int .i64 ca', .slice a os.length cap])) wE := by
  have hko := h.hko
  have hl := h.len
  refine ⟨st', va', ca', a, cap, os, rfl, h.keep.trans hK (fun m hm => .inr (by simp at hm; omega)), ?_, by omega, h0, h1⟩
  exact (h.own.rep.keep hK (fun m hm => .inl (by simp at hm; rcases hm with h | h <;> simp [h]))).sub (fun g hg => by cases hg)

theorem dr_end2 {w wz wQ wE : World} {p ko : Nat} {st va ca st' va' : Int} {a a' : Option Addr} {cap cap' : Nat} {os : List Int} {m : Int} (h : Dr w wz p ko st va ca a cap os) (hQ : Keep (ob (.slice a os.length cap)) wz wQ) (ho : Own [w.heap.size, w.heap.size + 1, ko] (w.heap.size + 2) wQ 3 1 (.slice a' (os.length + 1) cap') (intsE (os ++ [m]))) (hK : Keep [w.heap.size, ko] wQ wE) : DrK w (.returned (.agg #[.int .i64 st', .int .i64 va', .int .i64 ca, .slice a' (os.length + 1) cap'])) wE := by
  have hko := h.hko
  have hl := h.len
  refine ⟨st', va', ca, a', cap', os ++ [m], by simp, (h.keep.trans hQ (fun m hm => .inr (by have := h.own.lt m hm; omega))).trans hK (fun m hm => .inr (by simp at hm; omega)), ?_, by simp; omega, h.ca0, h.ca1⟩
  rw [show (os ++ [m]).length = os.length + 1 by simp]
  exact (ho.rep.keep hK (fun m hm => .inl (by simp at hm; rcases hm with h | h <;> simp [h]))).sub (fun g hg => by cases hg)

set_option maxRecDepth 100000 in
set_option maxHeartbeats 8000000 in
theorem drawFO_any (a : Option Addr) (len cap : Nat) (w : World) (hb : BytesIn w a len) (hl : len ≤ cap) (hc : cap ≤ 9223372036854775807) :
    Calls Tryd.prog 10 #[.slice a len cap] w (DrK w) := by
  have HB := Lib.hid hb
  clear hb
  go_enter Tryd.func10, Tryd.ntmps10
  go_wp2_with fail
  refine (newReader_any a len cap _ (HB.out.keep0 ((Keep.refl _ _).alloc _)) hl hc).mono ?_
  rintro e w1 ⟨rfl, hk, hr⟩
  simp only [World.size_alloc] at hr
  have K1 := Lib.hid (show Keep [] w w1 from ((Keep.refl _ _).alloc _).then0 hk)
  have s1 := hk.size
  simp at s1
  have HR1 := Lib.hid hr
  have BR1 := Lib.hid ((hk.block w.heap.size (by simp) (by simp)).trans (heap_alloc_new w _))
  have hbs := (Array.getElem?_eq_some_iff.1 hr.ex.choose_spec.choose_spec.choose_spec.2.1).1
  clear hk hr
  go_wp2_with fail
  refine (goodProgram_any HR1.out (by omega) (by omega)).mono ?_
  rintro e w2 ⟨l, fs, dv, fv, p', rfl, hP, ⟨h0, hmain⟩, hk, hr, hp', hd, hf⟩
  have HP := Lib.hid hP
  have K2 := Lib.hid (show Keep [] w w2 from K1.out.trans hk (fun m hm => .inr (by simp at hm; omega)))
  have s2 := hk.size
  have HR2 := Lib.hid hr
  have BR2 := Lib.hid ((hk.block w.heap.size (by omega) (by simp)).trans BR1.out)
  have HM := Lib.hid hmain
  obtain ⟨da, dc, rfl, _⟩ := decls_form hd
  obtain ⟨fa, fc, rfl, _⟩ := funcs_form hf
  have HD2 := Lib.hid hd
  have HF2 := Lib.hid hf
  obtain ⟨bf, of, pa, pc, ka, kc, rfl, hbf, c0, c1, c2, c3, c4, rp, rk⟩ := funcs_at hf (i := 0) h0
  have RK2 := Lib.hid rk
  have hbn : bf ≠ w.heap.size + 1 := by
    obtain ⟨b', of', ha', hb', _⟩ := Rep.at_ hf (i := 0) (by simpa using h0)
    injection ha' with ha'
    injection ha' with ha1 ha2
    subst ha1
    intro e
    subst e
    exact hb' (by simp; omega)
  simp only [Nat.zero_mul, Nat.add_zero] at c0 c1 c2 c3 c4
  clear hP hk hr hmain hd hf rp rk c0 c1
  go_upto_region 3 with fail
  obtain ⟨W, hW⟩ : ∃ W, W = w2.alloc (.cells #[.slice da l.length dc, .slice (some ⟨bf, of, none⟩) fs.length fc] 50) := ⟨_, rfl⟩
  rw [← hW]
  have KW := show Keep [] w2 W from by rw [hW]; exact (Keep.refl _ _).alloc _
  have KW0 := Lib.hid (show Keep [] w W from K2.out.then0 KW)
  have sW : w2.heap.size < W.heap.size := by rw [hW]; simp
  have BW := show W.heap[w2.heap.size]? = some (.cells #[.slice da l.length dc, .slice (some ⟨bf, of, none⟩) fs.length fc] 50 (0, 0)) from by rw [hW]; exact heap_alloc_new w2 _
  have HRW := Lib.hid (HR2.out.keep0 KW)
  have HDW := Lib.hid (HD2.out.keep0 KW)
  have HFW := Lib.hid (HF2.out.keep0 KW)
  have RKW := Lib.hid (RK2.out.keep0 KW)
  have BRW := Lib.hid ((KW.block w.heap.size (by omega) (by simp)).trans BR2.out)
  obtain ⟨x, hx⟩ : ∃ x, x = fs[0].body := ⟨_, rfl⟩
  rw [← hx] at c2 c3 c4 RKW
  have TY := Lib.hid (show HasTy l (sgs fs) [] x 0 ∧ esz x ≤ 30 from by
    have := HP.out.hb 0 h0
    rw [HM.out, ← hx] at this
    exact this)
  have d2 := KW.cellEq c2 (by simp)
  have d3 := KW.cellEq c3 (by simp)
  have d4 := KW.cellEq c4 (by simp)
  obtain ⟨⟨q0, q1⟩, _⟩ := blk2 BW
  have f0 : (0 : Int) < (fs.length : Int) := by omega
  clear hW KW BW c2 c3 c4 hx
  obtain ⟨G, hG⟩ : ∃ G, G = List.range w1.heap.size := ⟨_, rfl⟩
  rw [← hG] at HDW HFW RKW
  have HGb := Lib.hid (show w.heap.size + 1 ∈ G from by rw [hG]; simp; omega)
  have HGm := Lib.hid (show ∀ g, g ∈ G → g < w1.heap.size from by rw [hG]; intro g hg; simpa using hg)
  clear hG
  go_cut [5] (fun s5 wx => ∃ (ko p : Nat) (st va c : Int) (a : Option Addr) (cap : Nat) (os : List Int), s5 = .pointer (some ⟨ko, 0, none⟩) ∧ p ≤ 100000000000001 ∧ Dr w wx p ko st va c a cap os)
  case first =>
    have HS := Lib.hid (show ∀ w', Keep [w.heap.size + 1] W w' → (w'.cell? ⟨w2.heap.size, 0, none⟩ = some (.slice da l.length dc) ∧ w'.cell? ⟨w2.heap.size, 1, none⟩ = some (.slice (some ⟨bf, of, none⟩) fs.length fc) ∧ w'.cell? ⟨bf, of + 2, none⟩ = some (.int .i64 x.op) ∧ w'.cell? ⟨bf, of + 3, none⟩ = some (.int .i64 x.num) ∧ w'.cell? ⟨bf, of + 4, none⟩ = some (.slice ka x.kids.length kc)) from fun w' hk => ⟨hk.cellEq q0 (by simp; omega), hk.cellEq q1 (by simp; omega), hk.cellEq d2 (by simp; omega), hk.cellEq d3 (by simp; omega), hk.cellEq d4 (by simp; omega)⟩)
    have KZ := Lib.hid (show Keep [w.heap.size + 1] W W from Keep.refl _ _)
    go_region_held3 (fun w' => w'.cell? ⟨w2.heap.size, 0, none⟩ = some (.slice da l.length dc) ∧ w'.cell? ⟨w2.heap.size, 1, none⟩ = some (.slice (some ⟨bf, of, none⟩) fs.length fc) ∧ w'.cell? ⟨bf, of + 2, none⟩ = some (.int .i64 x.op) ∧ w'.cell? ⟨bf, of + 3, none⟩ = some (.int .i64 x.num) ∧ w'.cell? ⟨bf, of + 4, none⟩ = some (.slice ka x.kids.length kc))
      (first | exact HS.out _ (by repeat (first | with_reducible exact KZ.out | with_reducible refine Keep.drew ?_ | with_reducible refine Keep.alloc ?_ _ | with_reducible refine Keep.setCell ?_ (.inr (by (try simp); try omega)) _ | fail)) | fail)
      (first
      | (go_at_call 24
         refine (one_any (G := G) (w.heap.size + 1) p' _ [40, 3, 0, 10] _ (HRW.out.keep0 (by repeat (first | with_reducible exact Keep.refl _ _ | with_reducible refine Keep.drew ?_ | with_reducible refine Keep.alloc ?_ _ | exact Keep.refl _ _ | fail))) HGb.out (by omega) (by (repeat (first | with_reducible refine Rep.drew ?_ | ((refine ints_newAt [40, 3, 0, 10] ?_ ?_ (by simp)) <;> (first | omega | (intro g hg; have := HGm.out g hg; (try simp); omega) | (simp; done) | fail)) | with_reducible refine Rep.alloc ?_ _ | fail))) (by simp) (by simp)).mono ?_
         rintro e x1 ⟨m, rfl, hm, hk, hr⟩
         have hm2 : 0 ≤ m ∧ m ≤ 40 := by simp at hm; omega
         obtain ⟨mm, rfl⟩ := Int.eq_ofNat_of_zero_le hm2.1
         have hmm : mm ≤ 40 := by omega
         have KZ := Lib.hid (show Keep [w.heap.size + 1] W x1 from Keep.then (by repeat (first | with_reducible exact KZ.out | with_reducible refine Keep.drew ?_ | with_reducible refine Keep.alloc ?_ _ | with_reducible refine Keep.setCell ?_ (.inr (by (try simp); try omega)) _ | fail)) hk)
         have HR3 := Lib.hid hr
         have z1 := KZ.out.size
         first
         | (refine cut (A := x1.heap[W.heap.size]? = some (.cells #[.int .i64 0, .int .i64 0, .int .i64 0, .slice none 0 0] 27 (0, 0))) ?_ ?_
            · refine (hk.block (W.heap.size) ?_ ?_).trans ?_
              · first | (simp; done) | (simp; omega) | fail
              · first | (simp; done) | (simp; omega) | fail
              · (repeat (first | with_reducible refine hp_drew ?_ | (with_reducible refine hp_new _ _ ?_) | with_reducible refine hp_old ?_ | (simp; done) | omega | fail))
            intro b
            have B1 := Lib.hid b
            clear b)
         | (refine cut (A := x1.heap[W.heap.size + 1]? = some (.cells #[.int .i64 0, .int .i64 0, .int .i64 0, .slice none 0 0] 27 (0, 0))) ?_ ?_
            · refine (hk.block (W.heap.size + 1) ?_ ?_).trans ?_
              · first | (simp; done) | (simp; omega) | fail
              · first | (simp; done) | (simp; omega) | fail
              · (repeat (first | with_reducible refine hp_drew ?_ | (with_reducible refine hp_new _ _ ?_) | with_reducible refine hp_old ?_ | (simp; done) | omega | fail))
            intro b
            have B1 := Lib.hid b
            clear b)
         | skip
         clear hk hr hm hm2)
      | (go_at_call 23
         have MB := fun m (hm : m ∈ [w.heap.size + 1]) => show m ∈ G ∨ W.heap.size ≤ m from .inl (by simp at hm; subst hm; exact HGb.out)
         refine (evalProgram_any HP.out (G := G) (.slice da l.length dc) (.slice (some ⟨bf, of, none⟩) fs.length fc) x ka kc mm _ (HDW.out.keep (by repeat (first | with_reducible exact KZ.out | with_reducible refine Keep.drew ?_ | with_reducible refine Keep.alloc ?_ _ | with_reducible refine Keep.setCell ?_ (.inr (by (try simp); try omega)) _ | fail)) MB) (HFW.out.keep (by repeat (first | with_reducible exact KZ.out | with_reducible refine Keep.drew ?_ | with_reducible refine Keep.alloc ?_ _ | with_reducible refine Keep.setCell ?_ (.inr (by (try simp); try omega)) _ | fail)) MB) (RKW.out.keep (by repeat (first | with_reducible exact KZ.out | with_reducible refine Keep.drew ?_ | with_reducible refine Keep.alloc ?_ _ | with_reducible refine Keep.setCell ?_ (.inr (by (try simp); try omega)) _ | fail)) MB) TY.out.1 TY.out.2 (by omega)).mono ?_
         rintro e x2 ⟨c, os, hcm, hos, st, va, oa, oc, rfl, hk, ho⟩
         have K5 := Lib.hid (show Keep [] x1 x2 from Keep.then0 (by repeat (first | with_reducible exact Keep.refl _ _ | with_reducible refine Keep.drew ?_ | with_reducible refine Keep.alloc ?_ _ | exact Keep.refl _ _ | fail)) hk)
         have KZ := Lib.hid (show Keep [w.heap.size + 1] W x2 from KZ.out.then0 K5.out)
         have z2 := K5.out.size
         first
         | (have B2 := Lib.hid ((K5.out.block _ (Array.getElem?_eq_some_iff.1 B1.out).1 (List.not_mem_nil)).trans B1.out)
            have kl1 := (Array.getElem?_eq_some_iff.1 B1.out).1
            obtain ⟨⟨j0, j1, j2, j3⟩, i0, i1, i2, i3⟩ := blk4 B2.out)
         | (refine cut (A := x2.heap[x1.heap.size]? = some (.cells #[.int .i64 0, .int .i64 0, .int .i64 0, .slice none 0 0] 27 (0, 0))) ?_ ?_
            · refine (hk.block (x1.heap.size) ?_ ?_).trans ?_
              · first | (simp; done) | (simp; omega) | fail
              · first | (simp; done) | (simp; omega) | fail
              · (repeat (first | with_reducible refine hp_drew ?_ | (with_reducible refine hp_new _ _ ?_) | with_reducible refine hp_old ?_ | (simp; done) | omega | fail))
            intro b
            have B2 := Lib.hid b
            clear b
            obtain ⟨⟨j0, j1, j2, j3⟩, i0, i1, i2, i3⟩ := blk4 B2.out)
         | skip
         have OW := Lib.hid ho
         clear hk ho MB))
    all_goals
      clear HS q0 q1 d2 d3 d4
      have hkx := Lib.hid (show Keep [] w x2 from KW0.out.trans KZ.out (fun m hm => .inr (by simp at hm; omega)))
      have hrx := Lib.hid (HR3.out.keep0 K5.out)
      have hbx := Lib.hid ((KZ.out.block w.heap.size (by omega) (by simp)).trans BRW.out)
      go_wp2_with fail
      go_meet
      first
      | (fail_if_success (have hb2 := B2.out)
         exact ⟨_, p' + 1, _, _, _, _, _, _, rfl, by omega, dr_new hkx.out hrx.out (by omega) hbx.out OW.out (by (try simp); omega) hos (by omega) (by omega)⟩)
      | (have hb2 := B2.out
         exact ⟨_, p' + 1, _, _, _, _, _, _, rfl, by omega, dr_put hkx.out hrx.out (by omega) hb2 hbx.out OW.out (by (try simp); omega) (fun g hg => by have := OW.out.lt g hg; (try simp at this); omega) hos (by omega) (by omega)⟩)
  case rest =>
    obtain ⟨ko, pp, st, va, c, oa, oc, os, rfl, hpp, hD⟩ := hcut
    rename World => wX
    have D1 := Lib.hid hD
    have hko := hD.hko
    have hca0 := hD.ca0
    have hca1 := hD.ca1
    have hkne : ko ≠ w.heap.size := by omega
    have hkne' : w.heap.size ≠ ko := by omega
    clear hD q0 q1 d2 d3 d4
    go_wp2_with fail
    refine (pick_any (w.heap.size + 1) pp 12 _ D1.out.rd (by omega) (by omega)).mono ?_
    rintro e wY ⟨r, rfl, r0, r1, hk, hr⟩
    have D2 := Lib.hid (D1.out.keepR hk hr (by omega))
    clear hk hr r1
    obtain ⟨⟨o0, o1, o2, o3⟩, f0, f1, f2, f3⟩ := blk4 D2.out.blk
    obtain ⟨⟨z0, z1, z2, z3⟩, y0, y1, y2, y3⟩ := blk4 D2.out.res
    have hszY := D2.out.keep.size
    have hbY : w.heap.size + 1 < wY.heap.size := by obtain ⟨_, _, _, _, _, hh, _⟩ := D2.out.rd; exact (Array.getElem?_eq_some_iff.1 hh).1
    have hkoY : ko < wY.heap.size := (Array.getElem?_eq_some_iff.1 D2.out.blk).1
    by_cases e0 : r = 0
    · subst e0
      go_wp2_with fail
      refine (one_any (G := [w.heap.size + 1]) (w.heap.size + 1) (pp + 1) _ [0, 1, 2, 3, -1] _ (D2.out.rd.keep0 ((Keep.refl _ _).alloc _)) (by simp) (by omega) (ints_newAt [0, 1, 2, 3, -1] (by simp) (fun g hg => by simp at hg; omega) (by simp)) (by simp) (by simp)).mono ?_
      rintro e wZ ⟨m, rfl, hm, hk, hr⟩
      have hmb : -1000 ≤ m ∧ m ≤ 1000 := by simp at hm; omega
      have D3 := Lib.hid (D2.out.keepR (((Keep.refl _ _).alloc _).trans hk (fun m hm => .inl hm)) hr (by omega))
      clear o0 o1 o2 o3 f0 f1 f2 f3 z0 z1 z2 z3 y0 y1 y2 y3
      obtain ⟨⟨o0, o1, o2, o3⟩, f0, f1, f2, f3⟩ := blk4 D3.out.blk
      obtain ⟨⟨z0, z1, z2, z3⟩, y0, y1, y2, y3⟩ := blk4 D3.out.res
      clear hk hr hm
      go_wp2
      exact bodyPost_ret (v := .agg #[.int .i64 m, .int .i64 va, .int .i64 c, .slice oa os.length oc]) (by simp [results, Tryd.results10, go_sem, z0, z1, z2, z3]) rfl (dr_end D3.out (by repeat (first | with_reducible exact Keep.refl _ _ | with_reducible refine Keep.drew ?_ | with_reducible refine Keep.alloc ?_ _ | with_reducible refine Keep.setCell ?_ (.inl (by simp)) _ | fail)) (by omega) (by omega))
    by_cases e1 : r = 1
    · subst e1
      go_wp2_with fail
      refine (one_any (G := [w.heap.size + 1]) (w.heap.size + 1) (pp + 1) _ [1000, -1000, 5] _ (D2.out.rd.keep0 ((Keep.refl _ _).alloc _)) (by simp) (by omega) (ints_newAt [1000, -1000, 5] (by simp) (fun g hg => by simp at hg; omega) (by simp)) (by simp) (by simp)).mono ?_
      rintro e wZ ⟨m, rfl, hm, hk, hr⟩
      have hmb : -1000 ≤ m ∧ m ≤ 1000 := by simp at hm; omega
      have D3 := Lib.hid (D2.out.keepR (((Keep.refl _ _).alloc _).trans hk (fun m hm => .inl hm)) hr (by omega))
      clear o0 o1 o2 o3 f0 f1 f2 f3 z0 z1 z2 z3 y0 y1 y2 y3
      obtain ⟨⟨o0, o1, o2, o3⟩, f0, f1, f2, f3⟩ := blk4 D3.out.blk
      obtain ⟨⟨z0, z1, z2, z3⟩, y0, y1, y2, y3⟩ := blk4 D3.out.res
      clear hk hr hm
      go_wp2
      exact bodyPost_ret (v := .agg #[.int .i64 st, .int .i64 m, .int .i64 c, .slice oa os.length oc]) (by simp [results, Tryd.results10, go_sem, z0, z1, z2, z3]) rfl (dr_end D3.out (by repeat (first | with_reducible exact Keep.refl _ _ | with_reducible refine Keep.drew ?_ | with_reducible refine Keep.alloc ?_ _ | with_reducible refine Keep.setCell ?_ (.inl (by simp)) _ | fail)) (by omega) (by omega))
    by_cases e2 : r = 2
    · subst e2
      go_wp2_with fail
      refine (one_any (G := [w.heap.size + 1]) (w.heap.size + 1) (pp + 1) _ [41, -1, 7] _ (D2.out.rd.keep0 ((Keep.refl _ _).alloc _)) (by simp) (by omega) (ints_newAt [41, -1, 7] (by simp) (fun g hg => by simp at hg; omega) (by simp)) (by simp) (by simp)).mono ?_
      rintro e wZ ⟨m, rfl, hm, hk, hr⟩
      have hmb : -1000 ≤ m ∧ m ≤ 1000 := by simp at hm; omega
      have hmc : -1 ≤ m ∧ m ≤ 41 := by simp at hm; omega
      have D3 := Lib.hid (D2.out.keepR (((Keep.refl _ _).alloc _).trans hk (fun m hm => .inl hm)) hr (by omega))
      clear o0 o1 o2 o3 f0 f1 f2 f3 z0 z1 z2 z3 y0 y1 y2 y3
      obtain ⟨⟨o0, o1, o2, o3⟩, f0, f1, f2, f3⟩ := blk4 D3.out.blk
      obtain ⟨⟨z0, z1, z2, z3⟩, y0, y1, y2, y3⟩ := blk4 D3.out.res
      clear hk hr hm
      go_wp2
      exact bodyPost_ret (v := .agg #[.int .i64 st, .int .i64 va, .int .i64 m, .slice oa os.length oc]) (by simp [results, Tryd.results10, go_sem, z0, z1, z2, z3]) rfl (dr_end D3.out (by repeat (first | with_reducible exact Keep.refl _ _ | with_reducible refine Keep.drew ?_ | with_reducible refine Keep.alloc ?_ _ | with_reducible refine Keep.setCell ?_ (.inl (by simp)) _ | fail)) (by omega) (by omega))
    by_cases e3 : r = 3
    · subst e3
      obtain ⟨⟨o0, o1, o2, o3⟩, f0, f1, f2, f3⟩ := blk4 D2.out.blk
      have hol := D2.out.len
      go_wp2
      go_region_law (first
        | (refine step_append rfl _ _ 22 rfl [w.heap.size, w.heap.size + 1, ko] (w.heap.size + 2) 3 (.int .i64 0) 1 8 Tryd.underlying22 infoInt rfl (by decide) (.slice oa os.length oc) (intsE os) rfl (D3.out.own.keep0 (by repeat (first | with_reducible exact Keep.refl _ _ | with_reducible refine Keep.drew ?_ | with_reducible refine Keep.alloc ?_ _ | exact Keep.refl _ _ | fail))) (.slice (some ⟨wZ.heap.size, 0, none⟩) 1 1) (intsE [m]) rfl
             (by (repeat (first | with_reducible refine Rep.drew ?_ | ((refine ints_newAt [m] ?_ ?_ (by simp)) <;> (first | (simp; done) | (intro g hg; have := HOG.out g hg; (try simp); omega) | fail)) | with_reducible refine Rep.alloc ?_ _ | fail))) (intsE_size [m]) (by rw [intsE_length]; simp [intsE]; omega) (by rw [intsE_length]; simp [intsE]; omega) (by simp; omega) (fun g hg => by simp at hg ⊢; omega) ?_
           intro v2 wQ ho hgr
           have KQ := Lib.hid (show Keep (ob (.slice oa os.length oc)) wZ wQ from (Keep.of0 (by repeat (first | with_reducible exact Keep.refl _ _ | with_reducible refine Keep.drew ?_ | with_reducible refine Keep.alloc ?_ _ | exact Keep.refl _ _ | fail))).then hgr.keep)
           have hsQ := KQ.out.size
           have HO2 := Lib.hid (show Own [w.heap.size, w.heap.size + 1, ko] (w.heap.size + 2) wQ 3 1 v2 (intsE (os ++ [m])) from by rw [← intsE_app]; exact ho)
           obtain ⟨⟨p0, p1, p2, p3⟩, g0, g1, g2, g3⟩ := blk4 ((KQ.out.block ko (by omega) (fun hm => D3.out.own.apart ko hm (by simp))).trans D3.out.blk)
           obtain ⟨⟨z0, z1, z2, z3⟩, y0, y1, y2, y3⟩ := blk4 ((KQ.out.block w.heap.size (by omega) (fun hm => D3.out.own.apart w.heap.size hm (by simp))).trans D3.out.res)
           obtain ⟨oa2, oc2, ho2⟩ := HO2.out.form
           obtain rfl : v2 = .slice oa2 (os.length + 1) oc2 := by rw [ho2, intsE_length]; simp
           clear ho hgr ho2)
        | (refine step_wanted rfl ?_
           go_simp
           go_at_call 24
           refine (one_any (G := [w.heap.size + 1]) (w.heap.size + 1) (pp + 1) _ [1000, -999] _ (D2.out.rd.keep0 (by repeat (first | with_reducible exact Keep.refl _ _ | with_reducible refine Keep.drew ?_ | with_reducible refine Keep.alloc ?_ _ | exact Keep.refl _ _ | fail))) (by simp) (by omega) (by (repeat (first | with_reducible refine Rep.drew ?_ | ((refine ints_newAt [1000, -999] ?_ ?_ (by simp)) <;> (first | (simp; done) | (intro g hg; simp at hg ⊢; omega) | fail)) | with_reducible refine Rep.alloc ?_ _ | fail))) (by simp) (by simp)).mono ?_
           rintro e wZ ⟨m, rfl, hm, hk, hr⟩
           have D3 := Lib.hid (D2.out.keepR (Keep.trans (by repeat (first | with_reducible exact Keep.refl _ _ | with_reducible refine Keep.drew ?_ | with_reducible refine Keep.alloc ?_ _ | exact Keep.refl _ _ | fail)) hk (fun m hm => .inl hm)) hr (by omega))
           have hsZ : wY.heap.size ≤ wZ.heap.size := (show Keep [w.heap.size + 1] wY wZ from Keep.trans (by repeat (first | with_reducible exact Keep.refl _ _ | with_reducible refine Keep.drew ?_ | with_reducible refine Keep.alloc ?_ _ | exact Keep.refl _ _ | fail)) hk (fun m hm => .inl hm)).size
           have HOG := Lib.hid (fun g (hg : g ∈ ob (.slice oa os.length oc) ++ [w.heap.size, w.heap.size + 1, ko]) => show g < wZ.heap.size from by
             rcases List.mem_append.1 hg with h | h
             · exact (D3.out.own.lt g h).2
             · simp at h; omega)
           obtain ⟨⟨p0, p1, p2, p3⟩, g0, g1, g2, g3⟩ := blk4 D3.out.blk
           have p3a := fun (o : Obj) => ((Keep.refl [] wZ).alloc o).cellEq p3 (by simp)
           clear hk hr hm z0 z1 z2 z3 y0 y1 y2 y3 o0 o1 o2 f0 f1 f2 f3
           dsimp only))
      all_goals
        clear p3a
        go_wp2
        exact bodyPost_ret (v := .agg #[.int .i64 st, .int .i64 va, .int .i64 c, .slice oa2 (os.length + 1) oc2]) (by simp [results, Tryd.results10, go_sem, z0, z1, z2, z3]) rfl (dr_end2 D3.out KQ.out HO2.out (by repeat (first | with_reducible exact Keep.refl _ _ | with_reducible refine Keep.drew ?_ | with_reducible refine Keep.alloc ?_ _ | with_reducible refine Keep.setCell ?_ (.inl (by simp)) _ | fail)))
    · go_wp2
      exact bodyPost_ret (v := .agg #[.int .i64 st, .int .i64 va, .int .i64 c, .slice oa os.length oc]) (by simp [results, Tryd.results10, go_sem, z0, z1, z2, z3]) rfl (dr_end D2.out (by repeat (first | with_reducible exact Keep.refl _ _ | with_reducible refine Keep.drew ?_ | with_reducible refine Keep.alloc ?_ _ | with_reducible refine Keep.setCell ?_ (.inl (by simp)) _ | fail)) (by omega) (by omega))
end Go.Proofs.YtnjincgemmgllaaDoor
