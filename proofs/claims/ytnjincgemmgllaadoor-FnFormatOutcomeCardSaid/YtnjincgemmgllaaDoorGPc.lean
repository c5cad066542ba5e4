/- The walk of goodProgram. -/
import Derived.Test.YtnjincgemmgllaaDoorGPf
import Derived.Deep.DeepCutAuto
import Derived.BigRegion
namespace Go.Proofs.YtnjincgemmgllaaDoor
open Go.RowKit
attribute [local go_sem ↓] Go.wp_at_zero Go.wp_at_succ

/- what the funcs are, when their signatures are laid -/
structure Fs4 (l : List Dc) (fs : List Fn) : Prop where
  len : fs.length = 4
  ok : ∀ i (h : i < fs.length), SgG l fs[i].sig
  main : ∀ h : 0 < fs.length, fs[0].sig = ⟨[], 0⟩
theorem fs4_mk {l : List Dc} (hl : GD l) {p1 p2 p3 : List Int} {r1 r2 r3 : Int} (h1 : SgG l ⟨p1, r1⟩) (h2 : SgG l ⟨p2, r2⟩) (h3 : SgG l ⟨p3, r3⟩) : Fs4 l [mkF [] 0, mkF p1 r1, mkF p2 r2, mkF p3 r3] :=
  ⟨rfl, fun i h => by
    rcases (show i = 0 ∨ i = 1 ∨ i = 2 ∨ i = 3 by simp at h; omega) with rfl | rfl | rfl | rfl
    · exact sg_main hl
    · exact h1
    · exact h2
    · exact h3, fun _ => rfl⟩
/- the state behind the laying of the signatures -/
def Laid (l : List Dc) (G : List Nat) (B br kp p : Nat) (dv : Value) (w wx : World) : Prop :=
  ∃ (fs : List Fn) (kF pz : Nat), Fs4 l fs ∧ Keep [br, kp] w wx ∧ RdAt B wx br pz ∧ pz ≤ p + 3 ∧ wx.heap[kp]? = some (.cells #[dv, .slice (some ⟨kF, 0, none⟩) 4 4] 50 (0, 0)) ∧ FArr G wx kF fs ∧ Rep (kF :: G) wx (decls l) dv
theorem laid_mk {l : List Dc} {G : List Nat} {B br kp p pz : Nat} {dv z : Value} {wq x3 : World} {p1 p2 p3 : List Int} {r1 r2 r3 : Int} {a0 a1 a2 a3 : Option Addr} {c1 c2 c3 : Nat} (hl : GD l) (h1 : SgG l ⟨p1, r1⟩) (h2 : SgG l ⟨p2, r2⟩) (h3 : SgG l ⟨p3, r3⟩) (hk : Keep [br] wq x3) (hrd : RdAt B x3 br pz) (hpz : pz ≤ p + 3) (hB : B ≤ kp) (hlt : kp < wq.heap.size) (hne : kp ≠ br)
    (hkb : wq.heap[kp]? = some (.cells #[dv, z] 50 (0, 0))) (hG : ∀ g, g ∈ G → g < wq.heap.size) (hbr : br ∈ G) (hkp : kp ∈ G) (hd : Rep G wq (decls l) dv) (R1 : Rep G wq (ints p1) (.slice a1 p1.length c1)) (R2 : Rep G wq (ints p2) (.slice a2 p2.length c2)) (R3 : Rep G wq (ints p3) (.slice a3 p3.length c3)) :
    Laid l G B br kp p dv wq ((x3.alloc (.cells #[.slice a0 0 0, .int .i64 0, .int .i64 0, .int .i64 0, .slice none 0 0, .slice a1 p1.length c1, .int .i64 r1, .int .i64 0, .int .i64 0, .slice none 0 0, .slice a2 p2.length c2, .int .i64 r2, .int .i64 0, .int .i64 0, .slice none 0 0, .slice a3 p3.length c3, .int .i64 r3, .int .i64 0, .int .i64 0, .slice none 0 0] 57)).setCell ⟨kp, 1, none⟩ (.slice (some ⟨x3.heap.size, 0, none⟩) 4 4)) := by
  have hs := hk.size
  have hG3 : ∀ g, g ∈ G → g < x3.heap.size := fun g hg => by have := hG g hg; omega
  have mG : ∀ m, m ∈ [br] → m ∈ G ∨ wq.heap.size ≤ m := fun m hm => by simp at hm; subst hm; exact .inl hbr
  have KE := fun (o : Obj) (u : Value) => ((Keep.refl [kp] (x3.alloc o)).setCell (p := ⟨kp, 1, none⟩) (.inl (by simp)) u)
  have mE : ∀ (o : Obj), ∀ m, m ∈ [kp] → m ∈ G ∨ (x3.alloc o).heap.size ≤ m := fun o m hm => by simp at hm; subst hm; exact .inl hkp
  refine ⟨_, x3.heap.size, pz, fs4_mk hl h1 h2 h3, ((hk.sub (by simp)).alloc _).setCell (.inl (by simp)) _, ?_, hpz, ?_, (farr4 (p0 := []) (r0 := 0) (c0 := 0) hG3 (Rep.nil _ _ _ _ _ (by omega)) (R1.keep hk mG) (R2.keep hk mG) (R3.keep hk mG)).keep (KE _ _) (mE _), ?_⟩
  · exact (hrd.keep0 ((Keep.refl _ _).alloc _)).keep (KE _ _) (fun m hm => by simp at hm; subst hm; exact hB)
  · have h5 := setCell_blk (i := 1) (u := .slice (some ⟨x3.heap.size, 0, none⟩) 4 4) ((Below.heap_alloc x3 (.cells #[.slice a0 0 0, .int .i64 0, .int .i64 0, .int .i64 0, .slice none 0 0, .slice a1 p1.length c1, .int .i64 r1, .int .i64 0, .int .i64 0, .slice none 0 0, .slice a2 p2.length c2, .int .i64 r2, .int .i64 0, .int .i64 0, .slice none 0 0, .slice a3 p3.length c3, .int .i64 r3, .int .i64 0, .int .i64 0, .slice none 0 0] 57) kp (by omega)).trans ((hk.block kp hlt (by simp; exact hne)).trans hkb))
    simpa using h5
  · exact (((hd.keep hk mG).cons (Nat.le_refl _)).alloc _).keep (KE _ _) (fun m hm => by simp at hm; subst hm; exact .inl (by simp [hkp]))
/- the state of the loop that lays the bodies: k bodies are left -/
structure Lq (l : List Dc) (G : List Nat) (B br kp kF n p0 : Nat) (dv : Value) (w : World) (k : Nat) (wr : World) (fs : List Fn) (p' : Nat) : Prop where
  len : fs.length = n
  ok : ∀ i (h : i < fs.length), SgG l fs[i].sig
  main : ∀ h : 0 < fs.length, fs[0].sig = ⟨[], 0⟩
  rd : RdAt B wr br p'
  pb : p' + k * 14000000000000 ≤ p0
  blk : wr.heap[kp]? = some (.cells #[dv, .slice (some ⟨kF, 0, none⟩) n 4] 50 (0, 0))
  arr : FArr G wr kF fs
  hd : Rep (kF :: G) wr (decls l) dv
  ty : ∀ i (h : i < fs.length), k ≤ i → HasTy l (sgs fs) fs[i].sig.params fs[i].body fs[i].sig.result ∧ esz fs[i].body ≤ 30
  keep : Keep [br] w wr
  res : wr.heap[w.heap.size]? = some (.cells #[.slice none 0 0, .slice none 0 0] 50 (0, 0))
theorem sgs_set {fs : List Fn} {f : Nat} (hf : f < fs.length) (x : Ex) : sgs (fs.set f ⟨fs[f].sig, x⟩) = sgs fs := by
  unfold sgs
  rw [List.map_set]
  refine List.ext_getElem (by simp) fun i h1 h2 => ?_
  rw [List.getElem_set]
  split
  · subst_vars; simp
  · rfl
theorem Lq.bodyFn {l : List Dc} {G : List Nat} {B br kp kF n p0 : Nat} {dv : Value} {w : World} {k : Nat} {wr : World} {fs : List Fn} {p' : Nat} (h : Lq l G B br kp kF n p0 dv w k wr fs p') {f : Nat} (hf : f < fs.length) : BodyFn fs f fs[f].sig.params fs[f].sig.result :=
  ⟨⟨hf, rfl, rfl⟩, (h.ok f hf).res, fun e => by subst e; rw [h.main hf]; exact ⟨rfl, rfl⟩, (h.ok f hf).flat, (h.ok f hf).tree⟩
theorem Lq.gs {l : List Dc} {G : List Nat} {B br kp kF n p0 : Nat} {dv : Value} {w : World} {k : Nat} {wr : World} {fs : List Fn} {p' : Nat} (h : Lq l G B br kp kF n p0 dv w k wr fs p') (h1 : 1 ≤ n) (h4 : n ≤ 4) : GS l (sgs fs) :=
  GS.of_sgs (by rw [sgs_len, h.len]; exact ⟨h1, h4⟩) fun i hi => by
    have h5 := h.ok i (by rw [sgs_len] at hi; exact hi)
    simp only [sgs, List.getElem_map]
    exact h5
theorem lq_start {l : List Dc} {G : List Nat} {B br kp kF n pz : Nat} {dv z : Value} {w wE wF : World} {fs : List Fn} (h4 : Fs4 l fs) (hn : n ≤ 4) (hkE : Keep [br] w wE) (hk : Keep [br] wE wF) (hr : RdAt B wF br pz) (hpz : pz ≤ 1000) (hb : wF.heap[kp]? = some (.cells #[dv, z] 50 (0, 0))) (hB : B ≤ kp) (hwp : w.heap.size < kp) (hbr : br ∈ G) (hkp : kp ∈ G) (ha : FArr G wE kF fs) (hd : Rep (kF :: G) wE (decls l) dv)
    (hwb : w.heap.size ≠ br) (hres : wE.heap[w.heap.size]? = some (.cells #[.slice none 0 0, .slice none 0 0] 50 (0, 0))) :
    Lq l G B br kp kF n 100000000000000 dv w n (wF.setCell ⟨kp, 1, none⟩ (.slice (some ⟨kF, 0, none⟩) n 4)) (fs.take n) pz := by
  have KS := (Keep.refl [kp] wF).setCell (p := ⟨kp, 1, none⟩) (.inl (by simp)) (.slice (some ⟨kF, 0, none⟩) n 4)
  have mG : ∀ m, m ∈ [br] → m ∈ G ∨ wE.heap.size ≤ m := fun m hm => by simp at hm; subst hm; exact .inl hbr
  have hlen := h4.len
  have h1 := hkE.size
  have h2 := hk.size
  have hres1 := (Array.getElem?_eq_some_iff.1 hres).1
  refine ⟨by simp; omega, fun i hi => ?_, fun h0 => ?_, hr.keep KS (fun m hm => by simp at hm; subst hm; exact hB), by omega, ?_, ((ha.keep hk mG).take n).keep KS (fun m hm => by simp at hm; subst hm; exact .inl hkp), (hd.keep hk (fun m hm => by simp at hm; subst hm; exact .inl (by simp [hbr]))).keep KS (fun m hm => by simp at hm; subst hm; exact .inl (by simp [hkp])), fun i hi hni => ?_, (hkE.then hk).trans KS (fun m hm => .inr (by simp at hm; omega)), ?_⟩
  · rw [List.getElem_take]; exact h4.ok i _
  · rw [List.getElem_take]; exact h4.main _
  · have h5 := setCell_blk (i := 1) (u := .slice (some ⟨kF, 0, none⟩) n 4) hb
    simpa using h5
  · simp at hi; omega
  · rw [KS.block w.heap.size (by omega) (by simp; omega), hk.block w.heap.size hres1 (by simp; exact hwb)]
    exact hres
/- what goodProgram leaves -/
def GoodP (B br : Nat) (w : World) (e : Ending) (w' : World) : Prop := ∃ (l : List Dc) (fs : List Fn) (dv fv : Value) (p' : Nat), e = .returned (.agg #[dv, fv]) ∧ Pr l fs ∧ (∃ h : 0 < fs.length, fs[0].sig = ⟨[], 0⟩) ∧ Keep [br] w w' ∧ RdAt B w' br p' ∧ p' ≤ 100000000000000 ∧ Rep (List.range w.heap.size) w' (decls l) dv ∧ Rep (List.range w.heap.size) w' (funcsD fs) fv
theorem lq_end {l : List Dc} {G : List Nat} {B br kp kF n : Nat} {dv : Value} {w wr : World} {fs : List Fn} {p' : Nat} (h : Lq l G B br kp kF n 100000000000000 dv w 0 wr fs p') (hl : GD l) (h1 : 1 ≤ n) (h4 : n ≤ 4) (hB : B ≤ w.heap.size) (hbr : br < B) (hw : w.heap.size < wr.heap.size) (hn : w.heap.size ∈ G) (hG : ∀ g, g < w.heap.size → g ∈ G) :
    GoodP B br w (.returned (.agg #[dv, .slice (some ⟨kF, 0, none⟩) n 4])) ((wr.setCell ⟨w.heap.size, 0, none⟩ dv).setCell ⟨w.heap.size, 1, none⟩ (.slice (some ⟨kF, 0, none⟩) n 4)) := by
  have KP := Keep.put2' wr w.heap.size dv (.slice (some ⟨kF, 0, none⟩) n 4)
  have hpb := h.pb
  have hln := h.len
  have mG : ∀ m, m ∈ [w.heap.size] → m ∈ G ∨ wr.heap.size ≤ m := fun m hm => by simp at hm; subst hm; exact .inl hn
  have sG : ∀ g, g ∈ List.range w.heap.size → g ∈ G := fun g hg => hG g (by simpa using hg)
  have hf : Rep G wr (funcsD fs) (.slice (some ⟨kF, 0, none⟩) n 4) := by
    have := h.arr.rep (cap := 4) (by omega) (by omega)
    rwa [hln] at this
  refine ⟨l, fs, dv, _, p', rfl, ⟨hl, h.gs h1 h4, fun f hf => h.ty f hf (by omega)⟩, ⟨by omega, h.main (by omega)⟩, h.keep.trans KP (fun m hm => .inr (by simp at hm; omega)), h.rd.keep KP (fun m hm => by simp at hm; omega), by omega, ?_, ?_⟩
  · exact (h.hd.tail.keep KP mG).sub fun g hg => .inl (sG g hg)
  · exact (hf.keep KP mG).sub fun g hg => .inl (sG g hg)
theorem Lq.drew {l : List Dc} {G : List Nat} {B br kp kF n p0 : Nat} {dv : Value} {w : World} {k : Nat} {wr : World} {fs : List Fn} {p' : Nat} (h : Lq l G B br kp kF n p0 dv w k wr fs p') : Lq l G B br kp kF n p0 dv w k wr.drew fs p' :=
  ⟨h.len, h.ok, h.main, h.rd.keep0 (Keep.refl _ _).drew, h.pb, h.blk, h.arr.keep0 (Keep.refl _ _).drew, h.hd.keep0 (Keep.refl _ _).drew, h.ty, h.keep.drew, h.res⟩
/- one body more -/
theorem Lq.step {l : List Dc} {G : List Nat} {B br kp kF n p0 : Nat} {dv : Value} {w : World} {f : Nat} {wr wG : World} {fs : List Fn} {p' p2 : Nat} {T : TypeId} (h : Lq l G B br kp kF n p0 dv w (f + 1) wr fs p') (hf : f < fs.length) {x : Ex} {pa xa : Option Addr} {pc xc : Nat} (hk : Keep [br] wr wG) (hr : RdAt B wG br p2) (hp : p2 ≤ p' + 14000000000000) (hty : HasTy l (sgs fs) fs[f].sig.params x fs[f].sig.result) (hsz : esz x ≤ 30)
    (hbr : br ∈ G) (hBk : B ≤ kF) (hwk : w.heap.size < kF) (hkk : kp ≠ kF) (hkb : kp ≠ br) (hkp : kp < wr.heap.size) (hwb : w.heap.size ≠ br) (hxr : Rep (List.range wr.heap.size) wG (kidsD x.kids) (.slice xa x.kids.length xc)) (hp : Rep (kF :: G) wG (ints fs[f].sig.params) (.slice pa fs[f].sig.params.length pc)) (hG : ∀ g, g ∈ G → g < wr.heap.size) (cs : Array Value) :
    Lq l G B br kp kF n p0 dv w f (put5 (wG.alloc (.cells cs T)) kF (f * 5) (.slice pa fs[f].sig.params.length pc) (.int .i64 fs[f].sig.result) (.int .i64 x.op) (.int .i64 x.num) (.slice xa x.kids.length xc)) (fs.set f ⟨fs[f].sig, x⟩) p2 := by
  have hklt := h.arr.lt
  have hsr := hk.size
  have hpb := h.pb
  have hw := h.keep.size
  have mG : ∀ m, m ∈ [br] → m ∈ G ∨ wr.heap.size ≤ m := fun m hm => by simp at hm; subst hm; exact .inl hbr
  have mG' : ∀ m, m ∈ [br] → m ∈ kF :: G ∨ wr.heap.size ≤ m := fun m hm => by simp at hm; subst hm; exact .inl (by simp [hbr])
  have KP := Keep.put5' (wG.alloc (.cells cs T)) kF (f * 5) (.slice pa fs[f].sig.params.length pc) (.int .i64 fs[f].sig.result) (.int .i64 x.op) (.int .i64 x.num) (.slice xa x.kids.length xc)
  have KA : Keep [br] wr (wG.alloc (.cells cs T)) := hk.alloc _
  have hbk : kF ≠ br := fun e => h.arr.nG (e ▸ hbr)
  have hx2 : Rep (kF :: G) wG (kidsD x.kids) (.slice xa x.kids.length xc) := hxr.sub fun g hg => .inl (by
    rcases List.mem_cons.1 hg with e | e
    · subst e; simp; exact hklt
    · have := hG g e; simpa using this)
  have mF : ∀ m, m ∈ [kF] → m ∈ kF :: G ∨ (wG.alloc (.cells cs T)).heap.size ≤ m := fun m hm => .inl (by simp at hm; simp [hm])
  refine ⟨by rw [List.length_set]; exact h.len, fun i hi => ?_, fun h0 => ?_, (hr.keep0 ((Keep.refl _ _).alloc _)).keep KP (fun m hm => by simp at hm; subst hm; exact hBk), ?_, ?_, ((h.arr.keep KA mG)).put hf (hp.alloc _) (hx2.alloc _), ((h.hd.keep KA mG')).keep KP mF, fun i hi hfi => ?_, (h.keep.then KA).trans KP (fun m hm => .inr (by simp at hm; omega)), ?_⟩
  · rw [List.getElem_set]
    have hi' : i < fs.length := by simpa using hi
    split
    · exact h.ok f hf
    · exact h.ok i hi'
  · rw [List.getElem_set]
    have h0' : 0 < fs.length := by omega
    split
    · subst_vars; exact h.main h0'
    · exact h.main h0'
  · have : (f + 1) * 14000000000000 = f * 14000000000000 + 14000000000000 := by rw [Nat.add_mul]
    omega
  · rw [KP.block kp (by simp; omega) (by simp; exact hkk), KA.block kp hkp (by simp; exact hkb)]
    exact h.blk
  · have hi' : i < fs.length := by simpa using hi
    rw [sgs_set hf]
    by_cases e : f = i
    · subst e
      rw [List.getElem_set_self]
      exact ⟨hty, hsz⟩
    · rw [List.getElem_set_ne e]
      exact h.ty i hi' (by omega)
  · rw [KP.block w.heap.size (by simp; omega) (by simp; omega), KA.block w.heap.size (by omega) (by simp; exact hwb)]
    exact h.res

set_option maxRecDepth 100000 in
set_option maxHeartbeats 16000000 in
theorem goodProgram_any {B br p : Nat} {w : World} (hr : RdAt B w br p) (hB : B ≤ w.heap.size) (hp : p ≤ 900) :
    Calls Tryd.prog 22 #[.pointer (some ⟨br, 0, none⟩)] w (GoodP B br w) := by
  have HR := Lib.hid hr
  have hbr := hr.lt
  clear hr
  go_enter Tryd.func22, Tryd.ntmps22
  go_wp2_with fail
  refine (goodDecls_any (HR.out.keep0 ((Keep.refl _ _).alloc _)) (by simp; omega) (by omega)).mono ?_
  rintro e wA ⟨x, dv, rfl, hx, hkA, hrA, hdA⟩
  obtain ⟨l, hl⟩ : ∃ l, l = gd x := ⟨_, rfl⟩
  rw [← hl] at hdA
  have HL := Lib.hid (show GD l from hl ▸ GD.of_gd hx)
  obtain ⟨da, dc, rfl, _⟩ := decls_form hdA
  have HDA := Lib.hid hdA
  have HRA := Lib.hid hrA
  have KA := Lib.hid (show Keep [br] w wA from ((Keep.refl _ _).alloc _).trans hkA fun m hm => .inl hm)
  have sA := hkA.size
  simp at sA
  obtain ⟨⟨u0, u1⟩, _⟩ := blk2 ((hkA.block w.heap.size (by simp) (by simp; omega)).trans (heap_alloc_new w _))
  have BU := Lib.hid ((hkA.block w.heap.size (by simp) (by simp; omega)).trans (heap_alloc_new w _))
  clear hx hl hkA hrA hdA u0 u1
  obtain ⟨G, hG⟩ : ∃ G, G = wA.heap.size :: List.range (w.heap.size + 1) := ⟨_, rfl⟩
  have HGe := Lib.hid hG
  go_upto_region 2 with fail
  obtain ⟨W, hW⟩ : ∃ W, W = wA.alloc (.cells #[.slice da l.length dc, .slice none 0 0] 50) := ⟨_, rfl⟩
  rw [← hW]
  have KW := Lib.hid (show Keep [br] w W from by rw [hW]; exact KA.out.alloc _)
  have sW : W.heap.size = wA.heap.size + 1 := by rw [hW]; simp
  have BW := Lib.hid (show W.heap[wA.heap.size]? = some (.cells #[.slice da l.length dc, .slice none 0 0] 50 (0, 0)) from by rw [hW]; exact heap_alloc_new wA _)
  have HRW := Lib.hid (show RdAt B W br (p + 1) from by rw [hW]; exact HRA.out.keep0 ((Keep.refl _ _).alloc _))
  have HDW := Lib.hid (show Rep G W (decls l) (.slice da l.length dc) from by
    rw [hW, hG]
    refine Rep.alloc (HDA.out.sub fun g hg => ?_) _
    rcases List.mem_cons.1 hg with h | h
    · exact .inr (by omega)
    · exact .inl (by simpa using h))
  have BUW := Lib.hid (show W.heap[w.heap.size]? = some (.cells #[.slice none 0 0, .slice none 0 0] 50 (0, 0)) from by rw [hW, Below.heap_alloc _ _ _ (by omega)]; exact BU.out)
  have HGm := Lib.hid (show ∀ g, g ∈ G → g < W.heap.size from by
    rw [hG]; intro g hg
    rcases List.mem_cons.1 hg with h | h
    · omega
    · simp at h; omega)
  have HGb := Lib.hid (show br ∈ G from by rw [hG]; simp; omega)
  have HGp := Lib.hid (show wA.heap.size ∈ G from by rw [hG]; simp)
  have HGn := Lib.hid (show w.heap.size ∈ G from by rw [hG]; simp)
  clear hW hG
  go_upto_region 2 with fail
  go_cut [4] (fun s wx => ∃ (b : Nat) (pa : Nat → Option Addr) (pc : Nat → Nat), s = .slice (some ⟨b, 0, none⟩) 6 6 ∧ Keep [] W wx ∧ W.heap.size ≤ b ∧ b < wx.heap.size ∧ ArrF G wx b 6 pr1 rs1 pa pc)
  case first =>
    go_wp2_with fail
    refine (sig_any _ _ _ _ _).mono ?_
    rintro e w1 ⟨rfl, hk⟩
    have R1 := Lib.hid (show Rep G w1 (ints [1]) (.slice (some ⟨wA.heap.size + 1, 0, none⟩) 1 1) from (ints_newAt [1] (by (try simp); (try omega)) (fun g hg => by have := HGm.out g hg; (try simp); omega) (by simp)).keep0 hk)
    have K1 := Lib.hid (show Keep [] W w1 from ((Keep.refl _ _).alloc _).then0 hk)
    have s1 := K1.out.size
    clear hk
    go_wp2_with fail
    refine (sig_any _ _ _ _ _).mono ?_
    rintro e w2 ⟨rfl, hk⟩
    have R2 := Lib.hid (show Rep G w2 (ints [1, 1]) (.slice (some ⟨w1.heap.size, 0, none⟩) 2 2) from (ints_newAt [1, 1] (by (try simp); (try omega)) (fun g hg => by have := HGm.out g hg; (try simp); omega) (by simp)).keep0 hk)
    have K2 := Lib.hid (show Keep [] w1 w2 from ((Keep.refl _ _).alloc _).then0 hk)
    have s2 := K2.out.size
    clear hk
    go_wp2_with fail
    refine (sig_any _ _ _ _ _).mono ?_
    rintro e w3 ⟨rfl, hk⟩
    have R3 := Lib.hid (show Rep G w3 (ints [1]) (.slice (some ⟨w2.heap.size, 0, none⟩) 1 1) from (ints_newAt [1] (by (try simp); (try omega)) (fun g hg => by have := HGm.out g hg; (try simp); omega) (by simp)).keep0 hk)
    have K3 := Lib.hid (show Keep [] w2 w3 from ((Keep.refl _ _).alloc _).then0 hk)
    have s3 := K3.out.size
    clear hk
    go_wp2_with fail
    refine (sig_any _ _ _ _ _).mono ?_
    rintro e w4 ⟨rfl, hk⟩
    have R4 := Lib.hid (show Rep G w4 (ints [1, 0]) (.slice (some ⟨w3.heap.size, 0, none⟩) 2 2) from (ints_newAt [1, 0] (by (try simp); (try omega)) (fun g hg => by have := HGm.out g hg; (try simp); omega) (by simp)).keep0 hk)
    have K4 := Lib.hid (show Keep [] w3 w4 from ((Keep.refl _ _).alloc _).then0 hk)
    have s4 := K4.out.size
    clear hk
    go_wp2_with fail
    refine (sig_any _ _ _ _ _).mono ?_
    rintro e w5 ⟨rfl, hk⟩
    have R5 := Lib.hid (show Rep G w5 (ints [2, 1]) (.slice (some ⟨w4.heap.size, 0, none⟩) 2 2) from (ints_newAt [2, 1] (by (try simp); (try omega)) (fun g hg => by have := HGm.out g hg; (try simp); omega) (by simp)).keep0 hk)
    have K5 := Lib.hid (show Keep [] w4 w5 from ((Keep.refl _ _).alloc _).then0 hk)
    have s5 := K5.out.size
    clear hk
    go_wp2_with fail
    refine (sig_any _ _ _ _ _).mono ?_
    rintro e w6 ⟨rfl, hk⟩
    have R6 := Lib.hid (show Rep G w6 (ints [1, 1]) (.slice (some ⟨w5.heap.size, 0, none⟩) 2 2) from (ints_newAt [1, 1] (by (try simp); (try omega)) (fun g hg => by have := HGm.out g hg; (try simp); omega) (by simp)).keep0 hk)
    have K6 := Lib.hid (show Keep [] w5 w6 from ((Keep.refl _ _).alloc _).then0 hk)
    have s6 := K6.out.size
    clear hk
    go_wp2_with fail
    go_meet
    exact ⟨_, _, _, rfl, (((((K1.out.then0 K2.out).then0 K3.out).then0 K4.out).then0 K5.out).then0 K6.out).alloc _, by omega, by simp, arr6 (r0 := 0) (r1 := 1) (r2 := 1) (r3 := 1) (r4 := 1) (r5 := 0) (((((R1.out.keep0 K2.out).keep0 K3.out).keep0 K4.out).keep0 K5.out).keep0 K6.out) ((((R2.out.keep0 K3.out).keep0 K4.out).keep0 K5.out).keep0 K6.out) (((R3.out.keep0 K4.out).keep0 K5.out).keep0 K6.out) ((R4.out.keep0 K5.out).keep0 K6.out) (R5.out.keep0 K6.out) R6.out⟩
  case rest =>
    obtain ⟨b1, pa1, pc1, rfl, hk1, hb1, hb1', ha1⟩ := hcut
    rename World => wB
    have KB := Lib.hid hk1
    have AB := Lib.hid ha1
    have sB := hk1.size
    clear hk1 ha1
    go_upto_region 3 with fail
    go_cut [5] (fun s wx => ∃ (b : Nat) (pa : Nat → Option Addr) (pc : Nat → Nat), s = .slice (some ⟨b, 0, none⟩) 6 6 ∧ Keep [] wB wx ∧ wB.heap.size ≤ b ∧ b < wx.heap.size ∧ ArrF G wx b 6 pr2 rs2 pa pc)
    case first =>
      go_wp2_with fail
      refine (sig_any _ _ _ _ _).mono ?_
      rintro e w1 ⟨rfl, hk⟩
      have R1 := Lib.hid (show Rep G w1 (ints [3]) (.slice (some ⟨wB.heap.size, 0, none⟩) 1 1) from (ints_newAt [3] (by (try simp); (try omega)) (fun g hg => by have := HGm.out g hg; (try simp); omega) (by simp)).keep0 hk)
      have K1 := Lib.hid (show Keep [] wB w1 from ((Keep.refl _ _).alloc _).then0 hk)
      have s1 := K1.out.size
      clear hk
      go_wp2_with fail
      refine (sig_any _ _ _ _ _).mono ?_
      rintro e w2 ⟨rfl, hk⟩
      have R2 := Lib.hid (show Rep G w2 (ints [0]) (.slice (some ⟨w1.heap.size, 0, none⟩) 1 1) from (ints_newAt [0] (by (try simp); (try omega)) (fun g hg => by have := HGm.out g hg; (try simp); omega) (by simp)).keep0 hk)
      have K2 := Lib.hid (show Keep [] w1 w2 from ((Keep.refl _ _).alloc _).then0 hk)
      have s2 := K2.out.size
      clear hk
      go_wp2_with fail
      refine (sig_any _ _ _ _ _).mono ?_
      rintro e w3 ⟨rfl, hk⟩
      have R3 := Lib.hid (show Rep G w3 (ints [0, 1]) (.slice (some ⟨w2.heap.size, 0, none⟩) 2 2) from (ints_newAt [0, 1] (by (try simp); (try omega)) (fun g hg => by have := HGm.out g hg; (try simp); omega) (by simp)).keep0 hk)
      have K3 := Lib.hid (show Keep [] w2 w3 from ((Keep.refl _ _).alloc _).then0 hk)
      have s3 := K3.out.size
      clear hk
      go_wp2_with fail
      refine (sig_any _ _ _ _ _).mono ?_
      rintro e w4 ⟨rfl, hk⟩
      have R4 := Lib.hid (show Rep G w4 (ints [3, 0]) (.slice (some ⟨w3.heap.size, 0, none⟩) 2 2) from (ints_newAt [3, 0] (by (try simp); (try omega)) (fun g hg => by have := HGm.out g hg; (try simp); omega) (by simp)).keep0 hk)
      have K4 := Lib.hid (show Keep [] w3 w4 from ((Keep.refl _ _).alloc _).then0 hk)
      have s4 := K4.out.size
      clear hk
      go_wp2_with fail
      refine (sig_any _ _ _ _ _).mono ?_
      rintro e w5 ⟨rfl, hk⟩
      have R5 := Lib.hid (show Rep G w5 (ints [3]) (.slice (some ⟨w4.heap.size, 0, none⟩) 1 1) from (ints_newAt [3] (by (try simp); (try omega)) (fun g hg => by have := HGm.out g hg; (try simp); omega) (by simp)).keep0 hk)
      have K5 := Lib.hid (show Keep [] w4 w5 from ((Keep.refl _ _).alloc _).then0 hk)
      have s5 := K5.out.size
      clear hk
      go_wp2_with fail
      refine (sig_any _ _ _ _ _).mono ?_
      rintro e w6 ⟨rfl, hk⟩
      have R6 := Lib.hid (show Rep G w6 (ints [1, 3, 0]) (.slice (some ⟨w5.heap.size, 0, none⟩) 3 3) from (ints_newAt [1, 3, 0] (by (try simp); (try omega)) (fun g hg => by have := HGm.out g hg; (try simp); omega) (by simp)).keep0 hk)
      have K6 := Lib.hid (show Keep [] w5 w6 from ((Keep.refl _ _).alloc _).then0 hk)
      have s6 := K6.out.size
      clear hk
      go_wp2_with fail
      go_meet
      exact ⟨_, _, _, rfl, (((((K1.out.then0 K2.out).then0 K3.out).then0 K4.out).then0 K5.out).then0 K6.out).alloc _, by omega, by simp, arr6 (r0 := 0) (r1 := 1) (r2 := 1) (r3 := 3) (r4 := 1) (r5 := 0) (((((R1.out.keep0 K2.out).keep0 K3.out).keep0 K4.out).keep0 K5.out).keep0 K6.out) ((((R2.out.keep0 K3.out).keep0 K4.out).keep0 K5.out).keep0 K6.out) (((R3.out.keep0 K4.out).keep0 K5.out).keep0 K6.out) ((R4.out.keep0 K5.out).keep0 K6.out) (R5.out.keep0 K6.out) R6.out⟩
    case rest =>
      obtain ⟨b2, pa2, pc2, rfl, hk1, hb2, hb2', ha1⟩ := hcut
      rename World => wC
      have KC := Lib.hid hk1
      have AC := Lib.hid ha1
      have sC := hk1.size
      clear hk1 ha1
      go_upto_region 4 with fail
      go_cut [6] (fun s wx => ∃ (b : Nat) (pa : Nat → Option Addr) (pc : Nat → Nat), s = .slice (some ⟨b, 0, none⟩) 4 4 ∧ Keep [] wC wx ∧ wC.heap.size ≤ b ∧ b < wx.heap.size ∧ ArrF G wx b 4 pr3 rs3 pa pc)
      case first =>
        go_wp2_with fail
        refine (sig_any _ _ _ _ _).mono ?_
        rintro e w1 ⟨rfl, hk⟩
        have R1 := Lib.hid (show Rep G w1 (ints [0]) (.slice (some ⟨wC.heap.size, 0, none⟩) 1 1) from (ints_newAt [0] (by (try simp); (try omega)) (fun g hg => by have := HGm.out g hg; (try simp); omega) (by simp)).keep0 hk)
        have K1 := Lib.hid (show Keep [] wC w1 from ((Keep.refl _ _).alloc _).then0 hk)
        have s1 := K1.out.size
        clear hk
        go_wp2_with fail
        refine (sig_any _ _ _ _ _).mono ?_
        rintro e w2 ⟨rfl, hk⟩
        have R2 := Lib.hid (show Rep G w2 (ints [0, 0]) (.slice (some ⟨w1.heap.size, 0, none⟩) 2 2) from (ints_newAt [0, 0] (by (try simp); (try omega)) (fun g hg => by have := HGm.out g hg; (try simp); omega) (by simp)).keep0 hk)
        have K2 := Lib.hid (show Keep [] w1 w2 from ((Keep.refl _ _).alloc _).then0 hk)
        have s2 := K2.out.size
        clear hk
        go_wp2_with fail
        refine (sig_any _ _ _ _ _).mono ?_
        rintro e w3 ⟨rfl, hk⟩
        have R3 := Lib.hid (show Rep G w3 (ints [1, 0]) (.slice (some ⟨w2.heap.size, 0, none⟩) 2 2) from (ints_newAt [1, 0] (by (try simp); (try omega)) (fun g hg => by have := HGm.out g hg; (try simp); omega) (by simp)).keep0 hk)
        have K3 := Lib.hid (show Keep [] w2 w3 from ((Keep.refl _ _).alloc _).then0 hk)
        have s3 := K3.out.size
        clear hk
        go_wp2_with fail
        refine (sig_any _ _ _ _ _).mono ?_
        rintro e w4 ⟨rfl, hk⟩
        have R4 := Lib.hid (show Rep G w4 (ints [0]) (.slice (some ⟨w3.heap.size, 0, none⟩) 1 1) from (ints_newAt [0] (by (try simp); (try omega)) (fun g hg => by have := HGm.out g hg; (try simp); omega) (by simp)).keep0 hk)
        have K4 := Lib.hid (show Keep [] w3 w4 from ((Keep.refl _ _).alloc _).then0 hk)
        have s4 := K4.out.size
        clear hk
        go_wp2_with fail
        go_meet
        exact ⟨_, _, _, rfl, (((K1.out.then0 K2.out).then0 K3.out).then0 K4.out).alloc _, by omega, by simp, arr4 (r0 := 0) (r1 := 0) (r2 := 0) (r3 := 1) (((R1.out.keep0 K2.out).keep0 K3.out).keep0 K4.out) ((R2.out.keep0 K3.out).keep0 K4.out) (R3.out.keep0 K4.out) R4.out⟩
      case rest =>
        obtain ⟨b3, pa3, pc3, rfl, hk1, hb3, hb3', ha1⟩ := hcut
        rename World => wq
        have KD := Lib.hid hk1
        have sD := hk1.size
        have A3 := Lib.hid ha1
        have A2 := Lib.hid (AC.out.keep hk1 (by simp) (by simp))
        have KBD := Lib.hid (KC.out.then0 hk1)
        have A1 := Lib.hid (AB.out.keep KBD.out (by simp) (by simp))
        have KWD := Lib.hid (KB.out.then0 KBD.out)
        have HRq := Lib.hid (HRW.out.keep0 KWD.out)
        have BPq := Lib.hid ((KWD.out.block wA.heap.size (by omega) (by simp)).trans BW.out)
        clear hk1 ha1
        go_upto_region 5 with fail
        go_cut [3] (fun s3 wx => s3 = .pointer (some ⟨wA.heap.size, 0, none⟩) ∧ Laid l G B br wA.heap.size (p + 1) (.slice da l.length dc) wq wx)
        case first =>
          have HS5 := Lib.hid (show ∀ w', Keep [br, wA.heap.size] wq w' → ((∀ j : Nat, j < 6 → w'.cell? ⟨b1, j * 5, none⟩ = some (.slice (pa1 j) (pr1 j).length (pc1 j))) ∧ (∀ j : Nat, j < 6 → w'.cell? ⟨b1, j * 5 + 1, none⟩ = some (.int .i64 (rs1 j))) ∧ (∀ j : Nat, j < 6 → w'.cell? ⟨b1, j * 5 + 2, none⟩ = some (.int .i64 0)) ∧ (∀ j : Nat, j < 6 → w'.cell? ⟨b1, j * 5 + 3, none⟩ = some (.int .i64 0)) ∧ (∀ j : Nat, j < 6 → w'.cell? ⟨b1, j * 5 + 4, none⟩ = some (.slice none 0 0)) ∧ (∀ j : Nat, j < 6 → w'.cell? ⟨b2, j * 5, none⟩ = some (.slice (pa2 j) (pr2 j).length (pc2 j))) ∧ (∀ j : Nat, j < 6 → w'.cell? ⟨b2, j * 5 + 1, none⟩ = some (.int .i64 (rs2 j))) ∧ (∀ j : Nat, j < 6 → w'.cell? ⟨b2, j * 5 + 2, none⟩ = some (.int .i64 0)) ∧ (∀ j : Nat, j < 6 → w'.cell? ⟨b2, j * 5 + 3, none⟩ = some (.int .i64 0)) ∧ (∀ j : Nat, j < 6 → w'.cell? ⟨b2, j * 5 + 4, none⟩ = some (.slice none 0 0)) ∧ (∀ j : Nat, j < 4 → w'.cell? ⟨b3, j * 5, none⟩ = some (.slice (pa3 j) (pr3 j).length (pc3 j))) ∧ (∀ j : Nat, j < 4 → w'.cell? ⟨b3, j * 5 + 1, none⟩ = some (.int .i64 (rs3 j))) ∧ (∀ j : Nat, j < 4 → w'.cell? ⟨b3, j * 5 + 2, none⟩ = some (.int .i64 0)) ∧ (∀ j : Nat, j < 4 → w'.cell? ⟨b3, j * 5 + 3, none⟩ = some (.int .i64 0)) ∧ (∀ j : Nat, j < 4 → w'.cell? ⟨b3, j * 5 + 4, none⟩ = some (.slice none 0 0))) from fun w' hk => by
            have h1 := A1.out.keep hk (by simp; omega) (by simp [HGb.out, HGp.out])
            have h2 := A2.out.keep hk (by simp; omega) (by simp [HGb.out, HGp.out])
            have h3 := A3.out.keep hk (by simp; omega) (by simp [HGb.out, HGp.out])
            exact ⟨h1.c0, h1.c1, h1.c2, h1.c3, h1.c4, h2.c0, h2.c1, h2.c2, h2.c3, h2.c4, h3.c0, h3.c1, h3.c2, h3.c3, h3.c4⟩)
          have KZ2 := Lib.hid (show Keep [br, wA.heap.size] wq wq from Keep.refl _ _)
          have RZ := HRq
          go_region_held3 (fun w' => (∀ j : Nat, j < 6 → w'.cell? ⟨b1, j * 5, none⟩ = some (.slice (pa1 j) (pr1 j).length (pc1 j))) ∧ (∀ j : Nat, j < 6 → w'.cell? ⟨b1, j * 5 + 1, none⟩ = some (.int .i64 (rs1 j))) ∧ (∀ j : Nat, j < 6 → w'.cell? ⟨b1, j * 5 + 2, none⟩ = some (.int .i64 0)) ∧ (∀ j : Nat, j < 6 → w'.cell? ⟨b1, j * 5 + 3, none⟩ = some (.int .i64 0)) ∧ (∀ j : Nat, j < 6 → w'.cell? ⟨b1, j * 5 + 4, none⟩ = some (.slice none 0 0)) ∧ (∀ j : Nat, j < 6 → w'.cell? ⟨b2, j * 5, none⟩ = some (.slice (pa2 j) (pr2 j).length (pc2 j))) ∧ (∀ j : Nat, j < 6 → w'.cell? ⟨b2, j * 5 + 1, none⟩ = some (.int .i64 (rs2 j))) ∧ (∀ j : Nat, j < 6 → w'.cell? ⟨b2, j * 5 + 2, none⟩ = some (.int .i64 0)) ∧ (∀ j : Nat, j < 6 → w'.cell? ⟨b2, j * 5 + 3, none⟩ = some (.int .i64 0)) ∧ (∀ j : Nat, j < 6 → w'.cell? ⟨b2, j * 5 + 4, none⟩ = some (.slice none 0 0)) ∧ (∀ j : Nat, j < 4 → w'.cell? ⟨b3, j * 5, none⟩ = some (.slice (pa3 j) (pr3 j).length (pc3 j))) ∧ (∀ j : Nat, j < 4 → w'.cell? ⟨b3, j * 5 + 1, none⟩ = some (.int .i64 (rs3 j))) ∧ (∀ j : Nat, j < 4 → w'.cell? ⟨b3, j * 5 + 2, none⟩ = some (.int .i64 0)) ∧ (∀ j : Nat, j < 4 → w'.cell? ⟨b3, j * 5 + 3, none⟩ = some (.int .i64 0)) ∧ (∀ j : Nat, j < 4 → w'.cell? ⟨b3, j * 5 + 4, none⟩ = some (.slice none 0 0)))
            (first | exact HS5.out _ (by repeat (first | with_reducible exact KZ2.out | with_reducible refine Keep.drew ?_ | with_reducible refine Keep.alloc ?_ _ | with_reducible refine Keep.setCell ?_ (.inl (by simp)) _ | fail)) | fail)
            (first
            | (go_at_call 31
               refine (sig_any _ _ _ _ _).mono ?_
               rintro e x0 ⟨rfl, hk⟩
               have KX := Lib.hid (show Keep [] wq x0 from Keep.then0 (by repeat (first | with_reducible exact Keep.refl _ _ | with_reducible refine Keep.drew ?_ | with_reducible refine Keep.alloc ?_ _ | fail)) hk)
               have KZ := Lib.hid (show Keep [br] wq x0 from KX.out.of0)
               have KZ2 := Lib.hid (show Keep [br, wA.heap.size] wq x0 from KX.out.of0)
               have RZ := Lib.hid (show RdAt B x0 br (p + 1) from HRq.out.keep0 KX.out)
               have z0 := KZ.out.size
               clear hk)
            | (go_at_call 25
               fail_if_success (have pst := J1)
               refine (pick_any br _ _ _ (RZ.out.keep0 (by repeat (first | with_reducible exact Keep.refl _ _ | with_reducible refine Keep.drew ?_ | with_reducible refine Keep.alloc ?_ _ | fail))) (by omega) (by omega)).mono ?_
               rintro e x1 ⟨r, rfl, r0, r1, hk, hr⟩
               obtain ⟨j1, rfl⟩ := Int.eq_ofNat_of_zero_le r0
               have I1 := r1 (by omega)
               have J1 : j1 < 6 := by omega
               have RZ := Lib.hid hr
               have KZ := Lib.hid (show Keep [br] wq x1 from Keep.then (by repeat (first | with_reducible exact KZ.out | with_reducible refine Keep.drew ?_ | with_reducible refine Keep.alloc ?_ _ | fail)) hk)
               have KZ2 := Lib.hid (show Keep [br, wA.heap.size] wq x1 from KZ.out.sub (by simp))
               have z1 := KZ.out.size
               clear hk hr r1)
            | (go_at_call 25
               have pre := J1
               fail_if_success (have pst := J2)
               refine (pick_any br _ _ _ (RZ.out.keep0 (by repeat (first | with_reducible exact Keep.refl _ _ | with_reducible refine Keep.drew ?_ | with_reducible refine Keep.alloc ?_ _ | fail))) (by omega) (by omega)).mono ?_
               rintro e x2 ⟨r, rfl, r0, r1, hk, hr⟩
               obtain ⟨j2, rfl⟩ := Int.eq_ofNat_of_zero_le r0
               have I2 := r1 (by omega)
               have J2 : j2 < 6 := by omega
               have RZ := Lib.hid hr
               have KZ := Lib.hid (show Keep [br] wq x2 from Keep.then (by repeat (first | with_reducible exact KZ.out | with_reducible refine Keep.drew ?_ | with_reducible refine Keep.alloc ?_ _ | fail)) hk)
               have KZ2 := Lib.hid (show Keep [br, wA.heap.size] wq x2 from KZ.out.sub (by simp))
               have z2 := KZ.out.size
               clear hk hr r1)
            | (go_at_call 25
               have pre := J2
               refine (pick_any br _ _ _ (RZ.out.keep0 (by repeat (first | with_reducible exact Keep.refl _ _ | with_reducible refine Keep.drew ?_ | with_reducible refine Keep.alloc ?_ _ | fail))) (by omega) (by omega)).mono ?_
               rintro e x3 ⟨r, rfl, r0, r1, hk, hr⟩
               obtain ⟨j3, rfl⟩ := Int.eq_ofNat_of_zero_le r0
               have I3 := r1 (by omega)
               have J3 : j3 < 4 := by omega
               have RZ := Lib.hid hr
               have KZ := Lib.hid (show Keep [br] wq x3 from Keep.then (by repeat (first | with_reducible exact KZ.out | with_reducible refine Keep.drew ?_ | with_reducible refine Keep.alloc ?_ _ | fail)) hk)
               have KZ2 := Lib.hid (show Keep [br, wA.heap.size] wq x3 from KZ.out.sub (by simp))
               have z3 := KZ.out.size
               obtain ⟨⟨q0, q1⟩, v0, v1⟩ := blk2 ((KZ.out.block wA.heap.size (by omega) (by simp; omega)).trans BPq.out)
               have y1 : ∀ o, (x3.alloc o).cell? ⟨wA.heap.size, 1, none⟩ = some (.slice none 0 0) := fun o => ((Keep.refl [] _).alloc o).cellEq q1 (by simp)
               have y2 : ∀ o, (x3.alloc o).frozen? ⟨wA.heap.size, 1, none⟩ = false := fun o => (((Keep.refl [] _).alloc o).frozen (p := ⟨wA.heap.size, 1, none⟩) (by show wA.heap.size < x3.heap.size; omega) (by simp)).trans v1
               clear hk hr r1))
          clear y1 y2 q0 q1 v0 v1 HS5
          go_wp2_with fail
          go_meet
          exact ⟨rfl, laid_mk HL.out (sg_one HL.out j1 J1) (sg_two HL.out j2 J2) (sg_three HL.out j3 J3) KZ.out RZ.out (by omega) (by omega) (by omega) (by omega) BPq.out (fun g hg => by have := HGm.out g hg; omega) HGb.out HGp.out (HDW.out.keep0 KWD.out) (A1.out.rp j1 J1) (A2.out.rp j2 J2) (A3.out.rp j3 J3)⟩
        case rest =>
          obtain ⟨rfl, fs, kF, pz, hF4, hk, hr, hpz, hbP, hFA, hdd⟩ := hcut
          rename World => wE
          have HF4 := Lib.hid hF4
          have KE := Lib.hid (show Keep [br] w wE from ((KW.out.then0 KWD.out).trans hk (fun m hm => by simp at hm; rcases hm with rfl | rfl; exact .inl (by simp); exact .inr (by omega))))
          have HRE := Lib.hid hr
          have BPE := Lib.hid hbP
          have FAE := Lib.hid hFA
          have HDE := Lib.hid hdd
          have BRE := Lib.hid ((hk.block w.heap.size (by omega) (by simp; omega)).trans ((KWD.out.block w.heap.size (by omega) (by simp)).trans BUW.out))
          have sE := hk.size
          have hkFl := hFA.lt
          have hkFn := hFA.nG
          have hkFw : w.heap.size < kF := by
            rw [HGe.out] at hkFn
            simp at hkFn
            omega
          have hkFp : wA.heap.size ≠ kF := by
            rw [HGe.out] at hkFn
            simp at hkFn
            omega
          clear hF4 hk hr hbP hFA hdd hkFn
          go_wp2_with fail
          refine (one_any (G := G) br pz _ [4, 4, 3, 2, 4] _ (HRE.out.keep0 ((Keep.refl _ _).alloc _)) HGb.out (by omega) (ints_newAt [4, 4, 3, 2, 4] (by simp) (fun g hg => by have := HGm.out g hg; omega) (by simp)) (by simp) (by simp)).mono ?_
          rintro e wF ⟨m, rfl, hm, hk, hr⟩
          have hm2 : 2 ≤ m ∧ m ≤ 4 := by simp at hm; omega
          obtain ⟨n, rfl⟩ := Int.eq_ofNat_of_zero_le (show 0 ≤ m by omega)
          have n2 : (2 : Int) ≤ (n : Int) := by omega
          have n4 : (n : Int) ≤ 4 := by omega
          have n2' : 2 ≤ n := by omega
          have n4' : n ≤ 4 := by omega
          have KF := Lib.hid (show Keep [br] wE wF from ((Keep.refl _ _).alloc _).of0.then hk)
          have HRF := Lib.hid hr
          have sF := KF.out.size
          have BPF := Lib.hid ((KF.out.block wA.heap.size (by omega) (by simp; omega)).trans BPE.out)
          obtain ⟨⟨b0, b1'⟩, bz0, bz1⟩ := blk2 BPF.out
          clear hk hr hm hm2
          go_upto_region 8 with fail
          obtain ⟨wL, hwL⟩ : ∃ W, W = wF.setCell ⟨wA.heap.size, 1, none⟩ (.slice (some ⟨kF, 0, none⟩) n 4) := ⟨_, rfl⟩
          rw [← hwL]
          have LQ := Lib.hid (show Lq l G B br wA.heap.size kF n 100000000000000 (.slice da l.length dc) w n wL (fs.take n) (pz + 1) from hwL ▸ lq_start HF4.out n4' KE.out KF.out HRF.out (by omega) BPF.out (by omega) (by omega) HGb.out HGp.out FAE.out HDE.out (by omega) BRE.out)
          have sL : wF.heap.size ≤ wL.heap.size := by rw [hwL]; simp [World.setCell]
          clear hwL b0 b1' bz0 bz1
          go_wp2
          go_loopw [8] (fun s wr => ∃ (z : Int) (k : Nat) (fs : List Fn) (p' : Nat), s = .int .i64 z ∧ z + 1 = k ∧ k ≤ n ∧ wF.heap.size ≤ wr.heap.size ∧ Lq l G B br wA.heap.size kF n 100000000000000 (.slice da l.length dc) w k wr fs p') (fun s _ => (intOf s + 1).toNat)
          case atStart => exact ⟨_, n, _, _, rfl, by omega, by omega, by omega, LQ.out⟩
          case round =>
            obtain ⟨z, k, fs', p', rfl, hz, hkn, hsz, hq⟩ := hrel
            have Q := Lib.hid hq
            have qlen := hq.len
            have qlt := hq.arr.lt
            have qn := hq.arr.nG
            have hBP := hq.blk
            have qkeep := hq.keep.size
            obtain ⟨⟨b0, b1'⟩, bz0, bz1⟩ := blk2 hBP
            clear hq
            by_cases hz0 : 0 ≤ z
            · obtain ⟨f, rfl⟩ := Int.eq_ofNat_of_zero_le hz0
              obtain rfl : k = f + 1 := by omega
              have hf : f < fs'.length := by omega
              go_wp2_with fail
              refine (bodyOf_any (G := G) ⟨by omega, HGb.out, Q.out.hd.tail, (qlen ▸ Q.out.arr.rep (cap := 4) (by omega) (by omega)), fun g hg => by have := HGm.out g hg; omega⟩ p' Q.out.rd HL.out (Q.out.gs (by omega) (by omega)) f _ _ (Q.out.bodyFn hf) (by have := Q.out.pb; omega)).mono ?_
              rintro e wG ⟨x, v, p2, rfl, ⟨hty, hex⟩, hk, hr, hp2, hV⟩
              obtain ⟨xa, xc, rfl, hxr⟩ := hV
              have KG := Lib.hid hk
              have HRG := Lib.hid hr
              have RX := Lib.hid hxr
              have TY := Lib.hid hty
              have sG := hk.size
              have AG := Lib.hid (Q.out.arr.keep hk (fun m hm => by simp at hm; subst hm; exact .inl HGb.out))
              have qne : wA.heap.size ≠ br := by omega
              have BPG := Lib.hid ((hk.block wA.heap.size (by omega) (by simp; exact qne)).trans Q.out.blk)
              clear hk hr hxr hty b0 b1' bz0 bz1
              go_upto_region 12 with fail
              obtain ⟨W2, hW2⟩ : ∃ W, W = wG.alloc (.cells #[.int .i64 x.op, .int .i64 x.num, .slice xa x.kids.length xc] 55) := ⟨_, rfl⟩
              rw [← hW2]
              have HW2 := Lib.hid hW2
              have A2 := Lib.hid (show FArr G W2 kF fs' from by rw [hW2]; exact AG.out.keep0 ((Keep.refl _ _).alloc _))
              have BP2 := Lib.hid (show W2.heap[wA.heap.size]? = some (.cells #[.slice da l.length dc, .slice (some ⟨kF, 0, none⟩) n 4] 50 (0, 0)) from by rw [hW2, Below.heap_alloc _ _ _ (by omega)]; exact BPG.out)
              have BE2 := Lib.hid (show W2.heap[wG.heap.size]? = some (.cells #[.int .i64 x.op, .int .i64 x.num, .slice xa x.kids.length xc] 55 (0, 0)) from by rw [hW2]; exact heap_alloc_new wG _)
              clear hW2
              obtain ⟨pa, pc, ka, kc, n0, n1, n2, n3, n4z, mp, mk⟩ := AG.out.at_ f hf
              have MP := Lib.hid mp
              have KM := show Keep [] wG W2 from by rw [HW2.out]; exact (Keep.refl _ _).alloc _
              have m0 := KM.cellEq n0 (by simp)
              have m1 := KM.cellEq n1 (by simp)
              have m2 := KM.cellEq n2 (by simp)
              have m3 := KM.cellEq n3 (by simp)
              have m4 := KM.cellEq n4z (by simp)
              clear n0 n1 n2 n3 n4z KM
              have mz := A2.out.fz
              obtain ⟨⟨b0, b1'⟩, _⟩ := blk2 BP2.out
              obtain ⟨⟨e0, e1, e2⟩, _⟩ := blk3 BE2.out
              have I1 : (f : Int) < (n : Int) := by omega
              obtain ⟨pl, hpl⟩ : ∃ k, k = fs'[f].sig.params.length := ⟨_, rfl⟩
              obtain ⟨rr, hrr⟩ : ∃ k, k = fs'[f].sig.result := ⟨_, rfl⟩
              obtain ⟨xo, hxo⟩ : ∃ k, k = x.op := ⟨_, rfl⟩
              obtain ⟨xn, hxn⟩ : ∃ k, k = x.num := ⟨_, rfl⟩
              obtain ⟨xl, hxl⟩ : ∃ k, k = x.kids.length := ⟨_, rfl⟩
              rw [← hpl] at m0
              rw [← hrr] at m1
              rw [← hxo] at e0
              rw [← hxn] at e1
              rw [← hxl] at e2
              have HPL := Lib.hid hpl
              have HRR := Lib.hid hrr
              have HXO := Lib.hid hxo
              have HXN := Lib.hid hxn
              have HXL := Lib.hid hxl
              obtain ⟨u2, hu2⟩ : ∃ u, u = Value.int .i64 fs'[f].body.op := ⟨_, rfl⟩
              obtain ⟨u3, hu3⟩ : ∃ u, u = Value.int .i64 fs'[f].body.num := ⟨_, rfl⟩
              obtain ⟨u4, hu4⟩ : ∃ u, u = Value.slice ka fs'[f].body.kids.length kc := ⟨_, rfl⟩
              rw [← hu2] at m2
              rw [← hu3] at m3
              rw [← hu4] at m4
              clear mp mk hpl hrr hxo hxn hxl hu2 hu3 hu4
              go_region
              obtain ⟨W4, hW4⟩ : ∃ W, W = (put5 W2 kF (f * 5) (.slice pa pl pc) (.int .i64 rr) (.int .i64 xo) (.int .i64 xn) (.slice xa xl xc)).drew := ⟨_, rfl⟩
              have s4 : wG.heap.size ≤ W4.heap.size := by
                have h1 := (Keep.put5' W2 kF (f * 5) (.slice pa pl pc) (.int .i64 rr) (.int .i64 xo) (.int .i64 xn) (.slice xa xl xc)).size
                have h2 : wG.heap.size ≤ W2.heap.size := by rw [HW2.out]; simp
                rw [hW4]
                exact Nat.le_trans h2 h1
              have LQ4 := Lib.hid (show Lq l G B br wA.heap.size kF n 100000000000000 (.slice da l.length dc) w f W4 (fs'.set f ⟨fs'[f].sig, x⟩) p2 from by
                have h3 : (Q.out.arr.keep KG.out (fun m hm => by simp at hm; subst hm; exact .inl HGb.out)).lt = AG.out.lt := rfl
                clear h3
                rw [hW4, HPL.out, HRR.out, HXO.out, HXN.out, HXL.out, HW2.out]
                exact (Q.out.step hf KG.out HRG.out hp2 TY.out hex HGb.out (by omega) hkFw hkFp (by omega) (by omega) (by omega) RX.out MP.out (fun g hg => by have := HGm.out g hg; omega) _).drew)
              rw [show (((((W2.setCell ⟨kF, f * 5, none⟩ (.slice pa pl pc)).setCell ⟨kF, f * 5 + 1, none⟩ (.int .i64 rr)).setCell ⟨kF, f * 5 + 2, none⟩ (.int .i64 xo)).setCell ⟨kF, f * 5 + 3, none⟩ (.int .i64 xn)).setCell ⟨kF, f * 5 + 4, none⟩ (.slice xa xl xc)).drew = W4 from hW4.symm]
              clear hW4 m0 m1 m2 m3 m4 mz b0 b1' e0 e1 e2
              go_wp2
              go_roundw
              case rel => exact ⟨_, f, fs'.set f ⟨fs'[f].sig, x⟩, p2, rfl, by omega, by omega, by omega, LQ4.out⟩
              case measure => (simp [intOf]) <;> omega
            · obtain rfl : k = 0 := by omega
              obtain ⟨⟨c0, c1⟩, cz0, cz1⟩ := blk2 Q.out.res
              go_wp2
              exact bodyPost_ret (v := .agg #[.slice da l.length dc, .slice (some ⟨kF, 0, none⟩) n 4]) (by simp [results, Tryd.results22, go_sem, c0, c1]) rfl (lq_end Q.out HL.out (by omega) (by omega) (by omega) (by omega) (by omega) HGn.out (fun g hg => by rw [HGe.out]; simp; omega))
end Go.Proofs.YtnjincgemmgllaaDoor
