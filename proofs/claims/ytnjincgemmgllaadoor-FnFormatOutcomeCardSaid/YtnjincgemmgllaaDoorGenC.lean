/- The walk of the generator's smallest. -/
import Derived.Test.YtnjincgemmgllaaDoorGenB
import Derived.Deep.RegionLaw
namespace Go.Proofs.YtnjincgemmgllaaDoor
open Go.RowKit

theorem infoEx : (Tryd.prog.info? 55).map (fun i => (i.zero, i.size, i.bytes)) = some (some (.agg #[.int .i64 0, .int .i64 0, .slice none 0 0]), 3, 40) := by kernel_rfl
def GenK (B : Nat) (w : World) (br p c : Nat) (P : Ex → Prop) (e : Ending) (w' : World) : Prop :=
  ∃ (x : Ex) (v : Value) (p' : Nat), e = .returned v ∧ P x ∧ Keep [br] w w' ∧ RdAt B w' br p' ∧ p' ≤ p + c ∧ ExV (List.range w.heap.size) w' x v
theorem GenK.weak {B : Nat} {w : World} {br p c c' : Nat} {P P' : Ex → Prop} {e : Ending} {w' : World} (h : GenK B w br p c P e w') (hc : c ≤ c') (hp : ∀ x, P x → P' x) : GenK B w br p c' P' e w' := by
  obtain ⟨x, v, p', h1, h2, h3, h4, h5, h6⟩ := h
  exact ⟨x, v, p', h1, hp x h2, h3, h4, by omega, h6⟩
theorem ex_new {G : List Nat} {w : World} {x : Ex} {a : Option Addr} {cap : Nat} {E : TypeId} (h : Rep G w (kidsD x.kids) (.slice a x.kids.length cap)) (hG : ∀ g, g ∈ G → g < w.heap.size) :
    Rep G (w.alloc (.cells #[.int .i64 x.op, .int .i64 x.num, .slice a x.kids.length cap] E)) (.arr 3 [encE x]) (.slice (some ⟨w.heap.size, 0, none⟩) 1 1) :=
  Rep.new (es := [encE x]) (fun e he => by simp at he; subst he; exact encE_len x) (by rw [encE_eq]; exact ⟨rfl, rfl, h, trivial⟩) hG (by simp)
theorem range_sub {n m : Nat} (h : n ≤ m) {S : Nat} : ∀ g, g ∈ List.range n → g ∈ List.range m ∨ S ≤ g := fun g hg => .inl (by simp at hg ⊢; omega)
/- a list of expressions, the i-th as the i-th type asks -/
def KidsAt (P : Int → Ex → Prop) (ts : List Int) (k : Nat) (ks : List Ex) : Prop := ks.length = k ∧ ∀ i (h1 : i < ks.length) (h2 : i < ts.length), P ts[i] ks[i]
theorem KidsAt.nil (P : Int → Ex → Prop) (ts : List Int) : KidsAt P ts 0 [] := ⟨rfl, fun i h => by simp at h⟩
theorem KidsAt.snoc {P : Int → Ex → Prop} {ts : List Int} {k : Nat} {ks : List Ex} {x : Ex} (h : KidsAt P ts k ks) (hk : k < ts.length) (hx : P ts[k] x) : KidsAt P ts (k + 1) (ks ++ [x]) := by
  obtain ⟨rfl, h3⟩ := h
  refine ⟨by simp, fun i i1 i2 => ?_⟩
  rcases Nat.lt_or_ge i ks.length with hi | hi
  · rw [List.getElem_append_left hi]; exact h3 i hi i2
  · have : i = ks.length := by simp at i1; omega
    subst this
    simpa using hx
theorem blk3 {w : World} {b : Nat} {c0 c1 c2 : Value} {T : TypeId} (h : w.heap[b]? = some (.cells #[c0, c1, c2] T (0, 0))) :
    (w.cell? ⟨b, 0, none⟩ = some c0 ∧ w.cell? ⟨b, 1, none⟩ = some c1 ∧ w.cell? ⟨b, 2, none⟩ = some c2) ∧ (w.frozen? ⟨b, 0, none⟩ = false ∧ w.frozen? ⟨b, 1, none⟩ = false ∧ w.frozen? ⟨b, 2, none⟩ = false) := by
  refine ⟨⟨?_, ?_, ?_⟩, ?_, ?_, ?_⟩
  · rw [cell_of_row w b 0 _ _ _ h]; rfl
  · rw [cell_of_row w b 1 _ _ _ h]; rfl
  · rw [cell_of_row w b 2 _ _ _ h]; rfl
  all_goals simp [World.frozen?, h]
theorem Grew.rep2 {G G2 : List Nat} {v v' : Value} {w w' : World} (h : Grew G v v' w w') {d : D} {c : Value} (hr : Rep (ob v ++ G2) w d c) (hG : ∀ g, g ∈ G2 → g < w.heap.size) : Rep (ob v' ++ G2) w' d c := by
  have h1 := hr.keep h.keep (fun m hm => .inl (List.mem_append_left _ hm))
  rcases h.at_ with e | e
  · rw [show ob v' = ob v by simp [ob, e]]; exact h1
  · refine Rep.keepG (G := ob v ++ G2) (w := w) (fun k hk hn => ⟨h.keep.block k hk (fun hm => hn (List.mem_append_left _ hm)), ?_, Nat.lt_of_lt_of_le hk h.keep.size⟩) d c hr
    intro hm
    rcases List.mem_append.1 hm with hm | hm
    · simp [ob, e] at hm; omega
    · exact hn (List.mem_append_right _ hm)
/- the state of a loop that appends expressions: w0 the world ahead of it -/
structure KSt (br n0 : Nat) (w0 wr : World) (s : Value) (ks : List Ex) : Prop where
  keep : Keep [br] w0 wr
  own : Own (List.range n0) n0 wr 55 3 s (ks.map encE)
  size : n0 = w0.heap.size
theorem KSt.grow {br n0 : Nat} {w0 wr wx w' : World} {s v' : Value} {ks : List Ex} {x : Ex} {o : Obj} (h : KSt br n0 w0 wr s ks) (hk : Keep [br] wr wx) (ho : Own (List.range n0) n0 w' 55 3 v' (ks.map encE ++ [encE x])) (hg : Grew (List.range n0) s v' (wx.alloc o) w') : KSt br n0 w0 w' v' (ks ++ [x]) :=
  ⟨((h.keep.then hk).alloc o).trans hg.keep fun m hm => .inr (by have := (h.own.lt m hm).1; have := h.size; omega), by rw [List.map_append]; exact ho, h.size⟩
theorem KSt.call {br n0 : Nat} {w0 wr wx : World} {s : Value} {ks : List Ex} (h : KSt br n0 w0 wr s ks) (hb : br < n0) (hk : Keep [br] wr wx) : Own (List.range n0) n0 wx 55 3 s (ks.map encE) :=
  h.own.keep hk fun m hm => .inl (by simp at hm ⊢; omega)
theorem KSt.fresh {br n0 : Nat} {w0 wr wx : World} {s : Value} {ks : List Ex} {d : D} {c : Value} (h : KSt br n0 w0 wr s ks) (hr : Rep (List.range wr.heap.size) wx d c) : Rep (ob s ++ List.range n0) wx d c :=
  hr.sub fun g hg => .inl (by
    rcases List.mem_append.1 hg with hh | hh
    · have := (h.own.lt g hh).2; simp; omega
    · have := h.keep.size; have := h.size; simp at hh ⊢; omega)
theorem KSt.below {br n0 : Nat} {w0 wr wx : World} {s : Value} {ks : List Ex} (h : KSt br n0 w0 wr s ks) (hk : Keep [br] wr wx) : ∀ g, g ∈ ob s ++ List.range n0 → g < wx.heap.size := fun g hg => by
  have := hk.size
  rcases List.mem_append.1 hg with hh | hh
  · have := (h.own.lt g hh).2; omega
  · have := h.keep.size; have := h.size; simp at hh; omega
theorem KSt.start {br n0 : Nat} {w0 wr : World} (h : Keep [br] w0 wr) (hn : n0 = w0.heap.size) : KSt br n0 w0 (wr.alloc (.cells #[] 55)) (.slice (some ⟨wr.heap.size, 0, none⟩) 0 0) [] :=
  ⟨h.alloc _, Own.made _ _ _ _ _ (by have := h.size; omega) (fun g hg => by have := h.size; simp at hg; omega), hn⟩
theorem KSt.keep0 {br n0 : Nat} {w0 wr wx : World} {s : Value} {ks : List Ex} (h : KSt br n0 w0 wr s ks) (hk : Keep [] wr wx) : KSt br n0 w0 wx s ks := ⟨h.keep.then0 hk, h.own.keep0 hk, h.size⟩
theorem KSt.keepB {br n0 : Nat} {w0 wr wx : World} {s : Value} {ks : List Ex} (h : KSt br n0 w0 wr s ks) (hb : br < n0) (hk : Keep [br] wr wx) : KSt br n0 w0 wx s ks := ⟨h.keep.then hk, h.call hb hk, h.size⟩
theorem rep_obB {G : List Nat} {w wx : World} {s : Value} {d : D} {c : Value} {br : Nat} (h : Rep (ob s ++ G) w d c) (hb : br ∈ G) (hk : Keep [br] w wx) : Rep (ob s ++ G) wx d c := h.keep hk fun m hm => .inl (List.mem_append_right _ (by simp at hm; subst hm; exact hb))
theorem rep_obOut {G : List Nat} {w : World} {s : Value} {d : D} {c : Value} (h : Rep (ob s ++ G) w d c) : Rep G w d c := h.sub fun g hg => .inl (List.mem_append_right _ hg)
def put3 (w : World) (R : Nat) (c0 c1 c2 : Value) : World := ((w.setCell ⟨R, 0, none⟩ c0).setCell ⟨R, 1, none⟩ c1).setCell ⟨R, 2, none⟩ c2
theorem Keep.put3 {M : List Nat} {w w4 : World} {R : Nat} (h : Keep M w w4) (hR : w.heap.size ≤ R) (c0 c1 c2 : Value) : Keep M w (put3 w4 R c0 c1 c2) :=
  ((h.setCell (.inr hR) _).setCell (.inr hR) _).setCell (.inr hR) _
theorem Keep.put3' (w : World) (R : Nat) (c0 c1 c2 : Value) : Keep [R] w (Go.Proofs.YtnjincgemmgllaaDoor.put3 w R c0 c1 c2) :=
  (((Keep.refl _ _).setCell (.inl (by simp)) _).setCell (.inl (by simp)) _).setCell (.inl (by simp)) _
theorem ExV.put3 {w4 : World} {R n : Nat} {x : Ex} {a : Option Addr} {cap : Nat} (hv : Rep (List.range (R + 1)) w4 (kidsD x.kids) (.slice a x.kids.length cap)) (hn : n ≤ R) (c0 c1 c2 : Value) :
    ExV (List.range n) (Go.Proofs.YtnjincgemmgllaaDoor.put3 w4 R c0 c1 c2) x (.agg #[.int .i64 x.op, .int .i64 x.num, .slice a x.kids.length cap]) :=
  ⟨a, cap, rfl, (hv.keep (Keep.put3' w4 R c0 c1 c2) (fun m hm => by simp at hm; subst hm; exact .inl (by simp))).sub (range_sub (by omega))⟩
theorem RdAt.put3 {B : Nat} {w4 : World} {br p R : Nat} (h : RdAt B w4 br p) (hR : B ≤ R) (c0 c1 c2 : Value) : RdAt B (Go.Proofs.YtnjincgemmgllaaDoor.put3 w4 R c0 c1 c2) br p :=
  h.keep (Keep.put3' w4 R c0 c1 c2) fun m hm => by simp at hm; omega
def SmT (l : List Dc) (sg : List Sg) (t : Int) (x : Ex) : Prop := (∀ vars, HasTy l sg vars x t) ∧ (t = 0 ∨ t = 1 ∨ t = 3 → esz x = 1)
def SmC (l : List Dc) (fs : List Fn) (t : Int) (c : Nat) : Prop := ∀ (G : List Nat) (B br p : Nat) (dv fv : Value) (w : World), RdAt B w br p → B ≤ w.heap.size → br ∈ G → Rep G w (decls l) dv → Rep G w (funcsD fs) fv → (∀ g, g ∈ G → g < w.heap.size) → p + c ≤ 1125899906842624 →
    Calls Tryd.prog 80 #[.pointer (some ⟨br, 0, none⟩), .agg #[dv, fv], .int .i64 t] w (GenK B w br p c (SmT l (sgs fs) t))
theorem SmC.weak {l : List Dc} {fs : List Fn} {t : Int} {c c' : Nat} (h : SmC l fs t c) (hc : c ≤ c') : SmC l fs t c' := fun G B br p dv fv w h1 h2 h3 h4 h5 h6 h7 => (h G B br p dv fv w h1 h2 h3 h4 h5 h6 (by omega)).mono fun _ _ h => h.weak hc fun _ hx => hx
theorem con_ty {l : List Dc} {sg : List Sg} {c : Int} {ks : List Ex} (h0 : 0 < ctyp l c) (h : KidsAt (SmT l sg) (cflds l c) (cflds l c).length ks) (h4 : ctyp l c = 0 ∨ ctyp l c = 1 ∨ ctyp l c = 3 → cflds l c = []) : SmT l sg (ctyp l c) (.mk 6 c ks) := by
  obtain ⟨h1, h2⟩ := h
  refine ⟨fun vars => .con h0 h1 fun i i1 i2 => (h2 i i1 i2).1 vars, fun ht => ?_⟩
  rw [h4 ht] at h1
  have : ks = [] := List.eq_nil_of_length_eq_zero h1
  subst this
  simp [esz, eszL]
def SmTy (l : List Dc) (fs : List Fn) (t c : Int) : Prop := ∀ ks, KidsAt (SmT l (sgs fs)) (cflds l c) (cflds l c).length ks → SmT l (sgs fs) t (.mk 6 c ks)

set_option maxRecDepth 100000 in
set_option maxHeartbeats 2000000 in
theorem smallest_int {l : List Dc} {fs : List Fn} (hl : GD l) (hs : GS l (sgs fs)) : SmC l fs 0 10 := by
  intro G B br p dv fv w hr hB hbr hd hf hG hp
  have HR := Lib.hid hr
  have HD := Lib.hid hd
  have HF := Lib.hid hf
  have HG := Lib.hid hG
  have hbrl := hr.lt
  obtain ⟨da, dc, rfl, _⟩ := decls_form hd
  obtain ⟨fa, fc, rfl, _⟩ := funcs_form hf
  clear hr hd hf hG
  have HK0 := Lib.hid (show Keep [] w ((w.alloc (.cells #[.slice da l.length dc, .slice fa fs.length fc] 50)).alloc (.cells #[.int .i64 0, .int .i64 0, .slice none 0 0] 55)) from ((Keep.refl _ _).alloc _).alloc _)
  have RB0 := Lib.hid (show ((w.alloc (.cells #[.slice da l.length dc, .slice fa fs.length fc] 50)).alloc (.cells #[.int .i64 0, .int .i64 0, .slice none 0 0] 55)).heap[w.heap.size + 1]? = some (.cells #[.int .i64 0, .int .i64 0, .slice none 0 0] 55 (0, 0)) from by have h := heap_alloc_new (w.alloc (.cells #[.slice da l.length dc, .slice fa fs.length fc] 50)) (.cells #[.int .i64 0, .int .i64 0, .slice none 0 0] 55); rwa [World.size_alloc] at h)
  have hn4 : fs.length ≤ 1000 := by have := hs.len; rw [sgs_len] at this; omega
  have c0 := hl.c0
  have hfb := hl.bound
  have CZ := Lib.hid c0
  clear c0
  go_enter Tryd.func80, Tryd.ntmps80
  go_wp2_with fail
  refine (consOf_any _ l 0 _ (HD.out.keep0 HK0.out) hfb (fun g hg => by have := HG.out g hg; simp; omega)).mono ?_
  rintro e w1 ⟨r1, rfl, hk1, ho1⟩
  rw [CZ.out] at ho1
  obtain ⟨ra1, rc1, rfl⟩ := ho1.form
  have HK1 := Lib.hid (HK0.out.then0 hk1)
  have KE1 := Lib.hid hk1
  have s1 := hk1.size
  simp at s1
  have q0 : w1.cell? ⟨w.heap.size, 0, none⟩ = some (.slice da l.length dc) := hk1.cellEq (by go_simp) (by simp)
  have q1 : w1.cell? ⟨w.heap.size, 1, none⟩ = some (.slice fa fs.length fc) := hk1.cellEq (by go_simp) (by simp)
  clear hk1 ho1
  go_wp2_with fail
  refine (closable_any _ _ l fs 0 _ (HD.out.keep0 HK1.out) (HF.out.keep0 HK1.out) hn4 (fun g hg => by have := HG.out g hg; omega)).mono ?_
  rintro e w2 ⟨r2, rfl, hk2, ho2⟩
  obtain ⟨ra2, rc2, rfl⟩ := ho2.form
  have HK2 := Lib.hid (HK1.out.then0 hk2)
  have KE2 := Lib.hid hk2
  have s2 := hk2.size
  clear hk2 ho2 q0 q1
  go_wp2_with fail
  refine (someInt_any br p _ (HR.out.keep0 HK2.out) (by omega) (by omega)).mono ?_
  rintro e w3 ⟨n, p3, rfl, ⟨n0, n1⟩, hk3, hr3, hp3⟩
  have HK3 := Lib.hid hk3
  have HR3 := Lib.hid hr3
  have s3 := hk3.size
  clear hk3 hr3
  go_wp2_with fail
  refine (integer_any (List.range (w.heap.size + 2)) n _).mono ?_
  rintro e w4 ⟨v4, rfl, hk4, a4, cap4, rfl, hv4⟩
  have s4 := hk4.size
  have HK4 : Hid (Keep [br] w w4) := Lib.hid ((HK2.out.of0.then HK3.out).then0 hk4)
  have HR4 := Lib.hid (HR3.out.keep0 hk4)
  have KE4 := Lib.hid (((KE1.out.then0 KE2.out).of0 (M := [br])).then HK3.out |>.then0 hk4)
  have HV4 := Lib.hid hv4
  have rb : w4.heap[w.heap.size + 1]? = some (.cells #[.int .i64 0, .int .i64 0, .slice none 0 0] 55 (0, 0)) := (KE4.out.block _ (by simp) (by simp; omega)).trans RB0.out
  obtain ⟨⟨z0, z1, z2⟩, f0, f1, f2⟩ := blk3 rb
  clear hk4 hv4 rb
  go_wp2
  refine bodyPost_ret (v := .agg #[.int .i64 0, .int .i64 n, .slice a4 0 cap4]) (by simp [results, Tryd.results80, go_sem, z0, z1, z2, Ex.op, Ex.num, Ex.kids]) rfl ⟨.mk 0 n [], _, p3, rfl, ⟨fun vars => .int n0 n1, fun _ => by simp [esz, eszL]⟩, HK4.out.put3 (by omega) _ _ _, HR4.out.put3 (by omega) _ _ _, by omega, ExV.put3 (x := .mk 0 n []) HV4.out (by omega) _ _ _⟩

set_option maxRecDepth 100000 in
set_option maxHeartbeats 4000000 in
theorem smallest_one {l : List Dc} {fs : List Fn} {t c0 : Int} {N : Nat} (hN : N ≤ 3) (hl : GD l) (hc : consL l t = [c0]) (h3 : (cflds l c0).length ≤ N) (h0 : 0 < ctyp l c0) (ht : ctyp l c0 = t) (hz : t = 0 ∨ t = 1 ∨ t = 3 → cflds l c0 = []) (hin : hasI (cflds l c0) t = false)
    (ih : ∀ i (h : i < (cflds l c0).length), SmC l fs (cflds l c0)[i] 10) : SmC l fs t (1 + N * 10) := by
  intro G B br p dv fv w hr hB hbr hd hf hG hp
  have HR := Lib.hid hr
  have HD := Lib.hid hd
  have HF := Lib.hid hf
  have HG := Lib.hid hG
  have hbrl := hr.lt
  obtain ⟨da, dc, rfl, _⟩ := decls_form hd
  obtain ⟨fa, fc, rfl, _⟩ := funcs_form hf
  clear hr hd hf hG
  have HK0 := Lib.hid (show Keep [] w ((w.alloc (.cells #[.slice da l.length dc, .slice fa fs.length fc] 50)).alloc (.cells #[.int .i64 0, .int .i64 0, .slice none 0 0] 55)) from ((Keep.refl _ _).alloc _).alloc _)
  have RB0 := Lib.hid (show ((w.alloc (.cells #[.slice da l.length dc, .slice fa fs.length fc] 50)).alloc (.cells #[.int .i64 0, .int .i64 0, .slice none 0 0] 55)).heap[w.heap.size + 1]? = some (.cells #[.int .i64 0, .int .i64 0, .slice none 0 0] 55 (0, 0)) from by have h := heap_alloc_new (w.alloc (.cells #[.slice da l.length dc, .slice fa fs.length fc] 50)) (.cells #[.int .i64 0, .int .i64 0, .slice none 0 0] 55); rwa [World.size_alloc] at h)
  have hfb := hl.bound
  have CZ := Lib.hid hc
  have IH := Lib.hid ih
  have TY := Lib.hid (fun ks hk => ht ▸ con_ty (l := l) (sg := sgs fs) (c := c0) (ks := ks) h0 hk (ht.symm ▸ hz))
  clear hc ih h0 ht hz
  go_enter Tryd.func80, Tryd.ntmps80
  go_wp2_with fail
  refine (consOf_any _ l t _ (HD.out.keep0 HK0.out) hfb (fun g hg => by have := HG.out g hg; simp; omega)).mono ?_
  rintro e w1 ⟨r1, rfl, hk1, ho1⟩
  rw [CZ.out] at ho1
  obtain ⟨ra1, rc1, rfl⟩ : ∃ a c, r1 = .slice a 1 c := ho1.form
  have HK1 := Lib.hid (HK0.out.then0 hk1)
  have KE1 := Lib.hid hk1
  have s1 := hk1.size
  simp at s1
  have q0 : w1.cell? ⟨w.heap.size, 0, none⟩ = some (.slice da l.length dc) := hk1.cellEq (by go_simp) (by simp)
  have RL := Lib.hid (show Rep G w1 (ints [c0]) _ from ho1.rep)
  obtain ⟨b1, off1, rfl, _, _, cc1⟩ := ints_at RL.out (show 0 < [c0].length by simp)
  simp at cc1
  clear hk1 ho1
  go_wp2_with fail
  refine (conFields_any _ l c0 _ (HD.out.keep0 HK1.out) hfb).mono ?_
  rintro e w2 ⟨r2, rfl, hk2, ho2⟩
  have RF := Lib.hid ho2
  obtain ⟨ra2, rc2, rfl, _⟩ := ints_form ho2
  have s2 := hk2.size
  have q02 : w2.cell? ⟨w.heap.size, 0, none⟩ = some (.slice da l.length dc) := hk2.cellEq q0 (by simp)
  have HK2 := Lib.hid (HK1.out.then0 hk2)
  have KE2 := Lib.hid (KE1.out.then0 hk2)
  clear hk2 ho2 q0 cc1
  go_wp2_with fail
  refine (isIn_any _ _ t _ RF.out).mono ?_
  rintro e w' ⟨rfl, rfl⟩
  rw [hin]
  have q03 : (w2.alloc (.cells #[] 55)).cell? ⟨w.heap.size, 0, none⟩ = some (.slice da l.length dc) := (Keep.alloc (Keep.refl [] w2) _).cellEq q02 (by simp)
  go_wp2_with fail
  refine (conFields_any (G := ob (.slice (some ⟨w2.heap.size, 0, none⟩) 0 0) ++ G) _ l c0 _ (((HD.out.keep0 HK2.out).cons (Nat.le_refl _)).alloc _) hfb).mono ?_
  rintro e w3 ⟨r3, rfl, hk3, ho3⟩
  have HFL := Lib.hid ho3
  obtain ⟨ra3, rc3, rfl, _⟩ := ints_form ho3
  have s3 := hk3.size
  have HR5 := Lib.hid (HR.out.keep0 ((HK2.out.alloc (.cells #[] 55)).then0 hk3))
  have HO5 := Lib.hid ((KSt.start (br := br) KE2.out.of0 (n0 := w.heap.size + 2) (by simp)).keep0 hk3)
  clear hk3 ho3 q02 q03
  go_wp2
  go_loopw [9, 11] (fun s i' wr => ∃ (k p' : Nat) (ks : List Ex), k ≤ (cflds l c0).length ∧ i' = .int .i64 k ∧ KidsAt (SmT l (sgs fs)) (cflds l c0) k ks ∧ KSt br (w.heap.size + 2) ((w.alloc (.cells #[.slice da l.length dc, .slice fa fs.length fc] 50)).alloc (.cells #[.int .i64 0, .int .i64 0, .slice none 0 0] 55)) wr s ks ∧ RdAt B wr br p' ∧ p' ≤ p + 1 + k * 10 ∧ Rep (ob s ++ G) wr (ints (cflds l c0)) (.slice ra3 (cflds l c0).length rc3)) (fun _ i' _ => (cflds l c0).length - (intOf i').toNat)
  case atStart => exact ⟨0, p, [], Nat.zero_le _, rfl, KidsAt.nil _ _, HO5.out, HR5.out, by omega, HFL.out⟩
  case round =>
    obtain ⟨k, p', ks, hk, rfl, hks, ho, hr', hp', hfl⟩ := hrel
    have HKS := Lib.hid hks
    have HO := Lib.hid ho
    have HR := Lib.hid hr'
    have HF5 := Lib.hid hfl
    have sz := ho.keep.size
    simp at sz
    have q0 : wr.cell? ⟨w.heap.size, 0, none⟩ = some (.slice da l.length dc) := ho.keep.cellEq (by go_simp) (by simp; omega)
    have q1 : wr.cell? ⟨w.heap.size, 1, none⟩ = some (.slice fa fs.length fc) := ho.keep.cellEq (by go_simp) (by simp; omega)
    clear hks ho hr' hfl
    by_cases hlt : k < (cflds l c0).length
    · obtain ⟨b, off, rfl, _, hb, hcl⟩ := ints_at HF5.out hlt
      go_wp2
      go_region_law (first
        | (go_simp; go_at_call 80
           refine (IH.out k hlt G B br p' _ _ wr.drew (HR.out.keep0 (Keep.refl _ _).drew) (by simp; omega) hbr ((HD.out.keep0 HK0.out).keep HO.out.keep (memG hbr)).drew ((HF.out.keep0 HK0.out).keep HO.out.keep (memG hbr)).drew (fun g hg => by have := HG.out g hg; simp; omega) (by omega)).mono ?_
           rintro e wx ⟨x, vx, px, rfl, hx, hkx, hrx, hpx, ax, capx, rfl, hvx⟩
           have SX := hkx.size
           simp at SX
           have HKX := Lib.hid (show Keep [br] wr wx from (Keep.refl _ _).drew.then hkx)
           have HX := Lib.hid (HO.out.fresh hvx)
           have HPX := Lib.hid hx
           have HRX := Lib.hid hrx
           clear hkx hrx hx hvx)
        | (refine step_append rfl _ _ 53 rfl (List.range (w.heap.size + 2)) (w.heap.size + 2) 55 (.agg #[.int .i64 0, .int .i64 0, .slice none 0 0]) 3 40 Tryd.underlying53 infoEx rfl (by decide) u9 _ rfl ((HO.out.call (by omega) HKX.out).alloc _) (.slice (some ⟨wx.heap.size, 0, none⟩) 1 1) [encE x] rfl
             (ex_new HX.out (HO.out.below HKX.out)) (fun f hf => by simp at hf; subst hf; exact encE_len x) (by have := HKS.out.1; simp; omega) (by have := HKS.out.1; simp; omega) (by simp; omega) (fun g hg => by simp at hg ⊢; omega) ?_
           intro v' w' ho hgr
           have HO6 := Lib.hid ho
           have HGR := Lib.hid hgr
           clear ho hgr))
      all_goals
        go_wp2
        go_roundw
        case rel => exact ⟨k + 1, px, _, by omega, by go_num, HKS.out.snoc hlt HPX.out, HO.out.grow HKX.out HO6.out HGR.out, (HRX.out.keep0 ((Keep.refl _ _).alloc _)).keep HGR.out.keep (fun m hm => by have := (HO.out.own.lt m hm).1; omega), by omega, HGR.out.rep2 (Rep.alloc (rep_obB HF5.out hbr HKX.out) _) (fun g hg => by have := HG.out g hg; simp; omega)⟩
        case measure => simp [intOf]; omega
    · have hke : k = (cflds l c0).length := by omega
      subst hke
      go_wp2_with fail
      refine (node_any _ _ _ _ _ HO.out.own.rep).mono ?_
      rintro e w8 ⟨v8, rfl, hk8, a8, cap8, rfl, hv8⟩
      have s8 := hk8.size
      have HK8 : Hid (Keep [br] w w8) := Lib.hid ((HK0.out.of0.then HO.out.keep).then0 hk8)
      have HR8 := Lib.hid (HR.out.keep0 hk8)
      have HV8 := Lib.hid hv8
      have rb : w8.heap[w.heap.size + 1]? = some (.cells #[.int .i64 0, .int .i64 0, .slice none 0 0] 55 (0, 0)) := ((HO.out.keep.then0 hk8).block _ (by simp) (by simp; omega)).trans RB0.out
      obtain ⟨⟨z0, z1, z2⟩, f0, f1, f2⟩ := blk3 rb
      clear hk8 hv8 rb q0 q1
      go_wp2
      refine bodyPost_ret (v := .agg #[.int .i64 6, .int .i64 c0, .slice a8 ks.length cap8]) (by simp [results, Tryd.results80, go_sem, z0, z1, z2, Ex.op, Ex.num, Ex.kids]) rfl ⟨.mk 6 c0 ks, _, p', rfl, TY.out _ HKS.out, HK8.out.put3 (by omega) _ _ _, HR8.out.put3 (by omega) _ _ _, by omega, ExV.put3 (x := .mk 6 c0 ks) HV8.out (by omega) _ _ _⟩

set_option maxRecDepth 100000 in
set_option maxHeartbeats 8000000 in
theorem smallest_many {l : List Dc} {fs : List Fn} {t c0 c1 : Int} {n N : Nat} {rest : List Int} (hN : N ≤ 3) (hl : GD l) (hc : consL l t = c0 :: c1 :: rest) (hn : rest.length = n) (hn3 : n ≤ 3) (h3 : (cflds l c0).length ≤ N) (h0 : 0 < ctyp l c0) (ht : ctyp l c0 = t) (hz : t = 0 ∨ t = 1 ∨ t = 3 → cflds l c0 = [])
    (ih : ∀ i (h : i < (cflds l c0).length), SmC l fs (cflds l c0)[i] 10)
    (h13 : hasI (cflds l c1) t = false → (cflds l c1).length ≤ N ∧ SmTy l fs t c1 ∧ ∀ i (h : i < (cflds l c1).length), SmC l fs (cflds l c1)[i] 10) : SmC l fs t (1 + N * 10) := by
  intro G B br p dv fv w hr hB hbr hd hf hG hp
  have HR := Lib.hid hr
  have HD := Lib.hid hd
  have HF := Lib.hid hf
  have HG := Lib.hid hG
  have hbrl := hr.lt
  obtain ⟨da, dc, rfl, _⟩ := decls_form hd
  obtain ⟨fa, fc, rfl, _⟩ := funcs_form hf
  clear hr hd hf hG
  have HK0 := Lib.hid (show Keep [] w ((w.alloc (.cells #[.slice da l.length dc, .slice fa fs.length fc] 50)).alloc (.cells #[.int .i64 0, .int .i64 0, .slice none 0 0] 55)) from ((Keep.refl _ _).alloc _).alloc _)
  have RB0 := Lib.hid (show ((w.alloc (.cells #[.slice da l.length dc, .slice fa fs.length fc] 50)).alloc (.cells #[.int .i64 0, .int .i64 0, .slice none 0 0] 55)).heap[w.heap.size + 1]? = some (.cells #[.int .i64 0, .int .i64 0, .slice none 0 0] 55 (0, 0)) from by have h := heap_alloc_new (w.alloc (.cells #[.slice da l.length dc, .slice fa fs.length fc] 50)) (.cells #[.int .i64 0, .int .i64 0, .slice none 0 0] 55); rwa [World.size_alloc] at h)
  have hfb := hl.bound
  have CZ := Lib.hid hc
  have HN := Lib.hid hn
  have IH0 := Lib.hid ih
  have IX := Lib.hid h13
  have TY0 := Lib.hid (fun ks hk => ht ▸ con_ty (l := l) (sg := sgs fs) (c := c0) (ks := ks) h0 hk (ht.symm ▸ hz))
  clear hc ih h0 ht hz hn h13
  go_enter Tryd.func80, Tryd.ntmps80
  go_wp2_with fail
  refine (consOf_any _ l t _ (HD.out.keep0 HK0.out) hfb (fun g hg => by have := HG.out g hg; simp; omega)).mono ?_
  rintro e w1 ⟨r1, rfl, hk1, ho1⟩
  rw [CZ.out] at ho1
  obtain ⟨ra1, rc1, rfl⟩ : ∃ a c, r1 = .slice a (n + 2) c := by
    obtain ⟨a, c, h⟩ := ho1.form
    exact ⟨a, c, by rw [h, intsE_length]; simp [HN.out]⟩
  have HK1 := Lib.hid (HK0.out.then0 hk1)
  have KE1 := Lib.hid hk1
  have s1 := hk1.size
  simp at s1
  have q0 : w1.cell? ⟨w.heap.size, 0, none⟩ = some (.slice da l.length dc) := hk1.cellEq (by go_simp) (by simp)
  have RL := Lib.hid (show Rep G w1 (ints (c0 :: c1 :: rest)) _ from ho1.rep)
  obtain ⟨b1, off1, rfl, hbG, _, ci0⟩ := ints_at RL.out (show 0 < (c0 :: c1 :: rest).length by simp)
  obtain ⟨b2, off2, he, _, _, ci1⟩ := ints_at RL.out (show 1 < (c0 :: c1 :: rest).length by simp)
  cases he
  simp at ci0 ci1
  have hbb : b1 ≠ br := fun h => hbG (h ▸ hbr)
  have g0 : decide ((0 : Int) < ((n + 2 : Nat) : Int)) = true := by simp <;> omega
  have g1 : decide ((1 : Int) < ((n + 2 : Nat) : Int)) = true := by simp <;> omega
  clear hk1 ho1 hbG
  go_wp2_with fail
  refine (pick_any br p 4 _ (HR.out.keep0 HK1.out) (by omega) (by omega)).mono ?_
  rintro e w2 ⟨r2, rfl, a0, a1, hk2, hr2⟩
  have HK2 := Lib.hid hk2
  have HR2 := Lib.hid hr2
  have s2 := hk2.size
  have q02 : w2.cell? ⟨w.heap.size, 0, none⟩ = some (.slice da l.length dc) := hk2.cellEq q0 (by simp; omega)
  have cc0 : w2.cell? ⟨b1, off1, none⟩ = some (.int .i64 c0) := hk2.cellEq ci0 (by simpa using hbb)
  have cc1 : w2.cell? ⟨b1, off1 + 1, none⟩ = some (.int .i64 c1) := hk2.cellEq ci1 (by simpa using hbb)
  clear hk2 hr2 q0 ci0 ci1 g0 g1 a1
  cases hr0 : (r2 == 0)
  · cases hin : hasI (cflds l c0) t
    · skip
      go_wp2_with fail
      refine (conFields_any _ l c0 _ ((HD.out.keep0 HK1.out).keep HK2.out (memG hbr)) hfb).mono ?_
      rintro e w4 ⟨r4, rfl, hk4, ho4⟩
      have RF := Lib.hid ho4
      obtain ⟨ra4, rc4, rfl, _⟩ := ints_form ho4
      have s4 := hk4.size
      have q04 : w4.cell? ⟨w.heap.size, 0, none⟩ = some (.slice da l.length dc) := hk4.cellEq q02 (by simp)
      have cd0 : w4.cell? ⟨b1, off1, none⟩ = some (.int .i64 c0) := hk4.cellEq cc0 (by simp)
      have HK4 := Lib.hid (HK2.out.then0 hk4)
      have KK4 := Lib.hid hk4
      clear hk4 ho4 q02 cc0 cc1
      go_wp2_with fail
      refine (isIn_any _ _ t _ RF.out).mono ?_
      rintro e w' ⟨rfl, rfl⟩
      rw [hin]
      have q05 : (w4.alloc (.cells #[] 55)).cell? ⟨w.heap.size, 0, none⟩ = some (.slice da l.length dc) := (Keep.alloc (Keep.refl [] w4) _).cellEq q04 (by simp)
      go_wp2_with fail
      refine (conFields_any (G := ob (.slice (some ⟨w4.heap.size, 0, none⟩) 0 0) ++ G) _ l c0 _ ((((HD.out.keep0 HK1.out).keep HK4.out (memG hbr)).cons (Nat.le_refl _)).alloc _) hfb).mono ?_
      rintro e w3 ⟨r3, rfl, hk3, ho3⟩
      have HFL := Lib.hid ho3
      obtain ⟨ra3, rc3, rfl, _⟩ := ints_form ho3
      have s3 := hk3.size
      simp at s3
      have HR5 := Lib.hid (HR2.out.keep0 ((((Keep.refl _ _).then0 KK4.out).alloc (.cells #[] 55)).then0 hk3))
      have HO5 := Lib.hid ((KSt.start (br := br) (KE1.out.of0.then HK4.out) (n0 := w.heap.size + 2) (by simp)).keep0 hk3)
      clear hk3 ho3 q04 q05 cd0
      go_wp2
      go_loopw [9, 11] (fun s i' wr => ∃ (k p' : Nat) (ks : List Ex), k ≤ (cflds l c0).length ∧ i' = .int .i64 k ∧ KidsAt (SmT l (sgs fs)) (cflds l c0) k ks ∧ KSt br (w.heap.size + 2) ((w.alloc (.cells #[.slice da l.length dc, .slice fa fs.length fc] 50)).alloc (.cells #[.int .i64 0, .int .i64 0, .slice none 0 0] 55)) wr s ks ∧ RdAt B wr br p' ∧ p' ≤ p + 1 + k * 10 ∧ Rep (ob s ++ G) wr (ints (cflds l c0)) (.slice ra3 (cflds l c0).length rc3)) (fun _ i' _ => (cflds l c0).length - (intOf i').toNat)
      case atStart => exact ⟨0, p + 1, [], Nat.zero_le _, rfl, KidsAt.nil _ _, HO5.out, HR5.out, by omega, HFL.out⟩
      case round =>
        obtain ⟨k, p', ks, hk, rfl, hks, ho, hr', hp', hfl⟩ := hrel
        have HKS := Lib.hid hks
        have HO := Lib.hid ho
        have HR := Lib.hid hr'
        have HF5 := Lib.hid hfl
        have sz := ho.keep.size
        simp at sz
        have q0 : wr.cell? ⟨w.heap.size, 0, none⟩ = some (.slice da l.length dc) := ho.keep.cellEq (by go_simp) (by simp; omega)
        have q1 : wr.cell? ⟨w.heap.size, 1, none⟩ = some (.slice fa fs.length fc) := ho.keep.cellEq (by go_simp) (by simp; omega)
        clear hks ho hr' hfl
        by_cases hlt : k < (cflds l c0).length
        · obtain ⟨b, off, rfl, _, hb, hcl⟩ := ints_at HF5.out hlt
          go_wp2
          go_region_law (first
            | (go_simp; go_at_call 80
               refine (IH0.out k hlt G B br p' _ _ wr.drew (HR.out.keep0 (Keep.refl _ _).drew) (by simp; omega) hbr ((HD.out.keep0 HK0.out).keep HO.out.keep (memG hbr)).drew ((HF.out.keep0 HK0.out).keep HO.out.keep (memG hbr)).drew (fun g hg => by have := HG.out g hg; simp; omega) (by omega)).mono ?_
               rintro e wx ⟨x, vx, px, rfl, hx, hkx, hrx, hpx, ax, capx, rfl, hvx⟩
               have SX := hkx.size
               simp at SX
               have HKX := Lib.hid (show Keep [br] wr wx from (Keep.refl _ _).drew.then hkx)
               have HX := Lib.hid (HO.out.fresh hvx)
               have HPX := Lib.hid hx
               have HRX := Lib.hid hrx
               clear hkx hrx hx hvx)
            | (refine step_append rfl _ _ 53 rfl (List.range (w.heap.size + 2)) (w.heap.size + 2) 55 (.agg #[.int .i64 0, .int .i64 0, .slice none 0 0]) 3 40 Tryd.underlying53 infoEx rfl (by decide) u9 _ rfl ((HO.out.call (by omega) HKX.out).alloc _) (.slice (some ⟨wx.heap.size, 0, none⟩) 1 1) [encE x] rfl
                 (ex_new HX.out (HO.out.below HKX.out)) (fun f hf => by simp at hf; subst hf; exact encE_len x) (by have := HKS.out.1; simp; omega) (by have := HKS.out.1; simp; omega) (by simp; omega) (fun g hg => by simp at hg ⊢; omega) ?_
               intro v' w' ho hgr
               have HO6 := Lib.hid ho
               have HGR := Lib.hid hgr
               clear ho hgr))
          all_goals
            go_wp2
            go_roundw
            case rel => exact ⟨k + 1, px, _, by omega, by go_num, HKS.out.snoc hlt HPX.out, HO.out.grow HKX.out HO6.out HGR.out, (HRX.out.keep0 ((Keep.refl _ _).alloc _)).keep HGR.out.keep (fun m hm => by have := (HO.out.own.lt m hm).1; omega), by omega, HGR.out.rep2 (Rep.alloc (rep_obB HF5.out hbr HKX.out) _) (fun g hg => by have := HG.out g hg; simp; omega)⟩
            case measure => simp [intOf]; omega
        · have hke : k = (cflds l c0).length := by omega
          subst hke
          go_wp2_with fail
          refine (node_any _ _ _ _ _ HO.out.own.rep).mono ?_
          rintro e w8 ⟨v8, rfl, hk8, a8, cap8, rfl, hv8⟩
          have s8 := hk8.size
          have HK8 : Hid (Keep [br] w w8) := Lib.hid ((HK0.out.of0.then HO.out.keep).then0 hk8)
          have HR8 := Lib.hid (HR.out.keep0 hk8)
          have HV8 := Lib.hid hv8
          have rb : w8.heap[w.heap.size + 1]? = some (.cells #[.int .i64 0, .int .i64 0, .slice none 0 0] 55 (0, 0)) := ((HO.out.keep.then0 hk8).block _ (by simp) (by simp; omega)).trans RB0.out
          obtain ⟨⟨z0, z1, z2⟩, f0, f1, f2⟩ := blk3 rb
          clear hk8 hv8 rb q0 q1
          go_wp2
          refine bodyPost_ret (v := .agg #[.int .i64 6, .int .i64 c0, .slice a8 ks.length cap8]) (by simp [results, Tryd.results80, go_sem, z0, z1, z2, Ex.op, Ex.num, Ex.kids]) rfl ⟨.mk 6 c0 ks, _, p', rfl, TY0.out _ HKS.out, HK8.out.put3 (by omega) _ _ _, HR8.out.put3 (by omega) _ _ _, by omega, ExV.put3 (x := .mk 6 c0 ks) HV8.out (by omega) _ _ _⟩
    · skip
      go_wp2_with fail
      refine (conFields_any _ l c0 _ ((HD.out.keep0 HK1.out).keep HK2.out (memG hbr)) hfb).mono ?_
      rintro e w4 ⟨r4, rfl, hk4, ho4⟩
      have RF := Lib.hid ho4
      obtain ⟨ra4, rc4, rfl, _⟩ := ints_form ho4
      have s4 := hk4.size
      have q04 : w4.cell? ⟨w.heap.size, 0, none⟩ = some (.slice da l.length dc) := hk4.cellEq q02 (by simp)
      have cd0 : w4.cell? ⟨b1, off1, none⟩ = some (.int .i64 c0) := hk4.cellEq cc0 (by simp)
      have HK4 := Lib.hid (HK2.out.then0 hk4)
      have KK4 := Lib.hid hk4
      clear hk4 ho4 q02 cc0 cc1
      go_wp2_with fail
      refine (isIn_any _ _ t _ RF.out).mono ?_
      rintro e w' ⟨rfl, rfl⟩
      rw [hin]
      have q05 : (w4.alloc (.cells #[] 55)).cell? ⟨w.heap.size, 0, none⟩ = some (.slice da l.length dc) := (Keep.alloc (Keep.refl [] w4) _).cellEq q04 (by simp)
      go_wp2_with fail
      refine (conFields_any (G := ob (.slice (some ⟨w4.heap.size, 0, none⟩) 0 0) ++ G) _ l c0 _ ((((HD.out.keep0 HK1.out).keep HK4.out (memG hbr)).cons (Nat.le_refl _)).alloc _) hfb).mono ?_
      rintro e w3 ⟨r3, rfl, hk3, ho3⟩
      have HFL := Lib.hid ho3
      obtain ⟨ra3, rc3, rfl, _⟩ := ints_form ho3
      have s3 := hk3.size
      simp at s3
      have HR5 := Lib.hid (HR2.out.keep0 ((((Keep.refl _ _).then0 KK4.out).alloc (.cells #[] 55)).then0 hk3))
      have HO5 := Lib.hid ((KSt.start (br := br) (KE1.out.of0.then HK4.out) (n0 := w.heap.size + 2) (by simp)).keep0 hk3)
      clear hk3 ho3 q04 q05 cd0
      go_wp2
      go_loopw [9, 11] (fun s i' wr => ∃ (k p' : Nat) (ks : List Ex), k ≤ (cflds l c0).length ∧ i' = .int .i64 k ∧ KidsAt (SmT l (sgs fs)) (cflds l c0) k ks ∧ KSt br (w.heap.size + 2) ((w.alloc (.cells #[.slice da l.length dc, .slice fa fs.length fc] 50)).alloc (.cells #[.int .i64 0, .int .i64 0, .slice none 0 0] 55)) wr s ks ∧ RdAt B wr br p' ∧ p' ≤ p + 1 + k * 10 ∧ Rep (ob s ++ G) wr (ints (cflds l c0)) (.slice ra3 (cflds l c0).length rc3)) (fun _ i' _ => (cflds l c0).length - (intOf i').toNat)
      case atStart => exact ⟨0, p + 1, [], Nat.zero_le _, rfl, KidsAt.nil _ _, HO5.out, HR5.out, by omega, HFL.out⟩
      case round =>
        obtain ⟨k, p', ks, hk, rfl, hks, ho, hr', hp', hfl⟩ := hrel
        have HKS := Lib.hid hks
        have HO := Lib.hid ho
        have HR := Lib.hid hr'
        have HF5 := Lib.hid hfl
        have sz := ho.keep.size
        simp at sz
        have q0 : wr.cell? ⟨w.heap.size, 0, none⟩ = some (.slice da l.length dc) := ho.keep.cellEq (by go_simp) (by simp; omega)
        have q1 : wr.cell? ⟨w.heap.size, 1, none⟩ = some (.slice fa fs.length fc) := ho.keep.cellEq (by go_simp) (by simp; omega)
        clear hks ho hr' hfl
        by_cases hlt : k < (cflds l c0).length
        · obtain ⟨b, off, rfl, _, hb, hcl⟩ := ints_at HF5.out hlt
          go_wp2
          go_region_law (first
            | (go_simp; go_at_call 80
               refine (IH0.out k hlt G B br p' _ _ wr.drew (HR.out.keep0 (Keep.refl _ _).drew) (by simp; omega) hbr ((HD.out.keep0 HK0.out).keep HO.out.keep (memG hbr)).drew ((HF.out.keep0 HK0.out).keep HO.out.keep (memG hbr)).drew (fun g hg => by have := HG.out g hg; simp; omega) (by omega)).mono ?_
               rintro e wx ⟨x, vx, px, rfl, hx, hkx, hrx, hpx, ax, capx, rfl, hvx⟩
               have SX := hkx.size
               simp at SX
               have HKX := Lib.hid (show Keep [br] wr wx from (Keep.refl _ _).drew.then hkx)
               have HX := Lib.hid (HO.out.fresh hvx)
               have HPX := Lib.hid hx
               have HRX := Lib.hid hrx
               clear hkx hrx hx hvx)
            | (refine step_append rfl _ _ 53 rfl (List.range (w.heap.size + 2)) (w.heap.size + 2) 55 (.agg #[.int .i64 0, .int .i64 0, .slice none 0 0]) 3 40 Tryd.underlying53 infoEx rfl (by decide) u9 _ rfl ((HO.out.call (by omega) HKX.out).alloc _) (.slice (some ⟨wx.heap.size, 0, none⟩) 1 1) [encE x] rfl
                 (ex_new HX.out (HO.out.below HKX.out)) (fun f hf => by simp at hf; subst hf; exact encE_len x) (by have := HKS.out.1; simp; omega) (by have := HKS.out.1; simp; omega) (by simp; omega) (fun g hg => by simp at hg ⊢; omega) ?_
               intro v' w' ho hgr
               have HO6 := Lib.hid ho
               have HGR := Lib.hid hgr
               clear ho hgr))
          all_goals
            go_wp2
            go_roundw
            case rel => exact ⟨k + 1, px, _, by omega, by go_num, HKS.out.snoc hlt HPX.out, HO.out.grow HKX.out HO6.out HGR.out, (HRX.out.keep0 ((Keep.refl _ _).alloc _)).keep HGR.out.keep (fun m hm => by have := (HO.out.own.lt m hm).1; omega), by omega, HGR.out.rep2 (Rep.alloc (rep_obB HF5.out hbr HKX.out) _) (fun g hg => by have := HG.out g hg; simp; omega)⟩
            case measure => simp [intOf]; omega
        · have hke : k = (cflds l c0).length := by omega
          subst hke
          go_wp2_with fail
          refine (node_any _ _ _ _ _ HO.out.own.rep).mono ?_
          rintro e w8 ⟨v8, rfl, hk8, a8, cap8, rfl, hv8⟩
          have s8 := hk8.size
          have HK8 : Hid (Keep [br] w w8) := Lib.hid ((HK0.out.of0.then HO.out.keep).then0 hk8)
          have HR8 := Lib.hid (HR.out.keep0 hk8)
          have HV8 := Lib.hid hv8
          have rb : w8.heap[w.heap.size + 1]? = some (.cells #[.int .i64 0, .int .i64 0, .slice none 0 0] 55 (0, 0)) := ((HO.out.keep.then0 hk8).block _ (by simp) (by simp; omega)).trans RB0.out
          obtain ⟨⟨z0, z1, z2⟩, f0, f1, f2⟩ := blk3 rb
          clear hk8 hv8 rb q0 q1
          go_wp2
          refine bodyPost_ret (v := .agg #[.int .i64 6, .int .i64 c0, .slice a8 ks.length cap8]) (by simp [results, Tryd.results80, go_sem, z0, z1, z2, Ex.op, Ex.num, Ex.kids]) rfl ⟨.mk 6 c0 ks, _, p', rfl, TY0.out _ HKS.out, HK8.out.put3 (by omega) _ _ _, HR8.out.put3 (by omega) _ _ _, by omega, ExV.put3 (x := .mk 6 c0 ks) HV8.out (by omega) _ _ _⟩
  · cases hin : hasI (cflds l c1) t
    · obtain ⟨h13, ty1, ih1⟩ := IX.out hin
      have IH1 := Lib.hid ih1
      have TY1 := Lib.hid ty1
      clear ih1 ty1
      go_wp2_with fail
      refine (conFields_any _ l c1 _ ((HD.out.keep0 HK1.out).keep HK2.out (memG hbr)) hfb).mono ?_
      rintro e w4 ⟨r4, rfl, hk4, ho4⟩
      have RF := Lib.hid ho4
      obtain ⟨ra4, rc4, rfl, _⟩ := ints_form ho4
      have s4 := hk4.size
      have q04 : w4.cell? ⟨w.heap.size, 0, none⟩ = some (.slice da l.length dc) := hk4.cellEq q02 (by simp)
      have cd0 : w4.cell? ⟨b1, off1, none⟩ = some (.int .i64 c0) := hk4.cellEq cc0 (by simp)
      have HK4 := Lib.hid (HK2.out.then0 hk4)
      have KK4 := Lib.hid hk4
      clear hk4 ho4 q02 cc0 cc1
      go_wp2_with fail
      refine (isIn_any _ _ t _ RF.out).mono ?_
      rintro e w' ⟨rfl, rfl⟩
      rw [hin]
      have q05 : (w4.alloc (.cells #[] 55)).cell? ⟨w.heap.size, 0, none⟩ = some (.slice da l.length dc) := (Keep.alloc (Keep.refl [] w4) _).cellEq q04 (by simp)
      go_wp2_with fail
      refine (conFields_any (G := ob (.slice (some ⟨w4.heap.size, 0, none⟩) 0 0) ++ G) _ l c1 _ ((((HD.out.keep0 HK1.out).keep HK4.out (memG hbr)).cons (Nat.le_refl _)).alloc _) hfb).mono ?_
      rintro e w3 ⟨r3, rfl, hk3, ho3⟩
      have HFL := Lib.hid ho3
      obtain ⟨ra3, rc3, rfl, _⟩ := ints_form ho3
      have s3 := hk3.size
      simp at s3
      have HR5 := Lib.hid (HR2.out.keep0 ((((Keep.refl _ _).then0 KK4.out).alloc (.cells #[] 55)).then0 hk3))
      have HO5 := Lib.hid ((KSt.start (br := br) (KE1.out.of0.then HK4.out) (n0 := w.heap.size + 2) (by simp)).keep0 hk3)
      clear hk3 ho3 q04 q05 cd0
      go_wp2
      go_loopw [9, 11] (fun s i' wr => ∃ (k p' : Nat) (ks : List Ex), k ≤ (cflds l c1).length ∧ i' = .int .i64 k ∧ KidsAt (SmT l (sgs fs)) (cflds l c1) k ks ∧ KSt br (w.heap.size + 2) ((w.alloc (.cells #[.slice da l.length dc, .slice fa fs.length fc] 50)).alloc (.cells #[.int .i64 0, .int .i64 0, .slice none 0 0] 55)) wr s ks ∧ RdAt B wr br p' ∧ p' ≤ p + 1 + k * 10 ∧ Rep (ob s ++ G) wr (ints (cflds l c1)) (.slice ra3 (cflds l c1).length rc3)) (fun _ i' _ => (cflds l c1).length - (intOf i').toNat)
      case atStart => exact ⟨0, p + 1, [], Nat.zero_le _, rfl, KidsAt.nil _ _, HO5.out, HR5.out, by omega, HFL.out⟩
      case round =>
        obtain ⟨k, p', ks, hk, rfl, hks, ho, hr', hp', hfl⟩ := hrel
        have HKS := Lib.hid hks
        have HO := Lib.hid ho
        have HR := Lib.hid hr'
        have HF5 := Lib.hid hfl
        have sz := ho.keep.size
        simp at sz
        have q0 : wr.cell? ⟨w.heap.size, 0, none⟩ = some (.slice da l.length dc) := ho.keep.cellEq (by go_simp) (by simp; omega)
        have q1 : wr.cell? ⟨w.heap.size, 1, none⟩ = some (.slice fa fs.length fc) := ho.keep.cellEq (by go_simp) (by simp; omega)
        clear hks ho hr' hfl
        by_cases hlt : k < (cflds l c1).length
        · obtain ⟨b, off, rfl, _, hb, hcl⟩ := ints_at HF5.out hlt
          go_wp2
          go_region_law (first
            | (go_simp; go_at_call 80
               refine (IH1.out k hlt G B br p' _ _ wr.drew (HR.out.keep0 (Keep.refl _ _).drew) (by simp; omega) hbr ((HD.out.keep0 HK0.out).keep HO.out.keep (memG hbr)).drew ((HF.out.keep0 HK0.out).keep HO.out.keep (memG hbr)).drew (fun g hg => by have := HG.out g hg; simp; omega) (by omega)).mono ?_
               rintro e wx ⟨x, vx, px, rfl, hx, hkx, hrx, hpx, ax, capx, rfl, hvx⟩
               have SX := hkx.size
               simp at SX
               have HKX := Lib.hid (show Keep [br] wr wx from (Keep.refl _ _).drew.then hkx)
               have HX := Lib.hid (HO.out.fresh hvx)
               have HPX := Lib.hid hx
               have HRX := Lib.hid hrx
               clear hkx hrx hx hvx)
            | (refine step_append rfl _ _ 53 rfl (List.range (w.heap.size + 2)) (w.heap.size + 2) 55 (.agg #[.int .i64 0, .int .i64 0, .slice none 0 0]) 3 40 Tryd.underlying53 infoEx rfl (by decide) u9 _ rfl ((HO.out.call (by omega) HKX.out).alloc _) (.slice (some ⟨wx.heap.size, 0, none⟩) 1 1) [encE x] rfl
                 (ex_new HX.out (HO.out.below HKX.out)) (fun f hf => by simp at hf; subst hf; exact encE_len x) (by have := HKS.out.1; simp; omega) (by have := HKS.out.1; simp; omega) (by simp; omega) (fun g hg => by simp at hg ⊢; omega) ?_
               intro v' w' ho hgr
               have HO6 := Lib.hid ho
               have HGR := Lib.hid hgr
               clear ho hgr))
          all_goals
            go_wp2
            go_roundw
            case rel => exact ⟨k + 1, px, _, by omega, by go_num, HKS.out.snoc hlt HPX.out, HO.out.grow HKX.out HO6.out HGR.out, (HRX.out.keep0 ((Keep.refl _ _).alloc _)).keep HGR.out.keep (fun m hm => by have := (HO.out.own.lt m hm).1; omega), by omega, HGR.out.rep2 (Rep.alloc (rep_obB HF5.out hbr HKX.out) _) (fun g hg => by have := HG.out g hg; simp; omega)⟩
            case measure => simp [intOf]; omega
        · have hke : k = (cflds l c1).length := by omega
          subst hke
          go_wp2_with fail
          refine (node_any _ _ _ _ _ HO.out.own.rep).mono ?_
          rintro e w8 ⟨v8, rfl, hk8, a8, cap8, rfl, hv8⟩
          have s8 := hk8.size
          have HK8 : Hid (Keep [br] w w8) := Lib.hid ((HK0.out.of0.then HO.out.keep).then0 hk8)
          have HR8 := Lib.hid (HR.out.keep0 hk8)
          have HV8 := Lib.hid hv8
          have rb : w8.heap[w.heap.size + 1]? = some (.cells #[.int .i64 0, .int .i64 0, .slice none 0 0] 55 (0, 0)) := ((HO.out.keep.then0 hk8).block _ (by simp) (by simp; omega)).trans RB0.out
          obtain ⟨⟨z0, z1, z2⟩, f0, f1, f2⟩ := blk3 rb
          clear hk8 hv8 rb q0 q1
          go_wp2
          refine bodyPost_ret (v := .agg #[.int .i64 6, .int .i64 c1, .slice a8 ks.length cap8]) (by simp [results, Tryd.results80, go_sem, z0, z1, z2, Ex.op, Ex.num, Ex.kids]) rfl ⟨.mk 6 c1 ks, _, p', rfl, TY1.out _ HKS.out, HK8.out.put3 (by omega) _ _ _, HR8.out.put3 (by omega) _ _ _, by omega, ExV.put3 (x := .mk 6 c1 ks) HV8.out (by omega) _ _ _⟩
    · skip
      go_wp2_with fail
      refine (conFields_any _ l c1 _ ((HD.out.keep0 HK1.out).keep HK2.out (memG hbr)) hfb).mono ?_
      rintro e w4 ⟨r4, rfl, hk4, ho4⟩
      have RF := Lib.hid ho4
      obtain ⟨ra4, rc4, rfl, _⟩ := ints_form ho4
      have s4 := hk4.size
      have q04 : w4.cell? ⟨w.heap.size, 0, none⟩ = some (.slice da l.length dc) := hk4.cellEq q02 (by simp)
      have cd0 : w4.cell? ⟨b1, off1, none⟩ = some (.int .i64 c0) := hk4.cellEq cc0 (by simp)
      have HK4 := Lib.hid (HK2.out.then0 hk4)
      have KK4 := Lib.hid hk4
      clear hk4 ho4 q02 cc0 cc1
      go_wp2_with fail
      refine (isIn_any _ _ t _ RF.out).mono ?_
      rintro e w' ⟨rfl, rfl⟩
      rw [hin]
      have q05 : (w4.alloc (.cells #[] 55)).cell? ⟨w.heap.size, 0, none⟩ = some (.slice da l.length dc) := (Keep.alloc (Keep.refl [] w4) _).cellEq q04 (by simp)
      go_wp2_with fail
      refine (conFields_any (G := ob (.slice (some ⟨w4.heap.size, 0, none⟩) 0 0) ++ G) _ l c0 _ ((((HD.out.keep0 HK1.out).keep HK4.out (memG hbr)).cons (Nat.le_refl _)).alloc _) hfb).mono ?_
      rintro e w3 ⟨r3, rfl, hk3, ho3⟩
      have HFL := Lib.hid ho3
      obtain ⟨ra3, rc3, rfl, _⟩ := ints_form ho3
      have s3 := hk3.size
      simp at s3
      have HR5 := Lib.hid (HR2.out.keep0 ((((Keep.refl _ _).then0 KK4.out).alloc (.cells #[] 55)).then0 hk3))
      have HO5 := Lib.hid ((KSt.start (br := br) (KE1.out.of0.then HK4.out) (n0 := w.heap.size + 2) (by simp)).keep0 hk3)
      clear hk3 ho3 q04 q05 cd0
      go_wp2
      go_loopw [9, 11] (fun s i' wr => ∃ (k p' : Nat) (ks : List Ex), k ≤ (cflds l c0).length ∧ i' = .int .i64 k ∧ KidsAt (SmT l (sgs fs)) (cflds l c0) k ks ∧ KSt br (w.heap.size + 2) ((w.alloc (.cells #[.slice da l.length dc, .slice fa fs.length fc] 50)).alloc (.cells #[.int .i64 0, .int .i64 0, .slice none 0 0] 55)) wr s ks ∧ RdAt B wr br p' ∧ p' ≤ p + 1 + k * 10 ∧ Rep (ob s ++ G) wr (ints (cflds l c0)) (.slice ra3 (cflds l c0).length rc3)) (fun _ i' _ => (cflds l c0).length - (intOf i').toNat)
      case atStart => exact ⟨0, p + 1, [], Nat.zero_le _, rfl, KidsAt.nil _ _, HO5.out, HR5.out, by omega, HFL.out⟩
      case round =>
        obtain ⟨k, p', ks, hk, rfl, hks, ho, hr', hp', hfl⟩ := hrel
        have HKS := Lib.hid hks
        have HO := Lib.hid ho
        have HR := Lib.hid hr'
        have HF5 := Lib.hid hfl
        have sz := ho.keep.size
        simp at sz
        have q0 : wr.cell? ⟨w.heap.size, 0, none⟩ = some (.slice da l.length dc) := ho.keep.cellEq (by go_simp) (by simp; omega)
        have q1 : wr.cell? ⟨w.heap.size, 1, none⟩ = some (.slice fa fs.length fc) := ho.keep.cellEq (by go_simp) (by simp; omega)
        clear hks ho hr' hfl
        by_cases hlt : k < (cflds l c0).length
        · obtain ⟨b, off, rfl, _, hb, hcl⟩ := ints_at HF5.out hlt
          go_wp2
          go_region_law (first
            | (go_simp; go_at_call 80
               refine (IH0.out k hlt G B br p' _ _ wr.drew (HR.out.keep0 (Keep.refl _ _).drew) (by simp; omega) hbr ((HD.out.keep0 HK0.out).keep HO.out.keep (memG hbr)).drew ((HF.out.keep0 HK0.out).keep HO.out.keep (memG hbr)).drew (fun g hg => by have := HG.out g hg; simp; omega) (by omega)).mono ?_
               rintro e wx ⟨x, vx, px, rfl, hx, hkx, hrx, hpx, ax, capx, rfl, hvx⟩
               have SX := hkx.size
               simp at SX
               have HKX := Lib.hid (show Keep [br] wr wx from (Keep.refl _ _).drew.then hkx)
               have HX := Lib.hid (HO.out.fresh hvx)
               have HPX := Lib.hid hx
               have HRX := Lib.hid hrx
               clear hkx hrx hx hvx)
            | (refine step_append rfl _ _ 53 rfl (List.range (w.heap.size + 2)) (w.heap.size + 2) 55 (.agg #[.int .i64 0, .int .i64 0, .slice none 0 0]) 3 40 Tryd.underlying53 infoEx rfl (by decide) u9 _ rfl ((HO.out.call (by omega) HKX.out).alloc _) (.slice (some ⟨wx.heap.size, 0, none⟩) 1 1) [encE x] rfl
                 (ex_new HX.out (HO.out.below HKX.out)) (fun f hf => by simp at hf; subst hf; exact encE_len x) (by have := HKS.out.1; simp; omega) (by have := HKS.out.1; simp; omega) (by simp; omega) (fun g hg => by simp at hg ⊢; omega) ?_
               intro v' w' ho hgr
               have HO6 := Lib.hid ho
               have HGR := Lib.hid hgr
               clear ho hgr))
          all_goals
            go_wp2
            go_roundw
            case rel => exact ⟨k + 1, px, _, by omega, by go_num, HKS.out.snoc hlt HPX.out, HO.out.grow HKX.out HO6.out HGR.out, (HRX.out.keep0 ((Keep.refl _ _).alloc _)).keep HGR.out.keep (fun m hm => by have := (HO.out.own.lt m hm).1; omega), by omega, HGR.out.rep2 (Rep.alloc (rep_obB HF5.out hbr HKX.out) _) (fun g hg => by have := HG.out g hg; simp; omega)⟩
            case measure => simp [intOf]; omega
        · have hke : k = (cflds l c0).length := by omega
          subst hke
          go_wp2_with fail
          refine (node_any _ _ _ _ _ HO.out.own.rep).mono ?_
          rintro e w8 ⟨v8, rfl, hk8, a8, cap8, rfl, hv8⟩
          have s8 := hk8.size
          have HK8 : Hid (Keep [br] w w8) := Lib.hid ((HK0.out.of0.then HO.out.keep).then0 hk8)
          have HR8 := Lib.hid (HR.out.keep0 hk8)
          have HV8 := Lib.hid hv8
          have rb : w8.heap[w.heap.size + 1]? = some (.cells #[.int .i64 0, .int .i64 0, .slice none 0 0] 55 (0, 0)) := ((HO.out.keep.then0 hk8).block _ (by simp) (by simp; omega)).trans RB0.out
          obtain ⟨⟨z0, z1, z2⟩, f0, f1, f2⟩ := blk3 rb
          clear hk8 hv8 rb q0 q1
          go_wp2
          refine bodyPost_ret (v := .agg #[.int .i64 6, .int .i64 c0, .slice a8 ks.length cap8]) (by simp [results, Tryd.results80, go_sem, z0, z1, z2, Ex.op, Ex.num, Ex.kids]) rfl ⟨.mk 6 c0 ks, _, p', rfl, TY0.out _ HKS.out, HK8.out.put3 (by omega) _ _ _, HR8.out.put3 (by omega) _ _ _, by omega, ExV.put3 (x := .mk 6 c0 ks) HV8.out (by omega) _ _ _⟩
end Go.Proofs.YtnjincgemmgllaaDoor
