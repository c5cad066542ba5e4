/- The walks of the generator's leaf, anyType, callable. -/
import Derived.Test.YtnjincgemmgllaaDoorGenD
import Derived.Deep.RegionHeld3
namespace Go.Proofs.YtnjincgemmgllaaDoor
open Go.RowKit

/- what every function of the generator is handed: the reader's block, the declarations and the functions -/
structure Cx (G : List Nat) (B br : Nat) (l : List Dc) (fs : List Fn) (dv fv : Value) (w : World) : Prop where
  hB : B ≤ w.heap.size
  hbr : br ∈ G
  hd : Rep G w (decls l) dv
  hf : Rep G w (funcsD fs) fv
  hG : ∀ g, g ∈ G → g < w.heap.size
theorem Cx.keep {G : List Nat} {B br : Nat} {l : List Dc} {fs : List Fn} {dv fv : Value} {w w' : World} (h : Cx G B br l fs dv fv w) (hk : Keep [br] w w') : Cx G B br l fs dv fv w' :=
  ⟨Nat.le_trans h.hB hk.size, h.hbr, h.hd.keep hk (memG h.hbr), h.hf.keep hk (memG h.hbr), fun g hg => Nat.lt_of_lt_of_le (h.hG g hg) hk.size⟩
theorem Cx.keep0 {G : List Nat} {B br : Nat} {l : List Dc} {fs : List Fn} {dv fv : Value} {w w' : World} (h : Cx G B br l fs dv fv w) (hk : Keep [] w w') : Cx G B br l fs dv fv w' := h.keep hk.of0
theorem Cx.forms {G : List Nat} {B br : Nat} {l : List Dc} {fs : List Fn} {dv fv : Value} {w : World} (h : Cx G B br l fs dv fv w) : ∃ da dc fa fc, dv = .slice da l.length dc ∧ fv = .slice fa fs.length fc := by
  obtain ⟨da, dc, h1, _⟩ := decls_form h.hd
  obtain ⟨fa, fc, h2, _⟩ := funcs_form h.hf
  exact ⟨da, dc, fa, fc, h1, h2⟩
def LfT (l : List Dc) (sg : List Sg) (vars : List Int) (t : Int) (x : Ex) : Prop := HasTy l sg vars x t ∧ (t = 0 ∨ t = 1 ∨ t = 3 → esz x = 1)
theorem canB_of_vot {l : List Dc} {sg : List Sg} {vars : List Int} {t : Int} (h : canB l sg vars t = true) (hv : vot vars t = []) : canB l sg [] t = true := by
  have hn : hasI vars t = false := by
    cases hh : hasI vars t
    · rfl
    · exact absurd (hasI_iff.1 hh) (vot_nil hv)
  rw [canB, hn] at h
  rw [canB, show hasI [] t = false from rfl]
  exact h
theorem canB_weak {l : List Dc} {sg : List Sg} {vars : List Int} {t : Int} (vs : List Int) (h : canB l sg vars t = true) : canB l sg (vars ++ vs) t = true := by
  unfold canB at h ⊢
  rw [show hasI (vars ++ vs) t = (hasI vars t || hasI vs t) by simp [hasI]]
  cases h1 : isArr l t <;> cases h2 : decide (0 < (closF l sg t).length) <;> cases h3 : hasI vars t <;> simp [h1, h2, h3] at h ⊢
theorem canB_nil_any {l : List Dc} {sg : List Sg} {t : Int} (vs : List Int) (h : canB l sg [] t = true) : canB l sg vs t = true := by
  have := canB_weak vs h
  simpa using this
theorem canB_flat {l : List Dc} {sg : List Sg} {t : Int} (vs : List Int) (h : isArr l t = false) : canB l sg vs t = true := by simp [canB, h]
theorem rb_of (w : World) (a b : Obj) (T : TypeId) (cs : Array Value) (hb : b = .cells cs T) : ((w.alloc a).alloc b).heap[w.heap.size + 1]? = some (.cells cs T (0, 0)) := by
  have h := heap_alloc_new (w.alloc a) b
  rw [World.size_alloc] at h
  rw [h, hb]


set_option maxRecDepth 100000 in
set_option maxHeartbeats 4000000 in
theorem leaf_any {G : List Nat} {B br : Nat} {l : List Dc} {fs : List Fn} {dv fv : Value} {w : World} (hx : Cx G B br l fs dv fv w) (p : Nat) (hr : RdAt B w br p) (vv : Value) (vars : List Int) (hv : Rep G w (ints vars) vv) (hvl : vars.length ≤ 1000000) (t : Int) (t0 : 0 ≤ t) (t1 : t ≤ l.length)
    (hc : canB l (sgs fs) vars t = true) (hl : GD l) (hs : GS l (sgs fs)) (hp : p + 50 ≤ 1125899906842624) :
    Calls Tryd.prog 62 #[.pointer (some ⟨br, 0, none⟩), .agg #[dv, fv], vv, .int .i64 t] w (GenK B w br p 50 (LfT l (sgs fs) vars t)) := by
  have HX := Lib.hid hx
  have HR := Lib.hid hr
  have HV := Lib.hid hv
  have hB := hx.hB
  have hbrl := hr.lt
  have hbr := hx.hbr
  have hn4 : fs.length ≤ 4 := by have := hs.len; rw [sgs_len] at this; omega
  obtain ⟨da, dc, fa, fc, rfl, rfl⟩ := hx.forms
  obtain ⟨va, vc, rfl, _⟩ := ints_form hv
  clear hx hr hv
  have HK0 := Lib.hid (show Keep [] w ((w.alloc (.cells #[.slice da l.length dc, .slice fa fs.length fc] 50)).alloc (.cells #[.int .i64 0, .int .i64 0, .slice none 0 0] 55)) from ((Keep.refl _ _).alloc _).alloc _)
  have RB0 := Lib.hid (rb_of w (.cells #[.slice da l.length dc, .slice fa fs.length fc] 50) _ 55 #[.int .i64 0, .int .i64 0, .slice none 0 0] rfl)
  have SM := Lib.hid (fun hcn : canB l (sgs fs) [] t = true => smallest_any hl hs t t0 t1 hcn)
  have HC := Lib.hid hc
  clear hc
  go_enter Tryd.func62, Tryd.ntmps62
  go_wp2_with fail
  refine (varsOfType_any _ vars t _ (HV.out.keep0 HK0.out) (by omega) (fun g hg => by have := HX.out.hG g hg; simp; omega)).mono ?_
  rintro e w1 ⟨r1, rfl, hk1, ho1⟩
  have RL := Lib.hid (show Rep G w1 (ints (vot vars t)) _ from ho1.rep)
  obtain ⟨ra1, rc1, rfl, _⟩ := ints_form RL.out
  have KE1 := Lib.hid hk1
  have HK1 := Lib.hid (HK0.out.then0 hk1)
  have s1 := hk1.size
  simp at s1
  have q0 : w1.cell? ⟨w.heap.size, 0, none⟩ = some (.slice da l.length dc) := hk1.cellEq (by go_simp) (by simp)
  have q1 : w1.cell? ⟨w.heap.size, 1, none⟩ = some (.slice fa fs.length fc) := hk1.cellEq (by go_simp) (by simp)
  have hvo : (vot vars t).length ≤ 1000000 := by have := votK_len vars t vars.length; rw [show votK vars t vars.length = vot vars t from rfl] at this; omega
  clear hk1 ho1
  rcases Nat.eq_zero_or_pos (vot vars t).length with hz | hz
  · have hcn := canB_of_vot HC.out (List.eq_nil_of_length_eq_zero hz)
    rw [hz]
    clear hz hvo
    go_wp2_with fail
    refine (SM.out hcn G B br p _ _ _ (HR.out.keep0 HK1.out) (by omega) hbr (HX.out.hd.keep0 HK1.out) (HX.out.hf.keep0 HK1.out) (fun g hg => by have := HX.out.hG g hg; omega) (by omega)).mono ?_
    rintro e w8 ⟨x, v8, p8, rfl, hx8, hk8, hr8, hp8, a8, cap8, rfl, hv8⟩
    have ke8 := (KE1.out.of0 (M := [br])).then hk8
    have s8 := (KE1.out.of0 (M := [br])).size
    simp at s8
    have HK8 : Hid (Keep [br] w w8) := Lib.hid (HK0.out.of0.then ke8)
    have HR8 := Lib.hid hr8
    have HV8 := Lib.hid (hv8.sub (G' := List.range (w.heap.size + 1 + 1)) (fun g hg => .inl (by simp at hg ⊢; omega)))
    have HX8 := Lib.hid hx8
    have rb : w8.heap[w.heap.size + 1]? = some (.cells #[.int .i64 0, .int .i64 0, .slice none 0 0] 55 (0, 0)) := (ke8.block _ (by simp) (by simp; omega)).trans RB0.out
    obtain ⟨⟨z0, z1, z2⟩, f0, f1, f2⟩ := blk3 rb
    clear hk8 ke8 hv8 hr8 hx8 rb q0 q1
    go_wp2
    refine bodyPost_ret (v := .agg #[.int .i64 x.op, .int .i64 x.num, .slice a8 x.kids.length cap8]) (by simp [results, Tryd.results62, go_sem, z0, z1, z2]) rfl ⟨x, _, p8, rfl, ⟨HX8.out.1 _, HX8.out.2⟩, HK8.out.put3 (by omega) _ _ _, HR8.out.put3 (by omega) _ _ _, by omega, ExV.put3 HV8.out (by omega) _ _ _⟩
  · have g0 : decide ((0 : Int) < ((vot vars t).length : Int)) = true := by simp; omega
    have MV := Lib.hid (fun x => vot_mem (vs := vars) (t := t) (x := x))
    generalize vot vars t = L at *
    go_wp2_with fail
    refine (pick_any br p 6 _ (HR.out.keep0 HK1.out) (by omega) (by omega)).mono ?_
    rintro e w2 ⟨r2, rfl, a0, a1, hk2, hr2⟩
    have HK2 := Lib.hid hk2
    have HR2 := Lib.hid hr2
    have s2 := hk2.size
    have q02 : w2.cell? ⟨w.heap.size, 0, none⟩ = some (.slice da l.length dc) := hk2.cellEq q0 (by simp; omega)
    have q12 : w2.cell? ⟨w.heap.size, 1, none⟩ = some (.slice fa fs.length fc) := hk2.cellEq q1 (by simp; omega)
    clear hk2 hr2 q0 q1 a1 g0
    cases hr0 : decide (0 < r2)
    · go_wp2_with fail
      refine (canMake_any _ _ _ l fs [] t _ ((HX.out.hd.keep0 HK1.out).keep HK2.out (memG hbr) |>.alloc _) ((HX.out.hf.keep0 HK1.out).keep HK2.out (memG hbr) |>.alloc _) (Rep.nil _ _ _ _ _ (by omega)) (by omega) (fun g hg => by have := HX.out.hG g hg; simp; omega)).mono ?_
      rintro e w3 ⟨rfl, hk3⟩
      have HK3 := Lib.hid (((Keep.refl [] w2).alloc (.cells #[] 3)).then0 hk3)
      have s3 := HK3.out.size
      have q03 : w3.cell? ⟨w.heap.size, 0, none⟩ = some (.slice da l.length dc) := HK3.out.cellEq q02 (by simp)
      have q13 : w3.cell? ⟨w.heap.size, 1, none⟩ = some (.slice fa fs.length fc) := HK3.out.cellEq q12 (by simp)
      clear hk3 q02 q12
      cases hcn : canB l (sgs fs) [] t
      · go_wp2_with fail
        refine (pick_any br (p + 1) L.length _ (HR2.out.keep0 HK3.out) (by omega) (by omega)).mono ?_
        rintro e w5 ⟨r5, rfl, a2, a3, hk5, hr5⟩
        obtain ⟨n5, rfl⟩ := Int.eq_ofNat_of_zero_le a2
        have hn5 : n5 < L.length := by have := a3 (by omega); omega
        have HK5 := Lib.hid (((KE1.out.of0.then HK2.out).then0 HK3.out).then hk5)
        have HR5 := Lib.hid hr5
        have s5 := hk5.size
        obtain ⟨b5, off5, rfl, _, _, cl5⟩ := ints_at (RL.out.keep ((HK2.out.then0 HK3.out).then hk5) (memG hbr)) hn5
        obtain ⟨j, hj, hje, hjt⟩ := MV.out _ (List.getElem_mem hn5)
        rw [hje] at cl5
        have TYJ := Lib.hid (show HasTy l (sgs fs) vars (.mk 12 (j : Int) []) t from hjt ▸ .var hj)
        clear hk5 hr5 a3 hje hjt
        go_wp2_with fail
        refine (variable_any (List.range (w.heap.size + 1 + 1)) (j : Int) _).mono ?_
        rintro e w8 ⟨v8, rfl, hk8, a8, cap8, rfl, hv8⟩
        have ke8 := HK5.out.then0 hk8
        have s8 := ke8.size
        simp at s8
        have HK8 : Hid (Keep [br] w w8) := Lib.hid (HK0.out.of0.then ke8)
        have HR8 := Lib.hid (HR5.out.keep0 hk8)
        have HV8 := Lib.hid hv8
        have rb : w8.heap[w.heap.size + 1]? = some (.cells #[.int .i64 0, .int .i64 0, .slice none 0 0] 55 (0, 0)) := (ke8.block _ (by simp) (by simp; omega)).trans RB0.out
        obtain ⟨⟨z0, z1, z2⟩, f0, f1, f2⟩ := blk3 rb
        clear hk8 ke8 hv8 rb q03 q13 cl5
        go_wp2
        refine bodyPost_ret (v := .agg #[.int .i64 (12), .int .i64 ((j : Int)), .slice a8 0 cap8]) (by simp [results, Tryd.results62, go_sem, z0, z1, z2, Ex.op, Ex.num, Ex.kids]) rfl ⟨.mk (12) ((j : Int)) [], _, ((p + 1) + 1), rfl, ⟨TYJ.out, fun _ => by simp [esz, eszL]⟩, HK8.out.put3 (by omega) _ _ _, HR8.out.put3 (by omega) _ _ _, by omega, ExV.put3 (x := .mk (12) ((j : Int)) []) HV8.out (by omega) _ _ _⟩
      · go_wp2_with fail
        refine (SM.out hcn G B br (p + 1) _ _ _ (HR2.out.keep0 HK3.out) (by omega) hbr (((HX.out.hd.keep0 HK1.out).keep HK2.out (memG hbr)).keep0 HK3.out) (((HX.out.hf.keep0 HK1.out).keep HK2.out (memG hbr)).keep0 HK3.out) (fun g hg => by have := HX.out.hG g hg; omega) (by omega)).mono ?_
        rintro e w8 ⟨x, v8, p8, rfl, hx8, hk8, hr8, hp8, a8, cap8, rfl, hv8⟩
        have ke8 := ((KE1.out.of0.then HK2.out).then0 HK3.out).then hk8
        have s8 := ((KE1.out.of0.then HK2.out).then0 HK3.out).size
        simp at s8
        have HK8 : Hid (Keep [br] w w8) := Lib.hid (HK0.out.of0.then ke8)
        have HR8 := Lib.hid hr8
        have HV8 := Lib.hid (hv8.sub (G' := List.range (w.heap.size + 1 + 1)) (fun g hg => .inl (by simp at hg ⊢; omega)))
        have HX8 := Lib.hid hx8
        have rb : w8.heap[w.heap.size + 1]? = some (.cells #[.int .i64 0, .int .i64 0, .slice none 0 0] 55 (0, 0)) := (ke8.block _ (by simp) (by simp; omega)).trans RB0.out
        obtain ⟨⟨z0, z1, z2⟩, f0, f1, f2⟩ := blk3 rb
        clear hk8 ke8 hv8 hr8 hx8 rb q03 q13
        go_wp2
        refine bodyPost_ret (v := .agg #[.int .i64 x.op, .int .i64 x.num, .slice a8 x.kids.length cap8]) (by simp [results, Tryd.results62, go_sem, z0, z1, z2]) rfl ⟨x, _, p8, rfl, ⟨HX8.out.1 _, HX8.out.2⟩, HK8.out.put3 (by omega) _ _ _, HR8.out.put3 (by omega) _ _ _, by omega, ExV.put3 HV8.out (by omega) _ _ _⟩
    · go_wp2_with fail
      refine (pick_any br (p + 1) L.length _ HR2.out (by omega) (by omega)).mono ?_
      rintro e w5 ⟨r5, rfl, a2, a3, hk5, hr5⟩
      obtain ⟨n5, rfl⟩ := Int.eq_ofNat_of_zero_le a2
      have hn5 : n5 < L.length := by have := a3 (by omega); omega
      have HK5 := Lib.hid ((KE1.out.of0.then HK2.out).then hk5)
      have HR5 := Lib.hid hr5
      have s5 := hk5.size
      obtain ⟨b5, off5, rfl, _, _, cl5⟩ := ints_at (RL.out.keep (HK2.out.then hk5) (memG hbr)) hn5
      obtain ⟨j, hj, hje, hjt⟩ := MV.out _ (List.getElem_mem hn5)
      rw [hje] at cl5
      have TYJ := Lib.hid (show HasTy l (sgs fs) vars (.mk 12 (j : Int) []) t from hjt ▸ .var hj)
      clear hk5 hr5 a3 hje hjt
      go_wp2_with fail
      refine (variable_any (List.range (w.heap.size + 1 + 1)) (j : Int) _).mono ?_
      rintro e w8 ⟨v8, rfl, hk8, a8, cap8, rfl, hv8⟩
      have ke8 := HK5.out.then0 hk8
      have s8 := ke8.size
      simp at s8
      have HK8 : Hid (Keep [br] w w8) := Lib.hid (HK0.out.of0.then ke8)
      have HR8 := Lib.hid (HR5.out.keep0 hk8)
      have HV8 := Lib.hid hv8
      have rb : w8.heap[w.heap.size + 1]? = some (.cells #[.int .i64 0, .int .i64 0, .slice none 0 0] 55 (0, 0)) := (ke8.block _ (by simp) (by simp; omega)).trans RB0.out
      obtain ⟨⟨z0, z1, z2⟩, f0, f1, f2⟩ := blk3 rb
      clear hk8 ke8 hv8 rb q02 q12 cl5
      go_wp2
      refine bodyPost_ret (v := .agg #[.int .i64 (12), .int .i64 ((j : Int)), .slice a8 0 cap8]) (by simp [results, Tryd.results62, go_sem, z0, z1, z2, Ex.op, Ex.num, Ex.kids]) rfl ⟨.mk (12) ((j : Int)) [], _, ((p + 1) + 1), rfl, ⟨TYJ.out, fun _ => by simp [esz, eszL]⟩, HK8.out.put3 (by omega) _ _ _, HR8.out.put3 (by omega) _ _ _, by omega, ExV.put3 (x := .mk (12) ((j : Int)) []) HV8.out (by omega) _ _ _⟩

set_option maxRecDepth 100000 in
set_option maxHeartbeats 2000000 in
theorem anyType_any {G : List Nat} {B br : Nat} {l : List Dc} {fs : List Fn} {dv fv : Value} {w : World} (hx : Cx G B br l fs dv fv w) (p : Nat) (hr : RdAt B w br p) (vv : Value) (vars : List Int) (hv : Rep G w (ints vars) vv) (hvl : vars.length ≤ 1000000) (hl : GD l) (hs : GS l (sgs fs)) (hp : p + 1 ≤ 1125899906842624) :
    Calls Tryd.prog 72 #[.pointer (some ⟨br, 0, none⟩), .agg #[dv, fv], vv] w (IntK B w br p 1 fun u => 0 ≤ u ∧ u ≤ l.length ∧ canB l (sgs fs) vars u = true) := by
  have HX := Lib.hid hx
  have HR := Lib.hid hr
  have HV := Lib.hid hv
  have hB := hx.hB
  have hbrl := hr.lt
  have hbr := hx.hbr
  have hn4 : fs.length ≤ 4 := by have := hs.len; rw [sgs_len] at this; omega
  obtain ⟨da, dc, fa, fc, rfl, rfl⟩ := hx.forms
  obtain ⟨va, vc, rfl, _⟩ := ints_form hv
  clear hx hr hv
  have HK0 := Lib.hid (show Keep [] w ((w.alloc (.cells #[.slice da l.length dc, .slice fa fs.length fc] 50)).alloc (.cells #[.int .i64 1, .int .i64 1, .int .i64 3, .int .i64 0, .int .i64 2, .int .i64 4, .int .i64 3] 3)) from ((Keep.refl _ _).alloc _).alloc _)
  have RI := ints_new (G := [br]) (w := w.alloc (.cells #[.slice da l.length dc, .slice fa fs.length fc] 50)) (E := 3) [1, 1, 3, 0, 2, 4, 3] (fun g hg => by simp at hg; simp; omega) (by simp)
  rw [World.size_alloc] at RI
  have RI := Lib.hid RI
  have C1 := Lib.hid (canB_flat (l := l) (sg := sgs fs) vars hl.a1)
  have hll := hl.len
  go_enter Tryd.func72, Tryd.ntmps72
  go_wp2_with fail
  refine (one_any (G := [br]) (l := [1, 1, 3, 0, 2, 4, 3]) br p _ _ (HR.out.keep0 HK0.out) (by simp) (by omega) RI.out (by simp) (by simp)).mono ?_
  rintro e w1 ⟨r1, rfl, hm, hk1, hr1⟩
  have r0 : 0 ≤ r1 ∧ r1 ≤ 4 := by simp at hm; omega
  obtain ⟨r00, r01⟩ := r0
  have HK1 := Lib.hid (HK0.out.of0.then hk1)
  have HR1 := Lib.hid hr1
  have s1 := hk1.size
  simp at s1
  have q0 : w1.cell? ⟨w.heap.size, 0, none⟩ = some (.slice da l.length dc) := hk1.cellEq (by go_simp) (by simp; omega)
  have q1 : w1.cell? ⟨w.heap.size, 1, none⟩ = some (.slice fa fs.length fc) := hk1.cellEq (by go_simp) (by simp; omega)
  clear hk1 hr1 hm
  by_cases hgt : (l.length : Int) < r1
  · go_wp2
    go_ret
    exact ⟨1, _, rfl, ⟨by omega, by omega, C1.out⟩, HK1.out, HR1.out, by omega⟩
  · go_wp2_with fail
    refine (canMake_any _ _ _ l fs vars r1 _ (HX.out.keep HK1.out).hd (HX.out.keep HK1.out).hf (HV.out.keep HK1.out (memG hbr)) (by omega) (HX.out.keep HK1.out).hG).mono ?_
    rintro e w2 ⟨rfl, hk2⟩
    have HK2 := Lib.hid (HK1.out.then0 hk2)
    have HR2 := Lib.hid (HR1.out.keep0 hk2)
    clear hk2 q0 q1
    cases hcn : canB l (sgs fs) vars r1
    · go_wp2
      go_ret
      exact ⟨1, _, rfl, ⟨by omega, by omega, C1.out⟩, HK2.out, HR2.out, by omega⟩
    · go_wp2
      go_ret
      exact ⟨r1, _, rfl, ⟨by omega, by omega, hcn⟩, HK2.out, HR2.out, by omega⟩

def calB (l : List Dc) (sg : List Sg) (t : Int) (f : Nat) : Bool := decide (1 ≤ f) && ((sgAt sg f).result == t && (sgAt sg f).params.all (canB l sg []))
def calK (l : List Dc) (sg : List Sg) (t : Int) (k : Nat) : List Int := ((List.range k).filter (calB l sg t)).map fun (i : Nat) => (i : Int)
theorem calK_len (l : List Dc) (sg : List Sg) (t : Int) (k : Nat) : (calK l sg t k).length ≤ k := by
  have := List.length_filter_le (calB l sg t) (List.range k)
  simpa [calK] using this
theorem calK_yes {l : List Dc} {sg : List Sg} {t : Int} {k : Nat} (h : calB l sg t k = true) : calK l sg t (k + 1) = calK l sg t k ++ [(k : Int)] := by
  simp [calK, List.range_succ, List.filter_append, h]
theorem calK_no {l : List Dc} {sg : List Sg} {t : Int} {k : Nat} (h : calB l sg t k = false) : calK l sg t (k + 1) = calK l sg t k := by
  simp [calK, List.range_succ, List.filter_append, h]
theorem calK_mem {l : List Dc} {sg : List Sg} {t x : Int} {k : Nat} (h : x ∈ calK l sg t k) : ∃ f : Nat, f < k ∧ x = f ∧ (sgAt sg f).result = t ∧ ∀ u ∈ (sgAt sg f).params, canB l sg [] u = true := by
  simp [calK] at h
  obtain ⟨i, ⟨hi, hv⟩, rfl⟩ := h
  simp [calB] at hv
  exact ⟨i, hi, rfl, hv.2.1, hv.2.2⟩
def okB (l : List Dc) (sg : List Sg) (rs t : Int) (ps : List Int) (j : Nat) : Bool := rs == t && (ps.take j).all (canB l sg [])
theorem okB_succ {l : List Dc} {sg : List Sg} {rs t : Int} {ps : List Int} {j : Nat} (h : j < ps.length) : okB l sg rs t ps (j + 1) = (okB l sg rs t ps j && canB l sg [] ps[j]) := by
  rw [okB, okB, take_snoc' _ _ h]
  simp only [List.all_append, List.all_cons, List.all_nil, Bool.and_true, Bool.and_assoc]
set_option maxRecDepth 100000 in
set_option maxHeartbeats 4000000 in
theorem callable_any {G : List Nat} (dv fv : Value) (l : List Dc) (fs : List Fn) (t : Int) (w : World) (hd : Rep G w (decls l) dv) (hf : Rep G w (funcsD fs) fv) (hn : fs.length ≤ 1000) (h1 : 1 ≤ fs.length) (hG : ∀ g, g ∈ G → g < w.heap.size) :
    Calls Tryd.prog 75 #[.agg #[dv, fv], .int .i64 t] w (OwnK G w 3 1 (intsE (calK l (sgs fs) t fs.length))) := by
  have HD := Lib.hid hd
  have HF := Lib.hid hf
  have HG := Lib.hid hG
  obtain ⟨da, dc, rfl, _⟩ := decls_form hd
  obtain ⟨fa, fc, rfl, _⟩ := funcs_form hf
  clear hd hf hG
  have HK0 := Lib.hid (show Keep [] w (w.alloc (.cells #[.slice da l.length dc, .slice fa fs.length fc] 50)) from (Keep.refl _ _).alloc _)
  have own0 := Own.made G (w.heap.size + 1) (w.alloc (.cells #[.slice da l.length dc, .slice fa fs.length fc] 50)) 3 1 (by simp) (fun g hg => by have := HG.out g hg; simp; omega)
  rw [World.size_alloc] at own0
  have own0 := Lib.hid own0
  go_enter Tryd.func75, Tryd.ntmps75
  go_wp2
  go_loopw [5, 6] (fun s i' wr => ∃ k : Nat, 1 ≤ k ∧ k ≤ fs.length ∧ i' = .int .i64 k ∧ Keep [] (w.alloc (.cells #[.slice da l.length dc, .slice fa fs.length fc] 50)) wr ∧ Own G (w.heap.size + 1) wr 3 1 s (intsE (calK l (sgs fs) t k))) (fun _ i' _ => fs.length - (intOf i').toNat)
  case atStart => exact ⟨1, by omega, h1, rfl, (Keep.refl _ _).alloc _, own0.out⟩
  case round =>
    obtain ⟨k, hk1, hk, rfl, hkp, ho⟩ := hrel
    have HK := Lib.hid hkp
    have HO := Lib.hid ho
    have hsz := hkp.size
    simp at hsz
    have d0 : wr.cell? ⟨w.heap.size, 0, none⟩ = some (.slice da l.length dc) := (hkp.cell (p := ⟨w.heap.size, 0, none⟩) (by simp) (by simp)).trans (by go_simp)
    have d1 : wr.cell? ⟨w.heap.size, 1, none⟩ = some (.slice fa fs.length fc) := (hkp.cell (p := ⟨w.heap.size, 1, none⟩) (by simp) (by simp)).trans (by go_simp)
    clear hkp ho
    by_cases hlt : k < fs.length
    · obtain ⟨b, off, pa, pc, ka, kc, rfl, hb, c0, c1, _, _, _, rp, _⟩ := funcs_at ((HF.out.keep0 HK0.out).keep0 HK.out) hlt
      have RP := Lib.hid rp
      have hkl := calK_len l (sgs fs) t k
      have hce : calB l (sgs fs) t k = okB l (sgs fs) fs[k].sig.result t fs[k].sig.params fs[k].sig.params.length := by rw [calB, sgs_at hlt, okB, List.take_length]; simp [hk1]
      have HCE := Lib.hid hce
      obtain ⟨_, pcc, _, hpl, hpc⟩ := ints_form rp
      clear rp hce
      generalize fs[k].sig.params = ps at *
      generalize fs[k].sig.result = rs at *
      go_wp2
      go_loopw [7, 8] (fun o j' wi => ∃ j : Nat, j ≤ ps.length ∧ j' = .int .i64 j ∧ o = .bool (okB l (sgs fs) rs t ps j) ∧ Keep [] wr wi) (fun _ j' _ => ps.length - (intOf j').toNat)
      case atStart => exact ⟨0, by omega, rfl, by simp [okB], Keep.refl _ _⟩
      case round =>
        obtain ⟨j, hj, rfl, rfl, hki⟩ := hrel
        have HKI := Lib.hid hki
        have hsi := hki.size
        have e0 := hki.cellEq d0 (by simp)
        have e1 := hki.cellEq d1 (by simp)
        have ec0 := hki.cellEq c0 (by simp)
        have ec1 := hki.cellEq c1 (by simp)
        clear hki
        by_cases hlj : j < ps.length
        · obtain ⟨b2, off2, rfl, _, hb2, cq⟩ := ints_at (RP.out.keep0 HKI.out) hlj
          have HS := Lib.hid (okB_succ (l := l) (sg := sgs fs) (rs := rs) (t := t) hlj)
          cases hok : okB l (sgs fs) rs t ps j
          · go_wp2
            go_quiet (fail)
            go_wp2
            go_roundw
            case rel => exact ⟨j + 1, by omega, by go_num, by rw [HS.out, hok]; rfl, HKI.out.drewN _⟩
            case measure => simp [intOf]; omega
          · have KA := (Keep.refl [] wr).alloc (.cells #[] 3)
            have a0 := KA.cellEq e0 (by simp)
            have a1 := KA.cellEq e1 (by simp)
            have ac0 := KA.cellEq ec0 (by simp)
            have aq := KA.cellEq cq (by simp)
            clear KA
            go_wp2
            go_region_held3 (fun w' => w'.cell? ⟨w.heap.size, 0, none⟩ = some (.slice da l.length dc) ∧ w'.cell? ⟨w.heap.size, 1, none⟩ = some (.slice (some ⟨b, off, none⟩) fs.length fc) ∧ w'.cell? ⟨b, off + k * 5, none⟩ = some (.slice (some ⟨b2, off2, none⟩) ps.length pc) ∧ w'.cell? ⟨b2, off2 + j, none⟩ = some (.int .i64 ps[j]))
              (first | exact ⟨e0, e1, ec0, cq⟩ | exact ⟨a0, a1, ac0, aq⟩ | exact ⟨x0, x1, xc0, xq⟩)
              (first
              | (go_at_call 79
                 refine (canMake_any _ _ _ l fs [] _ _ ((((HD.out.keep0 HK0.out).keep0 HK.out).keep0 HKI.out).alloc _).drew ((((HF.out.keep0 HK0.out).keep0 HK.out).keep0 HKI.out).alloc _).drew (Rep.nil _ _ _ _ _ (by omega)) (by omega) (fun g hg => by have := HG.out g hg; simp; omega)).mono ?_
                 rintro e w3 ⟨rfl, hk3⟩
                 have HK3 := Lib.hid (((Keep.refl [] wr).alloc (.cells #[] 3)).drew.then0 hk3)
                 have x0 := HK3.out.cellEq e0 (by simp)
                 have x1 := HK3.out.cellEq e1 (by simp)
                 have xc0 := HK3.out.cellEq ec0 (by simp)
                 have xq := HK3.out.cellEq cq (by simp)
                 clear hk3))
            all_goals
              go_wp2
              go_roundw
              case rel => exact ⟨j + 1, by omega, by go_num, by rw [HS.out, hok]; rfl, HKI.out.then0 HK3.out⟩
              case measure => simp [intOf]; omega
        · have hje : j = ps.length := by omega
          subst hje
          have HO1 := Lib.hid (HO.out.keep0 HKI.out)
          cases hok : okB l (sgs fs) rs t ps ps.length
          · go_wp2
            go_roundw
            case rel => exact ⟨k + 1, by omega, by omega, by go_num, HK.out.then0 HKI.out, by rw [calK_no (HCE.out.trans hok)]; exact HO1.out⟩
            case measure => simp [intOf]; omega
          · go_wp2_with (first
              | (at_builtin
                 refine wpl_append rfl _ _ 22 rfl G (w.heap.size + 1) 3 (.int .i64 0) 1 8 Tryd.underlying22 infoInt rfl (by decide) u5 _ rfl (HO1.out.alloc _) (.slice (some ⟨wr.heap.size, 0, none⟩) 1 1) (intsE [(k : Int)]) rfl
                   (ints_new [(k : Int)] (ob_fresh HO1.out fun g hg => by have := HG.out g hg; omega) (by simp)) (intsE_size _) (by simp [intsE]; omega) (by simp [intsE]; omega) (by simp; omega) (fun g hg => by have := HG.out g hg; simp; omega) ?_
                 intro v' w' ho hgr
                 have HO2 := Lib.hid ho
                 have HR := Lib.hid hgr
                 clear ho hgr))
            go_roundw
            case rel => exact ⟨k + 1, by omega, by omega, by go_num, ((HK.out.then0 HKI.out).alloc _).trans HR.out.keep fun m hm => .inr (by have := (HO.out.lt m hm).1; simp; omega), by rw [calK_yes (HCE.out.trans hok), ← intsE_app]; exact HO2.out⟩
            case measure => simp [intOf]; omega
    · have hkm : k = fs.length := by omega
      subst hkm
      go_wp2
      go_ret
      exact ⟨_, rfl, HK0.out.then0 HK.out, HO.out.base (Nat.le_succ _)⟩
end Go.Proofs.YtnjincgemmgllaaDoor
