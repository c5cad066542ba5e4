/- The walk of the generator's genMatch, under the contract of gen at lesser budgets. -/
import Derived.Test.YtnjincgemmgllaaDoorGenF
namespace Go.Proofs.YtnjincgemmgllaaDoor
open Go.RowKit

theorem Own.new {G : List Nat} {B : Nat} {w : World} {E : TypeId} {sz : Nat} {es : List (List D)} {cs : Array Value} (hB : B ≤ w.heap.size) (hG : ∀ g, g ∈ G → g < w.heap.size) (hs : ∀ e ∈ es, e.length = sz) (hc : RepC G w es.flatten cs.toList) (hz : cs.size = es.length * sz) (hm : es.length ≤ 1000) :
    Own G B (w.alloc (.cells cs E)) E sz (.slice (some ⟨w.heap.size, 0, none⟩) es.length es.length) es := by
  refine ⟨⟨cs.toList, ⟨by simp [hz], .inr ⟨w.heap.size, es.length, cs, rfl, hB, heap_alloc_new w _, Nat.le_refl _, by simp [maxLen]; omega, hz, ?_⟩⟩, hc.map fun d v h => ?_⟩, hs, fun g hg hgG => ?_⟩
  · exact List.take_of_length_le (by simp [hz])
  · exact (h.cons (Nat.le_refl _)).alloc _
  · have := hG g hgG
    simp [ob, Value.ownBlock] at hg
    omega
theorem KSt.start1 {br n0 : Nat} {w0 wr : World} {x : Ex} {a : Option Addr} {cap : Nat} (h : Keep [br] w0 wr) (hn : n0 = w0.heap.size) (hx : Rep (List.range n0) wr (kidsD x.kids) (.slice a x.kids.length cap)) :
    KSt br n0 w0 (wr.alloc (.cells #[.int .i64 x.op, .int .i64 x.num, .slice a x.kids.length cap] 55)) (.slice (some ⟨wr.heap.size, 0, none⟩) 1 1) [x] :=
  ⟨h.alloc _, Own.new (es := [encE x]) (by have := h.size; omega) (fun g hg => by have := h.size; simp at hg; omega) (fun f hf => by simp at hf; subst hf; exact encE_len x) (by rw [encE_eq]; exact ⟨rfl, rfl, hx, trivial⟩) (by simp) (by simp), hn⟩
/- a data type that is matched -/
structure MtD (l : List Dc) (d : Int) : Prop where
  lo : 1 ≤ d
  hi : d ≤ l.length
  flat : isArr l d = false
  ne : consL l d ≠ []
  len : (consL l d).length ≤ 3
  flds : ∀ c ∈ consL l d, (cflds l c).length ≤ 3
theorem MtD.one {l : List Dc} (hl : GD l) : MtD l 1 := ⟨by omega, by have := hl.len; omega, hl.a1, by rw [hl.c1]; simp, by rw [hl.c1]; simp, by rw [hl.c1]; intro c hc; simp at hc; rcases hc with rfl | rfl <;> simp [hl.f0, hl.f1]⟩
theorem MtD.of {l : List Dc} (hl : GD l) {d : Int} (h : d ∈ [1, 1, 3, 4]) (h1 : d ≤ l.length) (h2 : isArr l d = false) : MtD l d := by
  have hd : d = 1 ∨ d = 3 ∨ d = 4 := by simp at h; omega
  rcases hd with rfl | rfl | rfl
  · exact .one hl
  · exact ⟨by omega, h1, h2, by rw [hl.c3]; simp, by rw [hl.c3]; simp, by rw [hl.c3]; intro c hc; simp at hc; rcases hc with rfl | rfl <;> simp [hl.f2, hl.f3]⟩
  · rcases hl.four with ⟨h3, _⟩ | ⟨_, h⟩
    · omega
    · rcases h with ⟨c4, _, f4, _⟩ | ⟨c4, _, f4, f5, f6, _⟩ | ⟨_, a4, _⟩
      · exact ⟨by omega, h1, h2, by rw [c4]; simp, by rw [c4]; simp, by rw [c4]; intro c hc; simp at hc; subst hc; simp [f4]⟩
      · exact ⟨by omega, h1, h2, by rw [c4]; simp, by rw [c4]; simp, by rw [c4]; intro c hc; simp at hc; rcases hc with rfl | rfl | rfl <;> simp [f4, f5, f6]⟩
      · rw [a4] at h2; cases h2

set_option maxRecDepth 100000 in
set_option maxHeartbeats 8000000 in
theorem genMatch_any {G : List Nat} {B br : Nat} {l : List Dc} {fs : List Fn} {dv fv : Value} {w : World} (hx : Cx G B br l fs dv fv w) (p : Nat) (hr : RdAt B w br p) (vv : Value) (vars : List Int) (hv : Rep G w (ints vars) vv) (hvl : vars.length ≤ 1000000) (hl : GD l) (hs : GS l (sgs fs)) (t : Int) (t0 : 0 ≤ t) (t1 : t ≤ l.length) (hc : canB l (sgs fs) vars t = true) (b : Int) (b0 : 3 ≤ b) (b1 : b ≤ 1000) (hvb : vars.length + 3 * b.toNat ≤ 1000)
    (ih : ∀ b', 0 ≤ b' → b' < b → GenC l fs b') (hp : p + 51 + 3 * cst (b - 2).toNat ≤ 1125899906842624) :
    Calls Tryd.prog 74 #[.pointer (some ⟨br, 0, none⟩), .agg #[dv, fv], vv, .int .i64 t, .int .i64 b] w (GenK B w br p (51 + 3 * cst (b - 2).toNat) (fun x => HasTy l (sgs fs) vars x t)) := by
  have HX := Lib.hid hx
  have HR := Lib.hid hr
  have HV := Lib.hid hv
  have hB := hx.hB
  have hbrl := hr.lt
  have hbr := hx.hbr
  have hn4 : fs.length ≤ 4 := by have := hs.len; rw [sgs_len] at this; omega
  obtain ⟨da, dc, fa, fc, rfl, rfl⟩ := hx.forms
  obtain ⟨va, vc, rfl, _⟩ := ints_form hv
  clear hx hr hv
  have HK0 := Lib.hid (show Keep [] w ((w.alloc (.cells #[.slice da l.length dc, .slice fa fs.length fc] 50)).alloc (.cells #[.int .i64 0, .int .i64 0, .slice none 0 0] 55)) from ((Keep.refl _ _).alloc _).alloc _)
  have RB0 := Lib.hid (rb_of w (.cells #[.slice da l.length dc, .slice fa fs.length fc] 50) _ 55 #[.int .i64 0, .int .i64 0, .slice none 0 0] rfl)
  have hfb := hl.bound
  have HL := Lib.hid hl
  have HS := Lib.hid hs
  have IH := Lib.hid ih
  have HCB := Lib.hid hc
  obtain ⟨C, hC⟩ : ∃ C, C = cst (b - 2).toNat := ⟨_, rfl⟩
  rw [← hC] at hp
  rw [← hC]
  have hC1 : 100 ≤ C := by rw [hC]; exact cst_pos _
  have HCC := Lib.hid hC
  have RI := ints_new (G := [br]) (w := ((w.alloc (.cells #[.slice da l.length dc, .slice fa fs.length fc] 50)).alloc (.cells #[.int .i64 0, .int .i64 0, .slice none 0 0] 55))) (E := 3) [1, 1, 3, 4] (fun g hg => by simp at hg; simp; omega) (by simp)
  simp only [World.size_alloc] at RI
  have RI := Lib.hid RI
  have KI := Lib.hid (show Keep [] ((w.alloc (.cells #[.slice da l.length dc, .slice fa fs.length fc] 50)).alloc (.cells #[.int .i64 0, .int .i64 0, .slice none 0 0] 55)) (((w.alloc (.cells #[.slice da l.length dc, .slice fa fs.length fc] 50)).alloc (.cells #[.int .i64 0, .int .i64 0, .slice none 0 0] 55)).alloc (.cells #[.int .i64 1, .int .i64 1, .int .i64 3, .int .i64 4] 3)) from (Keep.refl _ _).alloc _)
  clear ih hc hC
  go_enter Tryd.func74, Tryd.ntmps74
  go_wp2_with fail
  refine (one_any (G := [br]) (l := [1, 1, 3, 4]) br p _ _ ((HR.out.keep0 HK0.out).keep0 KI.out) (by simp) (by omega) RI.out (by simp) (by simp)).mono ?_
  rintro e w1 ⟨r1, rfl, hm, hk1, hr1⟩
  have HM := Lib.hid hm
  have r0 : 1 ≤ r1 ∧ r1 ≤ 4 := by simp at hm; omega
  obtain ⟨r00, r01⟩ := r0
  have KE1 := Lib.hid (KI.out.of0.then hk1)
  have HR1 := Lib.hid hr1
  have s1 := KE1.out.size
  simp at s1
  have q0 : w1.cell? ⟨w.heap.size, 0, none⟩ = some (.slice da l.length dc) := KE1.out.cellEq (by go_simp) (by simp; omega)
  have q1 : w1.cell? ⟨w.heap.size, 1, none⟩ = some (.slice fa fs.length fc) := KE1.out.cellEq (by go_simp) (by simp; omega)
  clear hk1 hr1 hm
  by_cases hgt : (l.length : Int) < r1
  · skip
    have MDD := Lib.hid (MtD.one HL.out)
    go_wp2_with fail
    refine (consOf_any _ l 1 _ ((HX.out.keep0 HK0.out).keep KE1.out).hd hfb ((HX.out.keep0 HK0.out).keep KE1.out).hG).mono ?_
    rintro e w2 ⟨r2, rfl, hk2, ho2⟩
    have RL := Lib.hid (show Rep G w2 (ints (consL l 1)) _ from ho2.rep)
    obtain ⟨ra2, rc2, rfl, _⟩ := ints_form RL.out
    have KE2 := Lib.hid (KE1.out.then0 hk2)
    have HR2 := Lib.hid (HR1.out.keep0 hk2)
    have s2 := KE2.out.size
    simp at s2
    have e0 : w2.cell? ⟨w.heap.size, 0, none⟩ = some (.slice da l.length dc) := hk2.cellEq q0 (by simp)
    have e1 : w2.cell? ⟨w.heap.size, 1, none⟩ = some (.slice fa fs.length fc) := hk2.cellEq q1 (by simp)
    clear hk2 ho2 q0 q1
    go_wp2_with fail
    refine (leaf_any ((HX.out.keep0 HK0.out).keep KE2.out) (p + 1) HR2.out _ vars ((HV.out.keep0 HK0.out).keep KE2.out (memG hbr)) (by omega) 1 (by have := MDD.out.lo; omega) MDD.out.hi (canB_flat vars MDD.out.flat) HL.out HS.out (by omega)).mono ?_
    rintro e wl ⟨a, va9, pl, rfl, hal, hkl, hrl, hpl, aa, acap, rfl, hvl9⟩
    have KEL := Lib.hid (KE2.out.then hkl)
    have sl := hkl.size
    have HRL := Lib.hid hrl
    have HAL := Lib.hid hal.1
    have HO5 := Lib.hid (KSt.start1 (br := br) (n0 := w.heap.size + 2) KEL.out (by simp) (hvl9.sub (range_sub (by omega))))
    have HFL := Lib.hid (show Rep (ob (.slice (some ⟨wl.heap.size, 0, none⟩) 1 1) ++ G) (wl.alloc (.cells #[.int .i64 a.op, .int .i64 a.num, .slice aa a.kids.length acap] 55)) (ints (consL l 1)) _ from ((RL.out.keep hkl (memG hbr)).cons (Nat.le_refl _)).alloc _)
    have HVL := Lib.hid (show Rep (ob (.slice (some ⟨wl.heap.size, 0, none⟩) 1 1) ++ G) (wl.alloc (.cells #[.int .i64 a.op, .int .i64 a.num, .slice aa a.kids.length acap] 55)) (ints vars) (.slice va vars.length vc) from (((HV.out.keep0 HK0.out).keep KEL.out (memG hbr)).cons (Nat.le_refl _)).alloc _)
    clear hkl hrl hal hvl9 e0 e1 
    have MLEN := MDD.out.len
    have HCD := Lib.hid (show ∃ cs : List Int, cs = consL l 1 from ⟨_, rfl⟩)
    obtain ⟨cs, hcs⟩ := HCD.out
    have HCS := Lib.hid hcs
    rw [← hcs] at HFL MLEN
    rw [← hcs]
    clear hcs HCD
    go_wp2
    go_loopw [13, 14] (fun s i' wr => ∃ (k p' : Nat) (ks : List Ex), k ≤ cs.length ∧ i' = .int .i64 k ∧ KidsAt (fun c x => HasTy l (sgs fs) (vars ++ cflds l c) x t) cs k ks ∧ KSt br (w.heap.size + 2) ((w.alloc (.cells #[.slice da l.length dc, .slice fa fs.length fc] 50)).alloc (.cells #[.int .i64 0, .int .i64 0, .slice none 0 0] 55)) wr s (a :: ks) ∧ RdAt B wr br p' ∧ p' ≤ p + 51 + k * C ∧ Rep (ob s ++ G) wr (ints cs) (.slice ra2 cs.length rc2) ∧ Rep (ob s ++ G) wr (ints vars) (.slice va vars.length vc)) (fun _ i' _ => cs.length - (intOf i').toNat)
    case atStart => exact ⟨0, pl, [], Nat.zero_le _, rfl, KidsAt.nil _ _, HO5.out, HRL.out.keep0 ((Keep.refl _ _).alloc _), by omega, HFL.out, HVL.out⟩
    case round =>
      obtain ⟨k, p', ks, hk, rfl, hks, ho, hr', hp', hfl, hvr⟩ := hrel
      have HKS := Lib.hid hks
      have HO := Lib.hid ho
      have HRR := Lib.hid hr'
      have HF5 := Lib.hid hfl
      have HV5 := Lib.hid hvr
      have sz := ho.keep.size
      simp at sz
      have q0 : wr.cell? ⟨w.heap.size, 0, none⟩ = some (.slice da l.length dc) := ho.keep.cellEq (by go_simp) (by simp; omega)
      have q1 : wr.cell? ⟨w.heap.size, 1, none⟩ = some (.slice fa fs.length fc) := ho.keep.cellEq (by go_simp) (by simp; omega)
      have hkc : k * C ≤ 3 * C := Nat.mul_le_mul_right _ (by omega)
      have HXR := Lib.hid ((HX.out.keep0 HK0.out).keep ho.keep)
      clear hks ho hr' hfl hvr
      by_cases hlt : k < cs.length
      · obtain ⟨bc, off, rfl, hbG, hb, hcl⟩ := ints_at HF5.out hlt
        have HBG := Lib.hid hbG
        have hkd : k * C + C ≤ 3 * C := by rw [show k * C + C = (k + 1) * C by rw [Nat.add_mul]; omega]; exact Nat.mul_le_mul_right _ (by omega)
        obtain ⟨d0, d1⟩ := tdiv_in (n := cs.length) (show 0 ≤ b - 2 by omega)
        have hz : cs ≠ [] := by rintro rfl; simp at hlt
        have hcst : cst ((b - 2).tdiv cs.length).toNat ≤ C := by rw [HCC.out]; exact cst_mono (by omega)
        have IHK := Lib.hid (IH.out _ d0 (by omega))
        have hw1 : IntKind.i64.wrap (b - 2) = b - 2 := IntWalk.i64_in _ (by omega)
        have hw2 : IntKind.i64.wrap ((b - 2).tdiv cs.length) = (b - 2).tdiv cs.length := IntWalk.i64_in _ (by omega)
        have hfl3 : (cflds l cs[k]).length ≤ 3 := MDD.out.flds _ (by rw [← HCS.out]; exact List.getElem_mem hlt)
        clear hbG
        go_wp2
        go_region_held3 (fun w' => w'.cell? ⟨w.heap.size, 0, none⟩ = some (.slice da l.length dc) ∧ w'.cell? ⟨w.heap.size, 1, none⟩ = some (.slice fa fs.length fc) ∧ w'.cell? ⟨bc, off + k, none⟩ = some (.int .i64 cs[k]))
          (first | exact ⟨q0, q1, hcl⟩ | exact ⟨z0, z1, z2⟩ | exact ⟨y0, y1, y2⟩ | exact ⟨x0, x1, x2⟩ | exact ⟨j0, j1, j2⟩ | exact ⟨i0, i1, i2⟩)
          (first
          | (go_at_call 86
             refine (conFields_any _ l cs[k] _ HXR.out.hd.drew hfb).mono ?_
             rintro e wa ⟨rva, rfl, hka, hra⟩
             have HRA := Lib.hid hra
             obtain ⟨faa, fca, rfl, _⟩ := ints_form hra
             have HKA := Lib.hid (show Keep [] wr wa from (Keep.refl _ _).drew.then0 hka)
             have SA := HKA.out.size
             have i0 := HKA.out.cellEq q0 (by simp)
             have i1 := HKA.out.cellEq q1 (by simp)
             have i2 := HKA.out.cellEq hcl (by simp)
             clear hka hra)
          | (go_at_call 60
             refine (extend_any _ _ vars (cflds l cs[k]) wa ((rep_obOut HV5.out).keep0 HKA.out) HRA.out (by omega) (by omega) (HXR.out.keep0 HKA.out).hG).mono ?_
             rintro e wb ⟨rvb, rfl, hkb, hob⟩
             have HRB := Lib.hid (show Rep G wb (ints (vars ++ cflds l cs[k])) rvb from hob.rep)
             obtain ⟨fab, fcb, hrv, _⟩ := ints_form HRB.out
             rw [List.length_append] at hrv
             subst hrv
             have HKB := Lib.hid (HKA.out.then0 hkb)
             have SB := HKB.out.size
             have j0 := HKB.out.cellEq q0 (by simp)
             have j1 := HKB.out.cellEq q1 (by simp)
             have j2 := HKB.out.cellEq hcl (by simp)
             clear hkb hob)
          | (go_at_call 57
             try rw [hw1]
             try rw [hw2]
             refine (IHK.out G B br _ _ wb (HXR.out.keep0 HKB.out) p' (HRR.out.keep0 HKB.out) _ (vars ++ cflds l cs[k]) HRB.out (by rw [List.length_append]; omega) t t0 t1 (canB_weak _ HCB.out) (by omega)).mono ?_
             rintro e wx ⟨x, vx, px, rfl, hx, hkx, hrx, hpx, ax, capx, rfl, hvx⟩
             have SX := hkx.size
             have HKX := Lib.hid (HKB.out.of0.then hkx)
             have HX9 := Lib.hid (HO.out.fresh (hvx.sub (range_sub (by omega))))
             have HPX := Lib.hid hx.1
             have HRX := Lib.hid hrx
             have x0 := HKX.out.cellEq q0 (by simp; omega)
             have x1 := HKX.out.cellEq q1 (by simp; omega)
             have x2 := HKX.out.cellEq hcl (by simp; rintro rfl; exact HBG.out (List.mem_append_right _ hbr))
             have KY := (Keep.refl [] wx).alloc (.cells #[.int .i64 x.op, .int .i64 x.num, .slice ax x.kids.length capx] 55)
             have y0 := KY.cellEq x0 (by simp)
             have y1 := KY.cellEq x1 (by simp)
             have y2 := KY.cellEq x2 (by simp)
             clear hkx hrx hx hvx KY)
          | (refine step_append rfl _ _ 53 rfl (List.range (w.heap.size + 2)) (w.heap.size + 2) 55 (.agg #[.int .i64 0, .int .i64 0, .slice none 0 0]) 3 40 Tryd.underlying53 infoEx rfl (by decide) u13 _ rfl ((HO.out.call (by omega) HKX.out).alloc _) (.slice (some ⟨wx.heap.size, 0, none⟩) 1 1) [encE x] rfl
               (ex_new HX9.out (HO.out.below HKX.out)) (fun f hf => by simp at hf; subst hf; exact encE_len x) (by have := HKS.out.1; simp; omega) (by have := HKS.out.1; simp; omega) (by simp; omega) (fun g hg => by simp at hg ⊢; omega) ?_
             intro v' w' ho hgr
             have HO6 := Lib.hid ho
             have HGR := Lib.hid hgr
             have z0 := hgr.keep.cellEq y0 (fun hm => by have := (HO.out.own.lt _ hm).1; simp at this; omega)
             have z1 := hgr.keep.cellEq y1 (fun hm => by have := (HO.out.own.lt _ hm).1; simp at this; omega)
             have z2 := hgr.keep.cellEq y2 (fun hm => HBG.out (List.mem_append_left _ hm))
             clear ho hgr))
        all_goals
          go_wp2
          go_roundw
          case rel => exact ⟨k + 1, px, _, by omega, by go_num, HKS.out.snoc hlt HPX.out, HO.out.grow HKX.out HO6.out HGR.out, (HRX.out.keep0 ((Keep.refl _ _).alloc _)).keep HGR.out.keep (fun m hm => by have := (HO.out.own.lt m hm).1; omega), by rw [Nat.add_mul]; omega, HGR.out.rep2 (Rep.alloc (rep_obB HF5.out hbr HKX.out) _) (fun g hg => by have := HX.out.hG g hg; simp; omega), HGR.out.rep2 (Rep.alloc (rep_obB HV5.out hbr HKX.out) _) (fun g hg => by have := HX.out.hG g hg; simp; omega)⟩
          case measure => simp [intOf]; omega
      · have hke : k = cs.length := by omega
        subst hke
        have TYM := Lib.hid (show HasTy l (sgs fs) vars (.mk 8 (1 : Int) (a :: ks)) t from .matc MDD.out.ne HAL.out (by rw [← HCS.out]; exact HKS.out.1) (fun i i1 i2 => by have h := HKS.out.2 i i1 (by rw [HCS.out]; exact i2); simpa only [HCS.out] using h))
        go_wp2_with fail
        refine (node_any 8 1 _ (a :: ks) _ HO.out.own.rep).mono ?_
        rintro e w8 ⟨v8, rfl, hk8, a8, cap8, rfl, hv8⟩
        have ke8 := HO.out.keep.then0 hk8
        have s8 := ke8.size
        simp at s8
        have HK8 : Hid (Keep [br] w w8) := Lib.hid (HK0.out.of0.then ke8)
        have HR8 := Lib.hid (HRR.out.keep0 hk8)
        have HV8 := Lib.hid hv8
        have rb : w8.heap[w.heap.size + 1]? = some (.cells #[.int .i64 0, .int .i64 0, .slice none 0 0] 55 (0, 0)) := (ke8.block _ (by simp) (by simp; omega)).trans RB0.out
        obtain ⟨⟨z0, z1, z2⟩, f0, f1, f2⟩ := blk3 rb
        clear hk8 ke8 hv8 rb q0 q1
        go_wp2
        refine bodyPost_ret (v := .agg #[.int .i64 (8), .int .i64 (1), .slice a8 (ks.length + 1) cap8]) (by simp [results, Tryd.results74, go_sem, z0, z1, z2, Ex.op, Ex.num, Ex.kids]) rfl ⟨.mk (8) (1) (a :: ks), _, p', rfl, TYM.out, HK8.out.put3 (by omega) _ _ _, HR8.out.put3 (by omega) _ _ _, by omega, ExV.put3 (x := .mk (8) (1) (a :: ks)) HV8.out (by omega) _ _ _⟩
  · cases hia : isArr l r1
    · go_wp2_with fail
      refine (isArrow_any _ l _ _ ((HX.out.keep0 HK0.out).keep KE1.out).hd).mono ?_
      rintro e w' ⟨rfl, rfl⟩
      rw [hia]
      have MDD := Lib.hid (MtD.of HL.out HM.out (by omega) hia)
      go_wp2_with fail
      refine (consOf_any _ l r1 _ ((HX.out.keep0 HK0.out).keep KE1.out).hd hfb ((HX.out.keep0 HK0.out).keep KE1.out).hG).mono ?_
      rintro e w2 ⟨r2, rfl, hk2, ho2⟩
      have RL := Lib.hid (show Rep G w2 (ints (consL l r1)) _ from ho2.rep)
      obtain ⟨ra2, rc2, rfl, _⟩ := ints_form RL.out
      have KE2 := Lib.hid (KE1.out.then0 hk2)
      have HR2 := Lib.hid (HR1.out.keep0 hk2)
      have s2 := KE2.out.size
      simp at s2
      have e0 : w2.cell? ⟨w.heap.size, 0, none⟩ = some (.slice da l.length dc) := hk2.cellEq q0 (by simp)
      have e1 : w2.cell? ⟨w.heap.size, 1, none⟩ = some (.slice fa fs.length fc) := hk2.cellEq q1 (by simp)
      clear hk2 ho2 q0 q1
      go_wp2_with fail
      refine (leaf_any ((HX.out.keep0 HK0.out).keep KE2.out) (p + 1) HR2.out _ vars ((HV.out.keep0 HK0.out).keep KE2.out (memG hbr)) (by omega) r1 (by have := MDD.out.lo; omega) MDD.out.hi (canB_flat vars MDD.out.flat) HL.out HS.out (by omega)).mono ?_
      rintro e wl ⟨a, va9, pl, rfl, hal, hkl, hrl, hpl, aa, acap, rfl, hvl9⟩
      have KEL := Lib.hid (KE2.out.then hkl)
      have sl := hkl.size
      have HRL := Lib.hid hrl
      have HAL := Lib.hid hal.1
      have HO5 := Lib.hid (KSt.start1 (br := br) (n0 := w.heap.size + 2) KEL.out (by simp) (hvl9.sub (range_sub (by omega))))
      have HFL := Lib.hid (show Rep (ob (.slice (some ⟨wl.heap.size, 0, none⟩) 1 1) ++ G) (wl.alloc (.cells #[.int .i64 a.op, .int .i64 a.num, .slice aa a.kids.length acap] 55)) (ints (consL l r1)) _ from ((RL.out.keep hkl (memG hbr)).cons (Nat.le_refl _)).alloc _)
      have HVL := Lib.hid (show Rep (ob (.slice (some ⟨wl.heap.size, 0, none⟩) 1 1) ++ G) (wl.alloc (.cells #[.int .i64 a.op, .int .i64 a.num, .slice aa a.kids.length acap] 55)) (ints vars) (.slice va vars.length vc) from (((HV.out.keep0 HK0.out).keep KEL.out (memG hbr)).cons (Nat.le_refl _)).alloc _)
      clear hkl hrl hal hvl9 e0 e1 
      have MLEN := MDD.out.len
      have HCD := Lib.hid (show ∃ cs : List Int, cs = consL l r1 from ⟨_, rfl⟩)
      obtain ⟨cs, hcs⟩ := HCD.out
      have HCS := Lib.hid hcs
      rw [← hcs] at HFL MLEN
      rw [← hcs]
      clear hcs HCD
      go_wp2
      go_loopw [13, 14] (fun s i' wr => ∃ (k p' : Nat) (ks : List Ex), k ≤ cs.length ∧ i' = .int .i64 k ∧ KidsAt (fun c x => HasTy l (sgs fs) (vars ++ cflds l c) x t) cs k ks ∧ KSt br (w.heap.size + 2) ((w.alloc (.cells #[.slice da l.length dc, .slice fa fs.length fc] 50)).alloc (.cells #[.int .i64 0, .int .i64 0, .slice none 0 0] 55)) wr s (a :: ks) ∧ RdAt B wr br p' ∧ p' ≤ p + 51 + k * C ∧ Rep (ob s ++ G) wr (ints cs) (.slice ra2 cs.length rc2) ∧ Rep (ob s ++ G) wr (ints vars) (.slice va vars.length vc)) (fun _ i' _ => cs.length - (intOf i').toNat)
      case atStart => exact ⟨0, pl, [], Nat.zero_le _, rfl, KidsAt.nil _ _, HO5.out, HRL.out.keep0 ((Keep.refl _ _).alloc _), by omega, HFL.out, HVL.out⟩
      case round =>
        obtain ⟨k, p', ks, hk, rfl, hks, ho, hr', hp', hfl, hvr⟩ := hrel
        have HKS := Lib.hid hks
        have HO := Lib.hid ho
        have HRR := Lib.hid hr'
        have HF5 := Lib.hid hfl
        have HV5 := Lib.hid hvr
        have sz := ho.keep.size
        simp at sz
        have q0 : wr.cell? ⟨w.heap.size, 0, none⟩ = some (.slice da l.length dc) := ho.keep.cellEq (by go_simp) (by simp; omega)
        have q1 : wr.cell? ⟨w.heap.size, 1, none⟩ = some (.slice fa fs.length fc) := ho.keep.cellEq (by go_simp) (by simp; omega)
        have hkc : k * C ≤ 3 * C := Nat.mul_le_mul_right _ (by omega)
        have HXR := Lib.hid ((HX.out.keep0 HK0.out).keep ho.keep)
        clear hks ho hr' hfl hvr
        by_cases hlt : k < cs.length
        · obtain ⟨bc, off, rfl, hbG, hb, hcl⟩ := ints_at HF5.out hlt
          have HBG := Lib.hid hbG
          have hkd : k * C + C ≤ 3 * C := by rw [show k * C + C = (k + 1) * C by rw [Nat.add_mul]; omega]; exact Nat.mul_le_mul_right _ (by omega)
          obtain ⟨d0, d1⟩ := tdiv_in (n := cs.length) (show 0 ≤ b - 2 by omega)
          have hz : cs ≠ [] := by rintro rfl; simp at hlt
          have hcst : cst ((b - 2).tdiv cs.length).toNat ≤ C := by rw [HCC.out]; exact cst_mono (by omega)
          have IHK := Lib.hid (IH.out _ d0 (by omega))
          have hw1 : IntKind.i64.wrap (b - 2) = b - 2 := IntWalk.i64_in _ (by omega)
          have hw2 : IntKind.i64.wrap ((b - 2).tdiv cs.length) = (b - 2).tdiv cs.length := IntWalk.i64_in _ (by omega)
          have hfl3 : (cflds l cs[k]).length ≤ 3 := MDD.out.flds _ (by rw [← HCS.out]; exact List.getElem_mem hlt)
          clear hbG
          go_wp2
          go_region_held3 (fun w' => w'.cell? ⟨w.heap.size, 0, none⟩ = some (.slice da l.length dc) ∧ w'.cell? ⟨w.heap.size, 1, none⟩ = some (.slice fa fs.length fc) ∧ w'.cell? ⟨bc, off + k, none⟩ = some (.int .i64 cs[k]))
            (first | exact ⟨q0, q1, hcl⟩ | exact ⟨z0, z1, z2⟩ | exact ⟨y0, y1, y2⟩ | exact ⟨x0, x1, x2⟩ | exact ⟨j0, j1, j2⟩ | exact ⟨i0, i1, i2⟩)
            (first
            | (go_at_call 86
               refine (conFields_any _ l cs[k] _ HXR.out.hd.drew hfb).mono ?_
               rintro e wa ⟨rva, rfl, hka, hra⟩
               have HRA := Lib.hid hra
               obtain ⟨faa, fca, rfl, _⟩ := ints_form hra
               have HKA := Lib.hid (show Keep [] wr wa from (Keep.refl _ _).drew.then0 hka)
               have SA := HKA.out.size
               have i0 := HKA.out.cellEq q0 (by simp)
               have i1 := HKA.out.cellEq q1 (by simp)
               have i2 := HKA.out.cellEq hcl (by simp)
               clear hka hra)
            | (go_at_call 60
               refine (extend_any _ _ vars (cflds l cs[k]) wa ((rep_obOut HV5.out).keep0 HKA.out) HRA.out (by omega) (by omega) (HXR.out.keep0 HKA.out).hG).mono ?_
               rintro e wb ⟨rvb, rfl, hkb, hob⟩
               have HRB := Lib.hid (show Rep G wb (ints (vars ++ cflds l cs[k])) rvb from hob.rep)
               obtain ⟨fab, fcb, hrv, _⟩ := ints_form HRB.out
               rw [List.length_append] at hrv
               subst hrv
               have HKB := Lib.hid (HKA.out.then0 hkb)
               have SB := HKB.out.size
               have j0 := HKB.out.cellEq q0 (by simp)
               have j1 := HKB.out.cellEq q1 (by simp)
               have j2 := HKB.out.cellEq hcl (by simp)
               clear hkb hob)
            | (go_at_call 57
               try rw [hw1]
               try rw [hw2]
               refine (IHK.out G B br _ _ wb (HXR.out.keep0 HKB.out) p' (HRR.out.keep0 HKB.out) _ (vars ++ cflds l cs[k]) HRB.out (by rw [List.length_append]; omega) t t0 t1 (canB_weak _ HCB.out) (by omega)).mono ?_
               rintro e wx ⟨x, vx, px, rfl, hx, hkx, hrx, hpx, ax, capx, rfl, hvx⟩
               have SX := hkx.size
               have HKX := Lib.hid (HKB.out.of0.then hkx)
               have HX9 := Lib.hid (HO.out.fresh (hvx.sub (range_sub (by omega))))
               have HPX := Lib.hid hx.1
               have HRX := Lib.hid hrx
               have x0 := HKX.out.cellEq q0 (by simp; omega)
               have x1 := HKX.out.cellEq q1 (by simp; omega)
               have x2 := HKX.out.cellEq hcl (by simp; rintro rfl; exact HBG.out (List.mem_append_right _ hbr))
               have KY := (Keep.refl [] wx).alloc (.cells #[.int .i64 x.op, .int .i64 x.num, .slice ax x.kids.length capx] 55)
               have y0 := KY.cellEq x0 (by simp)
               have y1 := KY.cellEq x1 (by simp)
               have y2 := KY.cellEq x2 (by simp)
               clear hkx hrx hx hvx KY)
            | (refine step_append rfl _ _ 53 rfl (List.range (w.heap.size + 2)) (w.heap.size + 2) 55 (.agg #[.int .i64 0, .int .i64 0, .slice none 0 0]) 3 40 Tryd.underlying53 infoEx rfl (by decide) u13 _ rfl ((HO.out.call (by omega) HKX.out).alloc _) (.slice (some ⟨wx.heap.size, 0, none⟩) 1 1) [encE x] rfl
                 (ex_new HX9.out (HO.out.below HKX.out)) (fun f hf => by simp at hf; subst hf; exact encE_len x) (by have := HKS.out.1; simp; omega) (by have := HKS.out.1; simp; omega) (by simp; omega) (fun g hg => by simp at hg ⊢; omega) ?_
               intro v' w' ho hgr
               have HO6 := Lib.hid ho
               have HGR := Lib.hid hgr
               have z0 := hgr.keep.cellEq y0 (fun hm => by have := (HO.out.own.lt _ hm).1; simp at this; omega)
               have z1 := hgr.keep.cellEq y1 (fun hm => by have := (HO.out.own.lt _ hm).1; simp at this; omega)
               have z2 := hgr.keep.cellEq y2 (fun hm => HBG.out (List.mem_append_left _ hm))
               clear ho hgr))
          all_goals
            go_wp2
            go_roundw
            case rel => exact ⟨k + 1, px, _, by omega, by go_num, HKS.out.snoc hlt HPX.out, HO.out.grow HKX.out HO6.out HGR.out, (HRX.out.keep0 ((Keep.refl _ _).alloc _)).keep HGR.out.keep (fun m hm => by have := (HO.out.own.lt m hm).1; omega), by rw [Nat.add_mul]; omega, HGR.out.rep2 (Rep.alloc (rep_obB HF5.out hbr HKX.out) _) (fun g hg => by have := HX.out.hG g hg; simp; omega), HGR.out.rep2 (Rep.alloc (rep_obB HV5.out hbr HKX.out) _) (fun g hg => by have := HX.out.hG g hg; simp; omega)⟩
            case measure => simp [intOf]; omega
        · have hke : k = cs.length := by omega
          subst hke
          have TYM := Lib.hid (show HasTy l (sgs fs) vars (.mk 8 (r1 : Int) (a :: ks)) t from .matc MDD.out.ne HAL.out (by rw [← HCS.out]; exact HKS.out.1) (fun i i1 i2 => by have h := HKS.out.2 i i1 (by rw [HCS.out]; exact i2); simpa only [HCS.out] using h))
          go_wp2_with fail
          refine (node_any 8 r1 _ (a :: ks) _ HO.out.own.rep).mono ?_
          rintro e w8 ⟨v8, rfl, hk8, a8, cap8, rfl, hv8⟩
          have ke8 := HO.out.keep.then0 hk8
          have s8 := ke8.size
          simp at s8
          have HK8 : Hid (Keep [br] w w8) := Lib.hid (HK0.out.of0.then ke8)
          have HR8 := Lib.hid (HRR.out.keep0 hk8)
          have HV8 := Lib.hid hv8
          have rb : w8.heap[w.heap.size + 1]? = some (.cells #[.int .i64 0, .int .i64 0, .slice none 0 0] 55 (0, 0)) := (ke8.block _ (by simp) (by simp; omega)).trans RB0.out
          obtain ⟨⟨z0, z1, z2⟩, f0, f1, f2⟩ := blk3 rb
          clear hk8 ke8 hv8 rb q0 q1
          go_wp2
          refine bodyPost_ret (v := .agg #[.int .i64 (8), .int .i64 (r1), .slice a8 (ks.length + 1) cap8]) (by simp [results, Tryd.results74, go_sem, z0, z1, z2, Ex.op, Ex.num, Ex.kids]) rfl ⟨.mk (8) (r1) (a :: ks), _, p', rfl, TYM.out, HK8.out.put3 (by omega) _ _ _, HR8.out.put3 (by omega) _ _ _, by omega, ExV.put3 (x := .mk (8) (r1) (a :: ks)) HV8.out (by omega) _ _ _⟩
    · go_wp2_with fail
      refine (isArrow_any _ l _ _ ((HX.out.keep0 HK0.out).keep KE1.out).hd).mono ?_
      rintro e w' ⟨rfl, rfl⟩
      rw [hia]
      have MDD := Lib.hid (MtD.one HL.out)
      go_wp2_with fail
      refine (consOf_any _ l 1 _ ((HX.out.keep0 HK0.out).keep KE1.out).hd hfb ((HX.out.keep0 HK0.out).keep KE1.out).hG).mono ?_
      rintro e w2 ⟨r2, rfl, hk2, ho2⟩
      have RL := Lib.hid (show Rep G w2 (ints (consL l 1)) _ from ho2.rep)
      obtain ⟨ra2, rc2, rfl, _⟩ := ints_form RL.out
      have KE2 := Lib.hid (KE1.out.then0 hk2)
      have HR2 := Lib.hid (HR1.out.keep0 hk2)
      have s2 := KE2.out.size
      simp at s2
      have e0 : w2.cell? ⟨w.heap.size, 0, none⟩ = some (.slice da l.length dc) := hk2.cellEq q0 (by simp)
      have e1 : w2.cell? ⟨w.heap.size, 1, none⟩ = some (.slice fa fs.length fc) := hk2.cellEq q1 (by simp)
      clear hk2 ho2 q0 q1
      go_wp2_with fail
      refine (leaf_any ((HX.out.keep0 HK0.out).keep KE2.out) (p + 1) HR2.out _ vars ((HV.out.keep0 HK0.out).keep KE2.out (memG hbr)) (by omega) 1 (by have := MDD.out.lo; omega) MDD.out.hi (canB_flat vars MDD.out.flat) HL.out HS.out (by omega)).mono ?_
      rintro e wl ⟨a, va9, pl, rfl, hal, hkl, hrl, hpl, aa, acap, rfl, hvl9⟩
      have KEL := Lib.hid (KE2.out.then hkl)
      have sl := hkl.size
      have HRL := Lib.hid hrl
      have HAL := Lib.hid hal.1
      have HO5 := Lib.hid (KSt.start1 (br := br) (n0 := w.heap.size + 2) KEL.out (by simp) (hvl9.sub (range_sub (by omega))))
      have HFL := Lib.hid (show Rep (ob (.slice (some ⟨wl.heap.size, 0, none⟩) 1 1) ++ G) (wl.alloc (.cells #[.int .i64 a.op, .int .i64 a.num, .slice aa a.kids.length acap] 55)) (ints (consL l 1)) _ from ((RL.out.keep hkl (memG hbr)).cons (Nat.le_refl _)).alloc _)
      have HVL := Lib.hid (show Rep (ob (.slice (some ⟨wl.heap.size, 0, none⟩) 1 1) ++ G) (wl.alloc (.cells #[.int .i64 a.op, .int .i64 a.num, .slice aa a.kids.length acap] 55)) (ints vars) (.slice va vars.length vc) from (((HV.out.keep0 HK0.out).keep KEL.out (memG hbr)).cons (Nat.le_refl _)).alloc _)
      clear hkl hrl hal hvl9 e0 e1 
      have MLEN := MDD.out.len
      have HCD := Lib.hid (show ∃ cs : List Int, cs = consL l 1 from ⟨_, rfl⟩)
      obtain ⟨cs, hcs⟩ := HCD.out
      have HCS := Lib.hid hcs
      rw [← hcs] at HFL MLEN
      rw [← hcs]
      clear hcs HCD
      go_wp2
      go_loopw [13, 14] (fun s i' wr => ∃ (k p' : Nat) (ks : List Ex), k ≤ cs.length ∧ i' = .int .i64 k ∧ KidsAt (fun c x => HasTy l (sgs fs) (vars ++ cflds l c) x t) cs k ks ∧ KSt br (w.heap.size + 2) ((w.alloc (.cells #[.slice da l.length dc, .slice fa fs.length fc] 50)).alloc (.cells #[.int .i64 0, .int .i64 0, .slice none 0 0] 55)) wr s (a :: ks) ∧ RdAt B wr br p' ∧ p' ≤ p + 51 + k * C ∧ Rep (ob s ++ G) wr (ints cs) (.slice ra2 cs.length rc2) ∧ Rep (ob s ++ G) wr (ints vars) (.slice va vars.length vc)) (fun _ i' _ => cs.length - (intOf i').toNat)
      case atStart => exact ⟨0, pl, [], Nat.zero_le _, rfl, KidsAt.nil _ _, HO5.out, HRL.out.keep0 ((Keep.refl _ _).alloc _), by omega, HFL.out, HVL.out⟩
      case round =>
        obtain ⟨k, p', ks, hk, rfl, hks, ho, hr', hp', hfl, hvr⟩ := hrel
        have HKS := Lib.hid hks
        have HO := Lib.hid ho
        have HRR := Lib.hid hr'
        have HF5 := Lib.hid hfl
        have HV5 := Lib.hid hvr
        have sz := ho.keep.size
        simp at sz
        have q0 : wr.cell? ⟨w.heap.size, 0, none⟩ = some (.slice da l.length dc) := ho.keep.cellEq (by go_simp) (by simp; omega)
        have q1 : wr.cell? ⟨w.heap.size, 1, none⟩ = some (.slice fa fs.length fc) := ho.keep.cellEq (by go_simp) (by simp; omega)
        have hkc : k * C ≤ 3 * C := Nat.mul_le_mul_right _ (by omega)
        have HXR := Lib.hid ((HX.out.keep0 HK0.out).keep ho.keep)
        clear hks ho hr' hfl hvr
        by_cases hlt : k < cs.length
        · obtain ⟨bc, off, rfl, hbG, hb, hcl⟩ := ints_at HF5.out hlt
          have HBG := Lib.hid hbG
          have hkd : k * C + C ≤ 3 * C := by rw [show k * C + C = (k + 1) * C by rw [Nat.add_mul]; omega]; exact Nat.mul_le_mul_right _ (by omega)
          obtain ⟨d0, d1⟩ := tdiv_in (n := cs.length) (show 0 ≤ b - 2 by omega)
          have hz : cs ≠ [] := by rintro rfl; simp at hlt
          have hcst : cst ((b - 2).tdiv cs.length).toNat ≤ C := by rw [HCC.out]; exact cst_mono (by omega)
          have IHK := Lib.hid (IH.out _ d0 (by omega))
          have hw1 : IntKind.i64.wrap (b - 2) = b - 2 := IntWalk.i64_in _ (by omega)
          have hw2 : IntKind.i64.wrap ((b - 2).tdiv cs.length) = (b - 2).tdiv cs.length := IntWalk.i64_in _ (by omega)
          have hfl3 : (cflds l cs[k]).length ≤ 3 := MDD.out.flds _ (by rw [← HCS.out]; exact List.getElem_mem hlt)
          clear hbG
          go_wp2
          go_region_held3 (fun w' => w'.cell? ⟨w.heap.size, 0, none⟩ = some (.slice da l.length dc) ∧ w'.cell? ⟨w.heap.size, 1, none⟩ = some (.slice fa fs.length fc) ∧ w'.cell? ⟨bc, off + k, none⟩ = some (.int .i64 cs[k]))
            (first | exact ⟨q0, q1, hcl⟩ | exact ⟨z0, z1, z2⟩ | exact ⟨y0, y1, y2⟩ | exact ⟨x0, x1, x2⟩ | exact ⟨j0, j1, j2⟩ | exact ⟨i0, i1, i2⟩)
            (first
            | (go_at_call 86
               refine (conFields_any _ l cs[k] _ HXR.out.hd.drew hfb).mono ?_
               rintro e wa ⟨rva, rfl, hka, hra⟩
               have HRA := Lib.hid hra
               obtain ⟨faa, fca, rfl, _⟩ := ints_form hra
               have HKA := Lib.hid (show Keep [] wr wa from (Keep.refl _ _).drew.then0 hka)
               have SA := HKA.out.size
               have i0 := HKA.out.cellEq q0 (by simp)
               have i1 := HKA.out.cellEq q1 (by simp)
               have i2 := HKA.out.cellEq hcl (by simp)
               clear hka hra)
            | (go_at_call 60
               refine (extend_any _ _ vars (cflds l cs[k]) wa ((rep_obOut HV5.out).keep0 HKA.out) HRA.out (by omega) (by omega) (HXR.out.keep0 HKA.out).hG).mono ?_
               rintro e wb ⟨rvb, rfl, hkb, hob⟩
               have HRB := Lib.hid (show Rep G wb (ints (vars ++ cflds l cs[k])) rvb from hob.rep)
               obtain ⟨fab, fcb, hrv, _⟩ := ints_form HRB.out
               rw [List.length_append] at hrv
               subst hrv
               have HKB := Lib.hid (HKA.out.then0 hkb)
               have SB := HKB.out.size
               have j0 := HKB.out.cellEq q0 (by simp)
               have j1 := HKB.out.cellEq q1 (by simp)
               have j2 := HKB.out.cellEq hcl (by simp)
               clear hkb hob)
            | (go_at_call 57
               try rw [hw1]
               try rw [hw2]
               refine (IHK.out G B br _ _ wb (HXR.out.keep0 HKB.out) p' (HRR.out.keep0 HKB.out) _ (vars ++ cflds l cs[k]) HRB.out (by rw [List.length_append]; omega) t t0 t1 (canB_weak _ HCB.out) (by omega)).mono ?_
               rintro e wx ⟨x, vx, px, rfl, hx, hkx, hrx, hpx, ax, capx, rfl, hvx⟩
               have SX := hkx.size
               have HKX := Lib.hid (HKB.out.of0.then hkx)
               have HX9 := Lib.hid (HO.out.fresh (hvx.sub (range_sub (by omega))))
               have HPX := Lib.hid hx.1
               have HRX := Lib.hid hrx
               have x0 := HKX.out.cellEq q0 (by simp; omega)
               have x1 := HKX.out.cellEq q1 (by simp; omega)
               have x2 := HKX.out.cellEq hcl (by simp; rintro rfl; exact HBG.out (List.mem_append_right _ hbr))
               have KY := (Keep.refl [] wx).alloc (.cells #[.int .i64 x.op, .int .i64 x.num, .slice ax x.kids.length capx] 55)
               have y0 := KY.cellEq x0 (by simp)
               have y1 := KY.cellEq x1 (by simp)
               have y2 := KY.cellEq x2 (by simp)
               clear hkx hrx hx hvx KY)
            | (refine step_append rfl _ _ 53 rfl (List.range (w.heap.size + 2)) (w.heap.size + 2) 55 (.agg #[.int .i64 0, .int .i64 0, .slice none 0 0]) 3 40 Tryd.underlying53 infoEx rfl (by decide) u13 _ rfl ((HO.out.call (by omega) HKX.out).alloc _) (.slice (some ⟨wx.heap.size, 0, none⟩) 1 1) [encE x] rfl
                 (ex_new HX9.out (HO.out.below HKX.out)) (fun f hf => by simp at hf; subst hf; exact encE_len x) (by have := HKS.out.1; simp; omega) (by have := HKS.out.1; simp; omega) (by simp; omega) (fun g hg => by simp at hg ⊢; omega) ?_
               intro v' w' ho hgr
               have HO6 := Lib.hid ho
               have HGR := Lib.hid hgr
               have z0 := hgr.keep.cellEq y0 (fun hm => by have := (HO.out.own.lt _ hm).1; simp at this; omega)
               have z1 := hgr.keep.cellEq y1 (fun hm => by have := (HO.out.own.lt _ hm).1; simp at this; omega)
               have z2 := hgr.keep.cellEq y2 (fun hm => HBG.out (List.mem_append_left _ hm))
               clear ho hgr))
          all_goals
            go_wp2
            go_roundw
            case rel => exact ⟨k + 1, px, _, by omega, by go_num, HKS.out.snoc hlt HPX.out, HO.out.grow HKX.out HO6.out HGR.out, (HRX.out.keep0 ((Keep.refl _ _).alloc _)).keep HGR.out.keep (fun m hm => by have := (HO.out.own.lt m hm).1; omega), by rw [Nat.add_mul]; omega, HGR.out.rep2 (Rep.alloc (rep_obB HF5.out hbr HKX.out) _) (fun g hg => by have := HX.out.hG g hg; simp; omega), HGR.out.rep2 (Rep.alloc (rep_obB HV5.out hbr HKX.out) _) (fun g hg => by have := HX.out.hG g hg; simp; omega)⟩
            case measure => simp [intOf]; omega
        · have hke : k = cs.length := by omega
          subst hke
          have TYM := Lib.hid (show HasTy l (sgs fs) vars (.mk 8 (1 : Int) (a :: ks)) t from .matc MDD.out.ne HAL.out (by rw [← HCS.out]; exact HKS.out.1) (fun i i1 i2 => by have h := HKS.out.2 i i1 (by rw [HCS.out]; exact i2); simpa only [HCS.out] using h))
          go_wp2_with fail
          refine (node_any 8 1 _ (a :: ks) _ HO.out.own.rep).mono ?_
          rintro e w8 ⟨v8, rfl, hk8, a8, cap8, rfl, hv8⟩
          have ke8 := HO.out.keep.then0 hk8
          have s8 := ke8.size
          simp at s8
          have HK8 : Hid (Keep [br] w w8) := Lib.hid (HK0.out.of0.then ke8)
          have HR8 := Lib.hid (HRR.out.keep0 hk8)
          have HV8 := Lib.hid hv8
          have rb : w8.heap[w.heap.size + 1]? = some (.cells #[.int .i64 0, .int .i64 0, .slice none 0 0] 55 (0, 0)) := (ke8.block _ (by simp) (by simp; omega)).trans RB0.out
          obtain ⟨⟨z0, z1, z2⟩, f0, f1, f2⟩ := blk3 rb
          clear hk8 ke8 hv8 rb q0 q1
          go_wp2
          refine bodyPost_ret (v := .agg #[.int .i64 (8), .int .i64 (1), .slice a8 (ks.length + 1) cap8]) (by simp [results, Tryd.results74, go_sem, z0, z1, z2, Ex.op, Ex.num, Ex.kids]) rfl ⟨.mk (8) (1) (a :: ks), _, p', rfl, TYM.out, HK8.out.put3 (by omega) _ _ _, HR8.out.put3 (by omega) _ _ _, by omega, ExV.put3 (x := .mk (8) (1) (a :: ks)) HV8.out (by omega) _ _ _⟩
end Go.Proofs.YtnjincgemmgllaaDoor
