/- The walk of the generator's genAll, under the contract of gen at lesser budgets. -/
import Derived.Test.YtnjincgemmgllaaDoorGenE
namespace Go.Proofs.YtnjincgemmgllaaDoor
open Go.RowKit

def GnT (l : List Dc) (sg : List Sg) (vars : List Int) (t b : Int) (x : Ex) : Prop := HasTy l sg vars x t ∧ (b < 3 → t = 0 ∨ t = 1 ∨ t = 3 → esz x = 1)
def cst (n : Nat) : Nat := 100 * 4 ^ n
theorem cst_mono {n m : Nat} (h : n ≤ m) : cst n ≤ cst m := Nat.mul_le_mul_left _ (Nat.pow_le_pow_right (by omega) h)
theorem cst_pos (n : Nat) : 100 ≤ cst n := by have := cst_mono (Nat.zero_le n); simpa [cst] using this
theorem cst_succ (n : Nat) : cst (n + 1) = 4 * cst n := by simp [cst, Nat.pow_succ]; omega
def GenC (l : List Dc) (fs : List Fn) (b : Int) : Prop := ∀ (G : List Nat) (B br : Nat) (dv fv : Value) (w : World), Cx G B br l fs dv fv w → ∀ (p : Nat), RdAt B w br p → ∀ (vv : Value) (vars : List Int), Rep G w (ints vars) vv → vars.length + 3 * b.toNat ≤ 1000 →
  ∀ (t : Int), 0 ≤ t → t ≤ l.length → canB l (sgs fs) vars t = true → p + cst b.toNat ≤ 1125899906842624 →
    Calls Tryd.prog 57 #[.pointer (some ⟨br, 0, none⟩), .agg #[dv, fv], vv, .int .i64 t, .int .i64 b] w (GenK B w br p (cst b.toNat) (GnT l (sgs fs) vars t b))
/- a list of expressions, fresh -/
def GenLK (B : Nat) (w : World) (br p c : Nat) (P : List Ex → Prop) (e : Ending) (w' : World) : Prop :=
  ∃ (ks : List Ex) (v : Value) (p' : Nat), e = .returned v ∧ P ks ∧ Keep [br] w w' ∧ RdAt B w' br p' ∧ p' ≤ p + c ∧ Rep (List.range w.heap.size) w' (kidsD ks) v
theorem tdiv_in {a : Int} {n : Nat} (ha : 0 ≤ a) : 0 ≤ a.tdiv n ∧ a.tdiv n ≤ a := by
  refine ⟨Int.tdiv_nonneg ha (Int.natCast_nonneg n), ?_⟩
  rw [Int.tdiv_eq_ediv_of_nonneg ha]
  exact Int.ediv_le_self _ ha

set_option maxRecDepth 100000 in
set_option maxHeartbeats 8000000 in
theorem genAll_any {G : List Nat} {B br : Nat} {l : List Dc} {fs : List Fn} {dv fv : Value} {w : World} (hx : Cx G B br l fs dv fv w) (p : Nat) (hr : RdAt B w br p) (vv : Value) (vars : List Int) (hv : Rep G w (ints vars) vv) (hvl : vars.length ≤ 1000000) (hs : GS l (sgs fs)) (tv : Value) (ts : List Int) (ht : Rep G w (ints ts) tv) (ht3 : ts.length ≤ 3) (bd : Int) (b0 : 0 ≤ bd) (b1 : bd ≤ 1000) (hvb : vars.length + 3 * bd.toNat ≤ 1000)
    (hts : ∀ t ∈ ts, 0 ≤ t ∧ t ≤ l.length ∧ canB l (sgs fs) vars t = true) (ih : ∀ b', 0 ≤ b' → b' ≤ bd → GenC l fs b') (hp : p + 3 * cst bd.toNat ≤ 1125899906842624) :
    Calls Tryd.prog 73 #[.pointer (some ⟨br, 0, none⟩), .agg #[dv, fv], vv, tv, .int .i64 bd] w (GenLK B w br p (3 * cst bd.toNat) (KidsAt (fun t x => HasTy l (sgs fs) vars x t) ts ts.length)) := by
  have HX := Lib.hid hx
  have HR := Lib.hid hr
  have HV := Lib.hid hv
  have hB := hx.hB
  have hbrl := hr.lt
  have hbr := hx.hbr
  have hn4 : fs.length ≤ 4 := by have := hs.len; rw [sgs_len] at this; omega
  obtain ⟨da, dc, fa, fc, rfl, rfl⟩ := hx.forms
  obtain ⟨va, vc, rfl, _⟩ := ints_form hv
  clear hx hr hv
  have HT := Lib.hid ht
  obtain ⟨ta, tc, rfl, _⟩ := ints_form ht
  have HTS := Lib.hid hts
  have IH := Lib.hid ih
  have HC := Lib.hid (fun b' : Nat => fun h : b' ≤ bd.toNat => cst_mono h)
  obtain ⟨C, hC⟩ : ∃ C, C = cst bd.toNat := ⟨_, rfl⟩
  rw [← hC] at hp
  rw [← hC]
  have HCC := Lib.hid hC
  clear ht hts ih hC
  have HK0 := Lib.hid (show Keep [] w (w.alloc (.cells #[.slice da l.length dc, .slice fa fs.length fc] 50)) from (Keep.refl _ _).alloc _)
  have HO5 := KSt.start (br := br) (n0 := w.heap.size + 1) (Keep.refl [br] (w.alloc (.cells #[.slice da l.length dc, .slice fa fs.length fc] 50))) (by simp)
  rw [World.size_alloc] at HO5
  have HO5 := Lib.hid HO5
  have HF5 := ((HT.out.keep0 HK0.out).cons (g := (w.alloc (.cells #[.slice da l.length dc, .slice fa fs.length fc] 50)).heap.size) (Nat.le_refl _)).alloc (.cells #[] 55)
  have HV5 := ((HV.out.keep0 HK0.out).cons (g := (w.alloc (.cells #[.slice da l.length dc, .slice fa fs.length fc] 50)).heap.size) (Nat.le_refl _)).alloc (.cells #[] 55)
  rw [World.size_alloc] at HF5 HV5
  have HFL := Lib.hid HF5
  have HVL := Lib.hid HV5
  clear HF5 HV5
  go_enter Tryd.func73, Tryd.ntmps73
  go_wp2
  go_loopw [11, 12] (fun s i' wr => ∃ (k p' : Nat) (ks : List Ex), k ≤ ts.length ∧ i' = .int .i64 k ∧ KidsAt (fun t x => HasTy l (sgs fs) vars x t) ts k ks ∧ KSt br (w.heap.size + 1) (w.alloc (.cells #[.slice da l.length dc, .slice fa fs.length fc] 50)) wr s ks ∧ RdAt B wr br p' ∧ p' ≤ p + k * C ∧ Rep (ob s ++ G) wr (ints ts) (.slice ta ts.length tc) ∧ Rep (ob s ++ G) wr (ints vars) (.slice va vars.length vc)) (fun _ i' _ => ts.length - (intOf i').toNat)
  case atStart => exact ⟨0, p, [], Nat.zero_le _, rfl, KidsAt.nil _ _, HO5.out, HR.out.keep0 ((HK0.out).alloc _), by omega, HFL.out, HVL.out⟩
  case round =>
    obtain ⟨k, p', ks, hk, rfl, hks, ho, hr', hp', hfl, hvr⟩ := hrel
    have HKS := Lib.hid hks
    have HO := Lib.hid ho
    have HRR := Lib.hid hr'
    have HF5 := Lib.hid hfl
    have HV5 := Lib.hid hvr
    have sz := ho.keep.size
    simp at sz
    have q0 : wr.cell? ⟨w.heap.size, 0, none⟩ = some (.slice da l.length dc) := ho.keep.cellEq (by go_simp) (by simp; omega)
    have q1 : wr.cell? ⟨w.heap.size, 1, none⟩ = some (.slice fa fs.length fc) := ho.keep.cellEq (by go_simp) (by simp; omega)
    have hkc : k * C ≤ 3 * C := Nat.mul_le_mul_right _ (by omega)
    clear hks ho hr' hfl hvr
    by_cases hlt : k < ts.length
    · obtain ⟨b, off, rfl, hbG, hb, hcl⟩ := ints_at HF5.out hlt
      have HBG := Lib.hid hbG
      clear hbG
      have hkd : k * C + C ≤ 3 * C := by rw [show k * C + C = (k + 1) * C by rw [Nat.add_mul]; omega]; exact Nat.mul_le_mul_right _ (by omega)
      obtain ⟨d0, d1⟩ := tdiv_in (n := ts.length) b0
      have hz : ts ≠ [] := by rintro rfl; simp at hlt
      have hcs := HC.out (bd.tdiv ts.length).toNat (by omega)
      rw [← HCC.out] at hcs
      have HTK := Lib.hid (HTS.out _ (List.getElem_mem hlt))
      have IHK := Lib.hid (IH.out _ d0 d1)
      have hw : IntKind.i64.wrap (bd.tdiv ts.length) = bd.tdiv ts.length := IntWalk.i64_in _ (by omega)
      go_wp2
      go_region_held3 (fun w' => w'.cell? ⟨w.heap.size, 0, none⟩ = some (.slice da l.length dc) ∧ w'.cell? ⟨w.heap.size, 1, none⟩ = some (.slice fa fs.length fc) ∧ w'.cell? ⟨b, off + k, none⟩ = some (.int .i64 ts[k]))
        (first | exact ⟨q0, q1, hcl⟩ | exact ⟨z0, z1, z2⟩ | exact ⟨y0, y1, y2⟩ | exact ⟨x0, x1, x2⟩)
        (first
        | (go_at_call 57
           try rw [hw]
           refine (IHK.out G B br _ _ wr.drew (((HX.out.keep0 HK0.out).keep HO.out.keep).keep0 (Keep.refl _ _).drew) p' (HRR.out.keep0 (Keep.refl _ _).drew) _ vars (rep_obOut HV5.out).drew (by omega) _ HTK.out.1 HTK.out.2.1 HTK.out.2.2 (by omega)).mono ?_
           rintro e wx ⟨x, vx, px, rfl, hx, hkx, hrx, hpx, ax, capx, rfl, hvx⟩
           have SX := hkx.size
           simp at SX
           have HKX := Lib.hid (show Keep [br] wr wx from (Keep.refl _ _).drew.then hkx)
           have HX9 := Lib.hid (HO.out.fresh hvx)
           have HPX := Lib.hid hx.1
           have HRX := Lib.hid hrx
           have x0 := HKX.out.cellEq q0 (by simp; omega)
           have x1 := HKX.out.cellEq q1 (by simp; omega)
           have x2 := HKX.out.cellEq hcl (by simp; rintro rfl; exact HBG.out (List.mem_append_right _ hbr))
           have KY := (Keep.refl [] wx).alloc (.cells #[.int .i64 x.op, .int .i64 x.num, .slice ax x.kids.length capx] 55)
           have y0 := KY.cellEq x0 (by simp)
           have y1 := KY.cellEq x1 (by simp)
           have y2 := KY.cellEq x2 (by simp)
           clear hkx hrx hx hvx KY)
        | (refine step_append rfl _ _ 53 rfl (List.range (w.heap.size + 1)) (w.heap.size + 1) 55 (.agg #[.int .i64 0, .int .i64 0, .slice none 0 0]) 3 40 Tryd.underlying53 infoEx rfl (by decide) u11 _ rfl ((HO.out.call (by omega) HKX.out).alloc _) (.slice (some ⟨wx.heap.size, 0, none⟩) 1 1) [encE x] rfl
             (ex_new HX9.out (HO.out.below HKX.out)) (fun f hf => by simp at hf; subst hf; exact encE_len x) (by have := HKS.out.1; simp; omega) (by have := HKS.out.1; simp; omega) (by simp; omega) (fun g hg => by simp at hg ⊢; omega) ?_
           intro v' w' ho hgr
           have HO6 := Lib.hid ho
           have HGR := Lib.hid hgr
           have z0 := hgr.keep.cellEq y0 (fun hm => by have := (HO.out.own.lt _ hm).1; simp at this; omega)
           have z1 := hgr.keep.cellEq y1 (fun hm => by have := (HO.out.own.lt _ hm).1; simp at this; omega)
           have z2 := hgr.keep.cellEq y2 (fun hm => HBG.out (List.mem_append_left _ hm))
           clear ho hgr))
      all_goals
        go_wp2
        go_roundw
        case rel => exact ⟨k + 1, px, _, by omega, by go_num, HKS.out.snoc hlt HPX.out, HO.out.grow HKX.out HO6.out HGR.out, (HRX.out.keep0 ((Keep.refl _ _).alloc _)).keep HGR.out.keep (fun m hm => by have := (HO.out.own.lt m hm).1; omega), by rw [Nat.add_mul]; omega, HGR.out.rep2 (Rep.alloc (rep_obB HF5.out hbr HKX.out) _) (fun g hg => by have := HX.out.hG g hg; simp; omega), HGR.out.rep2 (Rep.alloc (rep_obB HV5.out hbr HKX.out) _) (fun g hg => by have := HX.out.hG g hg; simp; omega)⟩
        case measure => simp [intOf]; omega
    · have hke : k = ts.length := by omega
      subst hke
      go_wp2
      go_ret
      exact ⟨ks, _, p', rfl, HKS.out, HK0.out.of0.then HO.out.keep, HRR.out, by omega, HO.out.own.rep.sub (range_sub (by omega))⟩
end Go.Proofs.YtnjincgemmgllaaDoor
