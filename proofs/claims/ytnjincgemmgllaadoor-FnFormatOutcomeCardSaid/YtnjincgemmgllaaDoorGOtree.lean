/- The walk of the generator's overTree. -/
import Derived.Test.YtnjincgemmgllaaDoorGOtA
namespace Go.Proofs.YtnjincgemmgllaaDoor
open Go.RowKit
attribute [local go_sem ↓] Go.wp_at_zero Go.wp_at_succ

set_option maxRecDepth 100000 in
set_option maxHeartbeats 16000000 in
theorem overTree_any {G : List Nat} {B br : Nat} {l : List Dc} {fs : List Fn} {dv fv : Value} {w : World} (hx : Cx G B br l fs dv fv w) (p : Nat) (hr : RdAt B w br p) (hl : GD l) (hs : GS l (sgs fs)) (f : Nat) (ps : List Int) (rs : Int) (hF : FnAt fs f ps rs) (hps2 : ps = [3] ∨ ps = [3, 0]) (hrs : rs = 0 ∨ rs = 3) (hp : p + 80000 ≤ 1125899906842624) :
    Calls Tryd.prog 43 #[.pointer (some ⟨br, 0, none⟩), .agg #[dv, fv], .int .i64 (f : Int)] w (GenK B w br p 80000 (fun x => HasTy l (sgs fs) ps x rs)) := by
  have hn4 : fs.length ≤ 4 := by have := hs.len; rw [sgs_len] at this; omega
  have hn1 : 1 ≤ fs.length := by have := hs.len; rw [sgs_len] at this; omega
  obtain ⟨da, dc, fa, fc, rfl, rfl⟩ := hx.forms
  have X0 := Lib.hid (Sx.start hx hr)
  have hfb := hl.bound
  have HL := Lib.hid hl
  have HS := Lib.hid hs
  have hbr : br ∈ G := hx.hbr
  have hbl := X0.out.brlt
  obtain ⟨bf, of, pa, pc, rfl, hbn, hbf, cp, cr, rp⟩ := hF.cells (br := br) hx.hf hx.hbr
  have RP := Lib.hid rp
  have HF := Lib.hid hF
  have hfl := hF.lt
  have hps : ps.length ≤ 3 := by have h := hs.plen f (by rw [sgs_len]; exact hF.lt); simp only [sgs, List.getElem_map, hF.ps_] at h; exact h
  have HPT := Lib.hid (show ∀ u ∈ ps, 0 ≤ u ∧ u ≤ l.length ∧ canB l (sgs fs) ps u = true from fun u hu => by
    have h1 := hs.ptys f (by rw [sgs_len]; exact hF.lt) u (by simp only [sgs, List.getElem_map, hF.ps_]; exact hu)
    have := hl.len
    exact ⟨by omega, by omega, canB_self hu⟩)
  have hf0 : (0 : Int) ≤ (f : Int) := by omega
  have hf1 : (f : Int) < (fs.length : Int) := by omega
  have hbm2 : br ∈ List.range (w.heap.size + 2) := by simp; omega
  have GA4 := Lib.hid (gen_all hl hs 4 (by omega) (by omega))
  have HB0 := Lib.hid (fun vs => (base_can (sg := sgs fs) hl (u := 0) vs (.inl rfl)))
  have HRC := Lib.hid (show ∀ vs, canB l (sgs fs) vs rs = true from fun vs => (base_can (sg := sgs fs) hl (u := rs) vs (by unfold base; omega)).2.2)
  have hrl : rs ≤ l.length := by have := hl.len; omega
  have hl1 : 1 ≤ ps.length := by rcases hps2 with e | e <;> rw [e] <;> simp
  have hl2 : ps.length ≤ 2 := by rcases hps2 with e | e <;> rw [e] <;> simp
  have TVA := Lib.hid (show HasTy l (sgs fs) ps (.mk 12 0 []) 3 from by have h := ty_var (l := l) (sg := sgs fs) (vars := ps) (i := 0) (t := 3) (by rcases hps2 with e | e <;> rw [e] <;> rfl); simpa using h)
  have H03 := Lib.hid (show ∀ h : 0 < ps.length, ps[0] = 3 from fun h => by rcases hps2 with e | e <;> subst e <;> rfl)
  obtain ⟨inn, hinn⟩ : ∃ inn, inn = ps ++ [3, 0, 3] := ⟨_, rfl⟩
  have hin5 : inn.length ≤ 6 := by rw [hinn]; simp; omega
  have TV := Lib.hid (show ∀ i (h : i < ps.length), HasTy l (sgs fs) inn (.mk 12 (i : Int) []) ps[i] from fun i h => ty_var (by rw [hinn, List.getElem?_append_left h, List.getElem?_eq_getElem h]))
  have TN := Lib.hid (show HasTy l (sgs fs) inn (.mk 12 (ps.length : Int) []) 3 from ty_var (by rw [hinn]; simp))
  have TN2 := Lib.hid (show HasTy l (sgs fs) inn (.mk 12 ((ps.length : Int) + 2) []) 3 from by have h := ty_var (l := l) (sg := sgs fs) (vars := inn) (i := ps.length + 2) (t := 3) (by rw [hinn]; simp); simpa using h)
  have INN := Lib.hid hinn
  have cp0 : ((w.alloc (.cells #[.slice da l.length dc, .slice (some ⟨bf, of, none⟩) fs.length fc] 50)).alloc (.cells #[.int .i64 0, .int .i64 0, .slice none 0 0] 55)).cell? ⟨bf, of + f * 5, none⟩ = some (.slice pa ps.length pc) := X0.out.old cp hbn
  clear hx hr hl hs hF rp hps2 hinn
  go_enter Tryd.func43, Tryd.ntmps43
  go_wp2_with fail
  refine (variable_sx (ps.length : Int) X0.out (by repeat (first | exact Keep.refl _ _ | refine Keep.drew ?_ | refine Keep.alloc ?_ _ | fail))).mono ?_
  rintro e w1 ⟨a1, c1, rfl, hX, hk, hr1⟩
  have s1 := hX.size
  have X1 := Lib.hid (hX.new (.cells #[.int .i64 12, .int .i64 (ps.length : Int), .slice a1 0 c1] 55))
  have hc1 := kids_cap hr1
  have O1 := Lib.hid (Own.new (G := List.range (w.heap.size + 2)) (B := w.heap.size + 2) (w := w1) (E := 55) (sz := 3) (es := [encE (.mk 12 (ps.length : Int) [])]) (cs := #[.int .i64 12, .int .i64 (ps.length : Int), .slice a1 0 c1]) (by omega) (fun g hg => by simp at hg; omega) (fun e he => by simp at he; subst he; exact encE_len _) (by rw [encE_eq]; exact ⟨rfl, rfl, kids0 hc1, trivial⟩) (by simp) (by simp))
  clear hX hk hr1 cp0
  go_wp2_with fail
  refine (variable_sx ((ps.length : Int) + 2) X1.out (by repeat (first | with_reducible exact Keep.refl _ _ | with_reducible refine Keep.drew ?_ | with_reducible refine Keep.alloc ?_ _ | exact Keep.refl _ _ | fail))).mono ?_
  rintro e w2 ⟨a2, c2, rfl, hX, hk, hr2⟩
  have hc2 := kids_cap hr2
  have s2 := hk.size
  simp at s2
  have X2 := Lib.hid (hX.new (.cells #[.int .i64 12, .int .i64 ((ps.length : Int) + 2), .slice a2 0 c2] 55))
  have O1 := Lib.hid (((O1.out.sub (G' := w2.heap.size :: List.range (w.heap.size + 2)) (fun g hg => by rcases List.mem_cons.1 hg with rfl | h; exact .inr (by simp; omega); exact .inl h)).keep0 hk).alloc (.cells #[.int .i64 12, .int .i64 ((ps.length : Int) + 2), .slice a2 0 c2] 55))
  have O2 := Lib.hid (Own.new (G := w1.heap.size :: List.range (w.heap.size + 2)) (B := w.heap.size + 2) (w := w2) (E := 55) (sz := 3) (es := [encE (.mk 12 ((ps.length : Int) + 2) [])]) (cs := #[.int .i64 12, .int .i64 ((ps.length : Int) + 2), .slice a2 0 c2]) (by omega) (fun g hg => by simp at hg; omega) (fun e he => by simp at he; subst he; exact encE_len _) (by rw [encE_eq]; exact ⟨rfl, rfl, kids0 hc2, trivial⟩) (by simp) (by simp))
  clear hX hk hr2
  go_wp2
  go_loopw [9, 10, 11] (fun s9 s10 s11 wr => ∃ (k : Nat) (ks1 ks2 : List Ex), 1 ≤ k ∧ k ≤ ps.length ∧ s11 = .int .i64 k ∧ KidsAt (fun t x => HasTy l (sgs fs) inn x t) ps k ks1 ∧ KidsAt (fun t x => HasTy l (sgs fs) inn x t) ps k ks2 ∧ Sx G B br l fs da dc (some ⟨bf, of, none⟩) fc w wr p ∧ Rep (List.range (w.heap.size + 2)) wr (kidsD ks1) s9 ∧ Rep (List.range (w.heap.size + 2)) wr (kidsD ks2) s10 ∧
      (k = 1 → ks1 = [.mk 12 (ps.length : Int) []] ∧ ks2 = [.mk 12 ((ps.length : Int) + 2) []] ∧ s9 = .slice (some ⟨w1.heap.size, 0, none⟩) 1 1 ∧ s10 = .slice (some ⟨w2.heap.size, 0, none⟩) 1 1 ∧ wr = w2.alloc (.cells #[.int .i64 12, .int .i64 ((ps.length : Int) + 2), .slice a2 0 c2] 55))) (fun _ _ s11 _ => ps.length - (intOf s11).toNat)
  case atStart => exact ⟨1, [.mk 12 (ps.length : Int) []], [.mk 12 ((ps.length : Int) + 2) []], by omega, hl1, rfl, (KidsAt.nil _ _).snoc (by omega) (by rw [H03.out (by omega)]; exact TN.out), (KidsAt.nil _ _).snoc (by omega) (by rw [H03.out (by omega)]; exact TN2.out), X2.out, O1.out.rep.tail, O2.out.rep.tail, fun _ => ⟨rfl, rfl, rfl, rfl, rfl⟩⟩
  case round =>
    obtain ⟨k, ks1, ks2, hk1, hk, rfl, hks1, hks2, hX, hR1, hR2, hone⟩ := hrel
    by_cases hlt : k < ps.length
    · obtain rfl : k = 1 := by omega
      obtain ⟨rfl, rfl, rfl, rfl, rfl⟩ := hone rfl
      have KS1 := Lib.hid hks1
      have KS2 := Lib.hid hks2
      clear hX hR1 hR2 hone hks1 hks2
      go_wp2_with fail
      refine (variable_sx 1 X2.out (by repeat (first | with_reducible exact Keep.refl _ _ | with_reducible refine Keep.drew ?_ | with_reducible refine Keep.alloc ?_ _ | exact Keep.refl _ _ | fail))).mono ?_
      rintro e w3 ⟨a3, c3, rfl, hX, hk, hr3⟩
      have X3 := Lib.hid hX
      have hc3 := kids_cap hr3
      have s3 := hk.size
      simp at s3
      have P1 := Lib.hid (O1.out.keep0 hk)
      have P2 := Lib.hid (O2.out.keep0 hk)
      clear hX hk hr3
      go_wp2_with (first
        | (at_builtin
           refine wpl_append rfl _ _ 53 rfl (w2.heap.size :: List.range (w.heap.size + 2)) (w.heap.size + 2) 55 (.agg #[.int .i64 0, .int .i64 0, .slice none 0 0]) 3 40 Tryd.underlying53 infoEx rfl (by decide) (.slice (some ⟨w1.heap.size, 0, none⟩) 1 1) [encE (.mk 12 (ps.length : Int) [])] rfl (P1.out.alloc _) (.slice (some ⟨w3.heap.size, 0, none⟩) 1 1) [encE (.mk 12 1 [])] rfl
             (ex_new (x := .mk 12 1 []) (kids0 hc3) (fun g hg => by simp [ob, Value.ownBlock] at hg; omega)) (fun f hf => by simp at hf; subst hf; exact encE_len _) (by simp) (by simp) (by simp; omega) (fun g hg => by simp at hg ⊢; omega) ?_
           intro v' w4 ho hgr
           have Q1 := Lib.hid ho
           have HG1 := Lib.hid hgr
           have s4 := hgr.keep.size
           simp at s4
           have Q2 := Lib.hid ((P2.out.alloc _).keep hgr.keep (fun m hm => .inl (by simp [ob, Value.ownBlock] at hm; subst hm; simp)))
           have X4 := Lib.hid (X3.out.wr (((Keep.refl _ w3).alloc _).trans hgr.keep (fun m hm => .inl hm)) (fun m hm => by simp [ob, Value.ownBlock] at hm; omega))
           clear ho hgr))
      refine (variable_sx 1 X4.out (by repeat (first | with_reducible exact Keep.refl _ _ | with_reducible refine Keep.drew ?_ | with_reducible refine Keep.alloc ?_ _ | exact Keep.refl _ _ | fail))).mono ?_
      rintro e w5 ⟨a5, c5, rfl, hX, hk, hr5⟩
      have X5 := Lib.hid hX
      have hc5 := kids_cap hr5
      have s5 := hk.size
      have T1 := Lib.hid (Q1.out.keep0 hk)
      have T2 := Lib.hid (Q2.out.keep0 hk)
      clear hX hk hr5
      go_wp2_with (first
        | (at_builtin
           refine wpl_append rfl _ _ 53 rfl (w1.heap.size :: List.range (w.heap.size + 2)) (w.heap.size + 2) 55 (.agg #[.int .i64 0, .int .i64 0, .slice none 0 0]) 3 40 Tryd.underlying53 infoEx rfl (by decide) (.slice (some ⟨w2.heap.size, 0, none⟩) 1 1) [encE (.mk 12 ((ps.length : Int) + 2) [])] rfl (T2.out.alloc _) (.slice (some ⟨w5.heap.size, 0, none⟩) 1 1) [encE (.mk 12 1 [])] rfl
             (ex_new (x := .mk 12 1 []) (kids0 hc5) (fun g hg => by simp [ob, Value.ownBlock] at hg; omega)) (fun f hf => by simp at hf; subst hf; exact encE_len _) (by simp) (by simp) (by simp; omega) (fun g hg => by simp at hg ⊢; omega) ?_
           intro v'' w6 ho hgr
           have U2 := Lib.hid ho
           have U1 := Lib.hid ((T1.out.alloc _).keep hgr.keep (fun m hm => .inl (by simp [ob, Value.ownBlock] at hm; subst hm; simp)))
           have X6 := Lib.hid (X5.out.wr (((Keep.refl _ w5).alloc _).trans hgr.keep (fun m hm => .inl hm)) (fun m hm => by simp [ob, Value.ownBlock] at hm; omega))
           clear ho hgr))
      go_roundw
      case rel => exact ⟨2, [.mk 12 (ps.length : Int) [], .mk 12 1 []], [.mk 12 ((ps.length : Int) + 2) [], .mk 12 1 []], by omega, by omega, by go_num, KS1.out.snoc hlt (TV.out 1 hlt), KS2.out.snoc hlt (TV.out 1 hlt), X6.out, U1.out.rep.tail, U2.out.rep.tail, fun h => absurd h (by omega)⟩
      case measure => simp [intOf]; omega
    · have hke : k = ps.length := by omega
      subst hke
      have TL := Lib.hid (HF.out.call hks1)
      have TR := Lib.hid (HF.out.call hks2)
      have X3 := Lib.hid hX
      have R1 := Lib.hid hR1
      have R2 := Lib.hid hR2
      clear hX hR1 hR2 hone hks1 hks2 O1 O2
      go_wp2_with fail
      refine (node_sx 9 (f : Int) _ ks1 X3.out (by repeat (first | with_reducible exact Keep.refl _ _ | with_reducible refine Keep.drew ?_ | with_reducible refine Keep.alloc ?_ _ | exact Keep.refl _ _ | fail)) R1.out).mono ?_
      rintro e w4 ⟨a4, c4, rfl, hX, hk, hr4⟩
      have X4 := Lib.hid (hX.new (.cells #[.int .i64 9, .int .i64 (f : Int), .slice a4 ks1.length c4] 55))
      have s4 := hX.size
      have C4 := Lib.hid (show C3 (w4.alloc (.cells #[.int .i64 9, .int .i64 (f : Int), .slice a4 ks1.length c4] 55)) w4.heap.size (.int .i64 9) (.int .i64 (f : Int)) (.slice a4 ks1.length c4) from (blk3 (heap_alloc_new w4 _)).1)
      have L4 := Lib.hid (hr4.alloc (.cells #[.int .i64 9, .int .i64 (f : Int), .slice a4 ks1.length c4] 55))
      have R4 := Lib.hid ((R2.out.keep0 hk).alloc (.cells #[.int .i64 9, .int .i64 (f : Int), .slice a4 ks1.length c4] 55))
      clear hX hk hr4
      go_wp2_with fail
      refine (node_sx 9 (f : Int) _ ks2 X4.out (by repeat (first | with_reducible exact Keep.refl _ _ | with_reducible refine Keep.drew ?_ | with_reducible refine Keep.alloc ?_ _ | exact Keep.refl _ _ | fail)) R4.out).mono ?_
      rintro e w5 ⟨a5, c5, rfl, hX, hk, hr5⟩
      have X5 := Lib.hid (hX.new (.cells #[.int .i64 9, .int .i64 (f : Int), .slice a5 ks2.length c5] 55))
      have s5 := hk.size
      simp at s5
      have CL := Lib.hid (show C3 (w5.alloc (.cells #[.int .i64 9, .int .i64 (f : Int), .slice a5 ks2.length c5] 55)) w4.heap.size (.int .i64 9) (.int .i64 (f : Int)) (.slice a4 ks1.length c4) from (C4.out.keep0 hk).keep0 ((Keep.refl _ _).alloc _))
      have CR := Lib.hid (show C3 (w5.alloc (.cells #[.int .i64 9, .int .i64 (f : Int), .slice a5 ks2.length c5] 55)) w5.heap.size (.int .i64 9) (.int .i64 (f : Int)) (.slice a5 ks2.length c5) from (blk3 (heap_alloc_new w5 _)).1)
      have RL := Lib.hid (show Rep (List.range (w.heap.size + 2)) (w5.alloc (.cells #[.int .i64 9, .int .i64 (f : Int), .slice a5 ks2.length c5] 55)) (kidsD ks1) (.slice a4 ks1.length c4) from (L4.out.keep0 hk).alloc _)
      have RR := Lib.hid (show Rep (List.range (w.heap.size + 2)) (w5.alloc (.cells #[.int .i64 9, .int .i64 (f : Int), .slice a5 ks2.length c5] 55)) (kidsD ks2) (.slice a5 ks2.length c5) from hr5.alloc _)
      have HZ0 := Lib.hid X5.out.size
      clear hX hk hr5
      go_upto_region 12 with fail
      go_cut [14] (fun s14 wx => ∃ (K : Nat) (y : Ex) (p' : Nat), s14 = .pointer (some ⟨K, 0, none⟩) ∧ Sx G B br l fs da dc (some ⟨bf, of, none⟩) fc w wx p' ∧ p' ≤ p + 25600 ∧ HasTy l (sgs fs) inn y 0 ∧ OT br w (w5.alloc (.cells #[.int .i64 9, .int .i64 (f : Int), .slice a5 ks2.length c5] 55)) wx (.mk 9 (f : Int) ks1) (.mk 9 (f : Int) ks2) K y)
      case first =>
        go_region_held3 (fun w' => w'.cell? ⟨w.heap.size, 0, none⟩ = some (.slice da l.length dc) ∧ w'.cell? ⟨w.heap.size, 1, none⟩ = some (.slice (some ⟨bf, of, none⟩) fs.length fc) ∧ w'.cell? ⟨bf, of + f * 5 + 1, none⟩ = some (.int .i64 rs) ∧ w'.cell? ⟨w4.heap.size, 0, none⟩ = some (.int .i64 9) ∧ w'.cell? ⟨w4.heap.size, 1, none⟩ = some (.int .i64 (f : Int)) ∧ w'.cell? ⟨w4.heap.size, 2, none⟩ = some (.slice a4 ks1.length c4) ∧ w'.cell? ⟨w5.heap.size, 0, none⟩ = some (.int .i64 9) ∧ w'.cell? ⟨w5.heap.size, 1, none⟩ = some (.int .i64 (f : Int)) ∧ w'.cell? ⟨w5.heap.size, 2, none⟩ = some (.slice a5 ks2.length c5))
          (first | (refine Sx.hold2 (Sx.keep0 X5.out ?_) cr hbn (C3.keep0 CL.out ?_) (C3.keep0 CR.out ?_) <;> ((repeat (first | with_reducible exact Keep.refl _ _ | with_reducible refine Keep.drew ?_ | with_reducible refine Keep.alloc ?_ _ | exact Keep.refl _ _ | fail)); done)) | (refine Sx.hold2 (Sx.keep0 X61.out ?_) cr hbn (C3.keep0 CL1.out ?_) (C3.keep0 CR1.out ?_) <;> ((repeat (first | with_reducible exact Keep.refl _ _ | with_reducible refine Keep.drew ?_ | with_reducible refine Keep.alloc ?_ _ | exact Keep.refl _ _ | fail)); done)) | (refine Sx.hold2 (Sx.keep0 X62.out ?_) cr hbn (C3.keep0 CL2.out ?_) (C3.keep0 CR2.out ?_) <;> ((repeat (first | with_reducible exact Keep.refl _ _ | with_reducible refine Keep.drew ?_ | with_reducible refine Keep.alloc ?_ _ | exact Keep.refl _ _ | fail)); done)) | (refine Sx.hold2 (Sx.keep0 X63.out ?_) cr hbn (C3.keep0 CL3.out ?_) (C3.keep0 CR3.out ?_) <;> ((repeat (first | with_reducible exact Keep.refl _ _ | with_reducible refine Keep.drew ?_ | with_reducible refine Keep.alloc ?_ _ | exact Keep.refl _ _ | fail)); done)) | (refine Sx.hold2 (Sx.keep0 X64.out ?_) cr hbn (C3.keep0 CL4.out ?_) (C3.keep0 CR4.out ?_) <;> ((repeat (first | with_reducible exact Keep.refl _ _ | with_reducible refine Keep.drew ?_ | with_reducible refine Keep.alloc ?_ _ | exact Keep.refl _ _ | fail)); done)) | (refine Sx.hold2p X64.out cr hbn CL4.out CR4.out ?_ ?_ ?_ _ _ _ <;> omega) | go_keep)
          (first
          | (go_at_call 58
             have hq := X63.out
             clear hq
             refine (node_ex 1 0 _ 2 2 _).mono ?_
             rintro e w64 ⟨rfl, hk'⟩
             have X64 := Lib.hid (X63.out.keep0 (Keep.then0 (by repeat (first | with_reducible exact Keep.refl _ _ | with_reducible refine Keep.drew ?_ | with_reducible refine Keep.alloc ?_ _ | exact Keep.refl _ _ | fail)) hk'))
             have CL4 := Lib.hid (CL3.out.keep0 (Keep.then0 (by repeat (first | with_reducible exact Keep.refl _ _ | with_reducible refine Keep.drew ?_ | with_reducible refine Keep.alloc ?_ _ | exact Keep.refl _ _ | fail)) hk'))
             have CR4 := Lib.hid (CR3.out.keep0 (Keep.then0 (by repeat (first | with_reducible exact Keep.refl _ _ | with_reducible refine Keep.drew ?_ | with_reducible refine Keep.alloc ?_ _ | exact Keep.refl _ _ | fail)) hk'))
             have KW4 := Lib.hid (KW3.out.then0 (Keep.then0 (by repeat (first | with_reducible exact Keep.refl _ _ | with_reducible refine Keep.drew ?_ | with_reducible refine Keep.alloc ?_ _ | exact Keep.refl _ _ | fail)) hk'))
             have KY4 := Lib.hid (KY3.out.then0 (Keep.then0 (by repeat (first | with_reducible exact Keep.refl _ _ | with_reducible refine Keep.drew ?_ | with_reducible refine Keep.alloc ?_ _ | exact Keep.refl _ _ | fail)) hk'))
             have D4 := Lib.hid (D3.out.keep0 (Keep.then0 (by repeat (first | with_reducible exact Keep.refl _ _ | with_reducible refine Keep.drew ?_ | with_reducible refine Keep.alloc ?_ _ | exact Keep.refl _ _ | fail)) hk'))
             have s64 := hk'.size
             try simp at s64
             first
             | (refine cut (A := Hid (Blk w64 (w63.heap.size) #[.int .i64 9, .int .i64 (f : Int), .slice a4 ks1.length c4, .int .i64 1, .int .i64 0, .slice (some ⟨w62.heap.size, 0, none⟩) 2 2] 55)) ?_ ?_
                · refine Lib.hid (Blk.keep0 ?_ hk')
                  (repeat (first | with_reducible refine Blk.drew ?_ | ((with_reducible refine Blk.new ?_) <;> (first | (simp; done) | fail)) | with_reducible refine Blk.alloc ?_ _ | fail))
                intro E4)
             | (refine cut (A := Hid (Blk w64 (w63.heap.size) #[.int .i64 9, .int .i64 (f : Int), .slice a4 ks1.length c4, .int .i64 1, .int .i64 0, .slice (some ⟨w62.heap.size + 1, 0, none⟩) 2 2] 55)) ?_ ?_
                · refine Lib.hid (Blk.keep0 ?_ hk')
                  (repeat (first | with_reducible refine Blk.drew ?_ | ((with_reducible refine Blk.new ?_) <;> (first | (simp; done) | fail)) | with_reducible refine Blk.alloc ?_ _ | fail))
                intro E4)
             | (refine cut (A := Hid (Blk w64 (w63.heap.size + 1) #[.int .i64 9, .int .i64 (f : Int), .slice a4 ks1.length c4, .int .i64 1, .int .i64 0, .slice (some ⟨w62.heap.size, 0, none⟩) 2 2] 55)) ?_ ?_
                · refine Lib.hid (Blk.keep0 ?_ hk')
                  (repeat (first | with_reducible refine Blk.drew ?_ | ((with_reducible refine Blk.new ?_) <;> (first | (simp; done) | fail)) | with_reducible refine Blk.alloc ?_ _ | fail))
                intro E4)
             first
             | (have ZN := Lib.hid (ZB.out.keep0 (Keep.then0 (by repeat (first | with_reducible exact Keep.refl _ _ | with_reducible refine Keep.drew ?_ | with_reducible refine Keep.alloc ?_ _ | exact Keep.refl _ _ | fail)) hk')); clear ZB; have ZB := ZN; clear ZN)
             | (refine cut (A := Hid (Blk w64 (w63.heap.size) #[.int .i64 0, .int .i64 0, .slice none 0 0] 55)) ?_ ?_
                · (refine Lib.hid (Blk.keep0 ?_ hk'))
                  (repeat (first | with_reducible refine Blk.drew ?_ | ((with_reducible refine Blk.new ?_) <;> (first | (simp; done) | fail)) | with_reducible refine Blk.alloc ?_ _ | fail))
                intro ZB)
             | (refine cut (A := Hid (Blk w64 (w63.heap.size + 1) #[.int .i64 0, .int .i64 0, .slice none 0 0] 55)) ?_ ?_
                · (refine Lib.hid (Blk.keep0 ?_ hk'))
                  (repeat (first | with_reducible refine Blk.drew ?_ | ((with_reducible refine Blk.new ?_) <;> (first | (simp; done) | fail)) | with_reducible refine Blk.alloc ?_ _ | fail))
                intro ZB)
             | skip
             first
             | (obtain ⟨⟨y0, y1, y2⟩, g0, g1, g2⟩ := blk3 ZB.out
                have zl := ZB.out.lt)
             | skip
             clear hk')
          | (go_at_call 58
             have hq := X62.out
             clear hq
             refine (node_ex 1 0 _ 2 2 _).mono ?_
             rintro e w63 ⟨rfl, hk'⟩
             have X63 := Lib.hid (X62.out.keep0 (Keep.then0 (by repeat (first | with_reducible exact Keep.refl _ _ | with_reducible refine Keep.drew ?_ | with_reducible refine Keep.alloc ?_ _ | exact Keep.refl _ _ | fail)) hk'))
             have CL3 := Lib.hid (CL2.out.keep0 (Keep.then0 (by repeat (first | with_reducible exact Keep.refl _ _ | with_reducible refine Keep.drew ?_ | with_reducible refine Keep.alloc ?_ _ | exact Keep.refl _ _ | fail)) hk'))
             have CR3 := Lib.hid (CR2.out.keep0 (Keep.then0 (by repeat (first | with_reducible exact Keep.refl _ _ | with_reducible refine Keep.drew ?_ | with_reducible refine Keep.alloc ?_ _ | exact Keep.refl _ _ | fail)) hk'))
             have KW3 := Lib.hid (KW2.out.then0 (Keep.then0 (by repeat (first | with_reducible exact Keep.refl _ _ | with_reducible refine Keep.drew ?_ | with_reducible refine Keep.alloc ?_ _ | exact Keep.refl _ _ | fail)) hk'))
             have KY3 := Lib.hid (Keep.then0 (show Keep [] w62 _ from (by repeat (first | with_reducible exact Keep.refl _ _ | with_reducible refine Keep.drew ?_ | with_reducible refine Keep.alloc ?_ _ | exact Keep.refl _ _ | fail))) hk')
             have s63 := hk'.size
             try simp at s63
             first
             | (refine cut (A := Hid (Blk w63 (w62.heap.size) #[.int .i64 y.op, .int .i64 y.num, .slice ay y.kids.length cy, .int .i64 9, .int .i64 (f : Int), .slice a5 ks2.length c5] 55)) ?_ ?_
                · refine Lib.hid (Blk.keep0 ?_ hk')
                  (repeat (first | with_reducible refine Blk.drew ?_ | ((with_reducible refine Blk.new ?_) <;> (first | (simp; done) | fail)) | with_reducible refine Blk.alloc ?_ _ | fail))
                intro D3)
             | (refine cut (A := Hid (Blk w63 (w62.heap.size + 1) #[.int .i64 y.op, .int .i64 y.num, .slice ay y.kids.length cy, .int .i64 9, .int .i64 (f : Int), .slice a5 ks2.length c5] 55)) ?_ ?_
                · refine Lib.hid (Blk.keep0 ?_ hk')
                  (repeat (first | with_reducible refine Blk.drew ?_ | ((with_reducible refine Blk.new ?_) <;> (first | (simp; done) | fail)) | with_reducible refine Blk.alloc ?_ _ | fail))
                intro D3)
             first
             | (have ZN := Lib.hid (ZB.out.keep0 (Keep.then0 (by repeat (first | with_reducible exact Keep.refl _ _ | with_reducible refine Keep.drew ?_ | with_reducible refine Keep.alloc ?_ _ | exact Keep.refl _ _ | fail)) hk')); clear ZB; have ZB := ZN; clear ZN)
             | (refine cut (A := Hid (Blk w63 (w62.heap.size) #[.int .i64 0, .int .i64 0, .slice none 0 0] 55)) ?_ ?_
                · (refine Lib.hid (Blk.keep0 ?_ hk'))
                  (repeat (first | with_reducible refine Blk.drew ?_ | ((with_reducible refine Blk.new ?_) <;> (first | (simp; done) | fail)) | with_reducible refine Blk.alloc ?_ _ | fail))
                intro ZB)
             | (refine cut (A := Hid (Blk w63 (w62.heap.size + 1) #[.int .i64 0, .int .i64 0, .slice none 0 0] 55)) ?_ ?_
                · (refine Lib.hid (Blk.keep0 ?_ hk'))
                  (repeat (first | with_reducible refine Blk.drew ?_ | ((with_reducible refine Blk.new ?_) <;> (first | (simp; done) | fail)) | with_reducible refine Blk.alloc ?_ _ | fail))
                intro ZB)
             | skip
             first
             | (have zl := ZB.out.lt)
             | skip
             clear hk')
          | (go_at_call 60
             refine (extend_any (G := G) _ _ ps [3, 0, 3] _ (by exact (X5.out.rep0 RP.out).keep0 (by repeat (first | with_reducible exact Keep.refl _ _ | with_reducible refine Keep.drew ?_ | with_reducible refine Keep.alloc ?_ _ | exact Keep.refl _ _ | fail))) (by (repeat (first | with_reducible refine Rep.drew ?_ | ((refine ints_newAt [3, 0, 3] ?_ ?_ (by simp)) <;> (first | (simp; done) | (intro g hg; have := X5.out.c0.hG g hg; (try simp); omega) | fail)) | with_reducible refine Rep.alloc ?_ _ | fail))) (by omega) (by simp) (by intro g hg; have := X5.out.c0.hG g hg; simp; omega)).mono ?_
             rintro e w61 ⟨r61, rfl, hk', ho61⟩
             have hr61 : Rep G w61 (ints inn) r61 := by rw [INN.out]; exact ho61.rep
             obtain ⟨ia, ic, rfl, _⟩ := ints_form hr61
             have hk := Keep.then0 (show Keep [] (w5.alloc (.cells #[.int .i64 9, .int .i64 (f : Int), .slice a5 ks2.length c5] 55)) _ from (by repeat (first | with_reducible exact Keep.refl _ _ | with_reducible refine Keep.drew ?_ | with_reducible refine Keep.alloc ?_ _ | exact Keep.refl _ _ | fail))) hk'
             have X61 := Lib.hid (X5.out.keep0 hk)
             have RI1 := Lib.hid hr61
             have CL1 := Lib.hid (CL.out.keep0 hk)
             have CR1 := Lib.hid (CR.out.keep0 hk)
             have KW1 := Lib.hid (hk.of0 (M := [br]))
             have s61 := hk.size
             try simp at s61
             first
             | (refine cut (A := Hid (Blk w61 (w5.heap.size + 1) #[.int .i64 0, .int .i64 0, .slice none 0 0] 55)) ?_ ?_
                · refine Lib.hid (Blk.keep0 ?_ hk')
                  (repeat (first | with_reducible refine Blk.drew ?_ | ((with_reducible refine Blk.new ?_) <;> (first | (simp; done) | fail)) | with_reducible refine Blk.alloc ?_ _ | fail))
                intro ZB)
             | (refine cut (A := Hid (Blk w61 (w5.heap.size + 2) #[.int .i64 0, .int .i64 0, .slice none 0 0] 55)) ?_ ?_
                · refine Lib.hid (Blk.keep0 ?_ hk')
                  (repeat (first | with_reducible refine Blk.drew ?_ | ((with_reducible refine Blk.new ?_) <;> (first | (simp; done) | fail)) | with_reducible refine Blk.alloc ?_ _ | fail))
                intro ZB)
             | skip
             first
             | (have zl := ZB.out.lt)
             | skip
             clear hk hk' ho61 hr61)
          | (go_at_call 57
             have hq := X61.out
             clear hq
             refine (gen_sw GA4.out _ inn 0 X61.out (by repeat (first | with_reducible exact Keep.refl _ _ | with_reducible refine Keep.drew ?_ | with_reducible refine Keep.alloc ?_ _ | exact Keep.refl _ _ | fail)) (by exact RI1.out.keep0 (by repeat (first | with_reducible exact Keep.refl _ _ | with_reducible refine Keep.drew ?_ | with_reducible refine Keep.alloc ?_ _ | exact Keep.refl _ _ | fail))) (by simp; omega) (by omega) (by omega) (HB0.out inn).2.2 (by rw [show (4 : Int).toNat = 4 from rfl, cst4]; omega)).mono ?_
             rintro e w62 ⟨y, p62, ay, cy, rfl, hy, hX, hk, hk', hp62, hr62⟩
             rw [show (4 : Int).toNat = 4 from rfl, cst4] at hp62
             have X62 := Lib.hid hX
             have TY := Lib.hid hy
             have s62 := hk'.size
             try simp at s62
             have CL2 := Lib.hid (CL1.out.keepM hk (by simp; omega))
             have CR2 := Lib.hid (CR1.out.keepM hk (by simp; omega))
             have KW2 := Lib.hid (KW1.out.then hk)
             first
             | (refine cut (A := ∃ m, w61.heap.size + 1 ≤ m ∧ Hid (Rep (List.range m) w62 (kidsD y.kids) (.slice ay y.kids.length cy))) ?_ ?_
                · refine ⟨_, ?_, Lib.hid hr62⟩
                  (first | (simp; done) | omega | fail)
                rintro ⟨m, hm, RY⟩)
             | (refine cut (A := ∃ m, w61.heap.size ≤ m ∧ Hid (Rep (List.range m) w62 (kidsD y.kids) (.slice ay y.kids.length cy))) ?_ ?_
                · refine ⟨_, ?_, Lib.hid hr62⟩
                  (first | (simp; done) | omega | fail)
                rintro ⟨m, hm, RY⟩)
             first
             | (have ZN := Lib.hid (ZB.out.keep (Keep.then (Keep.of0 (by repeat (first | with_reducible exact Keep.refl _ _ | with_reducible refine Keep.drew ?_ | with_reducible refine Keep.alloc ?_ _ | exact Keep.refl _ _ | fail))) hk') (by have := ZB.out.lt; simp; omega)); clear ZB; have ZB := ZN; clear ZN)
             | (refine cut (A := Hid (Blk w62 (w61.heap.size) #[.int .i64 0, .int .i64 0, .slice none 0 0] 55)) ?_ ?_
                · (refine Lib.hid (Blk.keep ?_ hk' (by simp; omega)))
                  (repeat (first | with_reducible refine Blk.drew ?_ | ((with_reducible refine Blk.new ?_) <;> (first | (simp; done) | fail)) | with_reducible refine Blk.alloc ?_ _ | fail))
                intro ZB)
             | skip
             first
             | (have zl := ZB.out.lt)
             | skip
             clear hX hk hk' hy hr62))
        all_goals
          go_wp2_with fail
          go_meet
          first
          | exact ⟨w64.heap.size, y, p62, rfl, X64.out.new _, by omega, TY.out, OT.ofNew (L := .mk 9 (f : Int) ks1) (R := .mk 9 (f : Int) ks2) (y := y) hbl HZ0.out KW4.out RL.out RR.out RY.out KY4.out (by omega) D4.out E4.out (by omega) (by omega)⟩
          | exact ⟨_, y, p62, rfl, X64.out.set (by omega) _ _ _, by omega, TY.out, OT.ofPut (L := .mk 9 (f : Int) ks1) (R := .mk 9 (f : Int) ks2) (y := y) hbl HZ0.out KW4.out RL.out RR.out RY.out KY4.out (by omega) (by omega) D4.out E4.out (by omega) (by omega) (by rw [World.size_alloc]; omega) (by omega) (by omega) ⟨_, _, _, ZB.out⟩⟩
      case rest =>
        obtain ⟨K, y, p', rfl, hX, hp', hy, hot⟩ := hcut
        have X6 := Lib.hid hX
        have OTT := Lib.hid hot
        have TY6 := Lib.hid hy
        have hKl := hot.box.lt
        have hK0 := hot.hK
        rw [World.size_alloc] at hK0
        have cr6 := hX.old cr hbn
        obtain ⟨q6, r6⟩ := hX.cells
        have C6 := Lib.hid (CL.out.keepM hot.keep (by simp; omega))
        have RL6 := Lib.hid ((RL.out.cons hot.hK).keep hot.keep (fun m hm => by simp at hm; subst hm; exact .inl (by simp; omega)))
        have hbm : br ∈ K :: List.range (w.heap.size + 2) := by simp; omega
        clear hX hot hy
        rcases hrs with rfl | rfl
        · obtain ⟨xa, hxa⟩ : ∃ xa, xa = Ex.mk 1 0 [.mk 9 (f : Int) ks1, .mk 1 0 [y, .mk 9 (f : Int) ks2]] := ⟨_, rfl⟩
          have TXA := Lib.hid (show HasTy l (sgs fs) (ps ++ [3, 0, 3]) xa 0 from by rw [← INN.out, hxa]; exact .prim (by omega) TL.out (.prim (by omega) TY6.out TR.out))
          have BS := Lib.hid OTT.out.box
          rw [← hxa] at BS
          have XS := X6
          clear hxa
          have hKs := BS.out.lt
          have hXz := XS.out.size
          obtain ⟨aA, cA, hCA, hRA⟩ := BS.out.c3
          have CA := Lib.hid hCA
          have RA := Lib.hid (show Rep (List.range (w.heap.size + 2)) _ (kidsD xa.kids) (.slice aA xa.kids.length cA) from hRA.sub (fun g hg => .inl (by simp at hg ⊢; omega)))
          clear hRA
          have XC := XS.out.old cr hbn
          obtain ⟨qB, rB⟩ := XS.out.cells
          obtain ⟨cA0, cA1, cA2⟩ := hCA
          go_wp2
          go_region_held3 (fun w' => w'.cell? ⟨w.heap.size, 0, none⟩ = some (.slice da l.length dc) ∧ w'.cell? ⟨w.heap.size, 1, none⟩ = some (.slice (some ⟨bf, of, none⟩) fs.length fc) ∧ w'.cell? ⟨bf, of + f * 5 + 1, none⟩ = some (.int .i64 0) ∧ w'.cell? ⟨K, 0, none⟩ = some (.int .i64 xa.op) ∧ w'.cell? ⟨K, 1, none⟩ = some (.int .i64 xa.num) ∧ w'.cell? ⟨K, 2, none⟩ = some (.slice aA xa.kids.length cA))
            (first | (refine Sx.hold1 (Sx.keep0 XS.out ?_) cr hbn (C3.keep0 CA.out ?_) <;> ((repeat (first | with_reducible exact Keep.refl _ _ | with_reducible refine Keep.drew ?_ | with_reducible refine Keep.alloc ?_ _ | exact Keep.refl _ _ | fail)); done)) | (refine Sx.hold1 (Sx.keep0 X50.out ?_) cr hbn (C3.keep0 CA0.out ?_) <;> ((repeat (first | with_reducible exact Keep.refl _ _ | with_reducible refine Keep.drew ?_ | with_reducible refine Keep.alloc ?_ _ | exact Keep.refl _ _ | fail)); done)) | (refine Sx.hold1 (Sx.keep0 X51.out ?_) cr hbn (C3.keep0 CA1.out ?_) <;> ((repeat (first | with_reducible exact Keep.refl _ _ | with_reducible refine Keep.drew ?_ | with_reducible refine Keep.alloc ?_ _ | exact Keep.refl _ _ | fail)); done)) | (refine Sx.hold1 (Sx.keep0 X99.out ?_) cr hbn (C3.keep0 CA9.out ?_) <;> ((repeat (first | with_reducible exact Keep.refl _ _ | with_reducible refine Keep.drew ?_ | with_reducible refine Keep.alloc ?_ _ | exact Keep.refl _ _ | fail)); done)) | (refine Sx.hold1p X99.out cr hbn CA9.out ?_ ?_ _ _ _ <;> omega) | go_keep)
            (first
            | (go_at_call 58
               have hq := X51.out
               clear hq
               refine (node_sx 8 3 _ [.mk 12 0 [], y, xa] X51.out (by repeat (first | with_reducible exact Keep.refl _ _ | with_reducible refine Keep.drew ?_ | with_reducible refine Keep.alloc ?_ _ | exact Keep.refl _ _ | fail)) (by exact (Rep.keep0 (kids_new3 (x := .mk 12 0 []) (kids0 hc50) RY.out RA1.out (fun g hg => by simp at hg; omega)) (by repeat (first | exact Keep.refl _ _ | refine Keep.drew ?_ | refine Keep.alloc ?_ _ | fail))))).mono ?_
               rintro e w99 ⟨a99, cap99, rfl, hX, hk, hv99⟩
               have X99 := Lib.hid hX
               have V99 := Lib.hid hv99
               have CA9 := Lib.hid (CA1.out.keep0 hk)
               obtain ⟨⟨y0, y1, y2⟩, g0, g1, g2⟩ := hX.out
               clear hX hk hv99)
            | (go_at_call 57
               have hq := X50.out
               clear hq
               refine (gen_sx GA4.out _ ps 0 X50.out (by repeat (first | with_reducible exact Keep.refl _ _ | with_reducible refine Keep.drew ?_ | with_reducible refine Keep.alloc ?_ _ | exact Keep.refl _ _ | fail)) (X50.out.rep0 RP.out) (by simp; omega) (by omega) (by omega) (HRC.out ps) (by rw [show (4 : Int).toNat = 4 from rfl, cst4]; omega)).mono ?_
               rintro e w51 ⟨y, p51, ay, cy, rfl, hy, hX, hk, _, hp51, hr51⟩
               rw [show (4 : Int).toNat = 4 from rfl, cst4] at hp51
               have X51 := Lib.hid hX
               have TY := Lib.hid hy.1
               have s51 := hX.size
               have CA1 := Lib.hid (CA0.out.keepM hk (by simp; omega))
               have RY := Lib.hid (hr51.sub (G' := List.range (w.heap.size + 2)) (range_sub X50.out.size))
               have RA1 := Lib.hid (RA0.out.keep hk (X50.out.rmem (by omega)))
               clear hX hk hy hr51)
            | (go_at_call 61
               refine (variable_sx 0 XS.out (by repeat (first | with_reducible exact Keep.refl _ _ | with_reducible refine Keep.drew ?_ | with_reducible refine Keep.alloc ?_ _ | exact Keep.refl _ _ | fail))).mono ?_
               rintro e w50 ⟨a50, c50, rfl, hX, hk, hr50⟩
               have X50 := Lib.hid hX
               have CA0 := Lib.hid (CA.out.keep0 hk)
               have RA0 := Lib.hid (RA.out.keep0 hk)
               have hc50 := kids_cap hr50
               clear hX hk hr50))
          all_goals
            go_wp2
            refine bodyPost_ret (v := .agg #[.int .i64 8, .int .i64 3, .slice a99 3 cap99]) (by simp [results, Tryd.results43, go_sem, y0, y1, y2]) rfl (X99.out.post (x := .mk 8 3 [.mk 12 0 [], y, xa]) V99.out (ty_match3 HL.out TVA.out TY.out TXA.out) (by omega))
        · obtain ⟨cc0, cc1, cc2⟩ := C6.out
          have hwn : IntKind.i64.wrap ((ps.length : Int) + 2) = (ps.length : Int) + 2 := IntWalk.i64_in _ (by omega)
          go_wp2
          go_region_held3 (fun w' => w'.cell? ⟨w.heap.size, 0, none⟩ = some (.slice da l.length dc) ∧ w'.cell? ⟨w.heap.size, 1, none⟩ = some (.slice (some ⟨bf, of, none⟩) fs.length fc) ∧ w'.cell? ⟨bf, of + f * 5 + 1, none⟩ = some (.int .i64 3) ∧ w'.cell? ⟨w4.heap.size, 0, none⟩ = some (.int .i64 9) ∧ w'.cell? ⟨w4.heap.size, 1, none⟩ = some (.int .i64 (f : Int)) ∧ w'.cell? ⟨w4.heap.size, 2, none⟩ = some (.slice a4 ks1.length c4))
            (first | (refine Sx.hold1 (Sx.keep0 X6.out ?_) cr hbn (C3.keep0 C6.out ?_) <;> ((repeat (first | with_reducible exact Keep.refl _ _ | with_reducible refine Keep.drew ?_ | with_reducible refine Keep.alloc ?_ _ | exact Keep.refl _ _ | fail)); done)) | (refine Sx.hold1 (Sx.keep0 X7.out ?_) cr hbn (C3.keep0 C7.out ?_) <;> ((repeat (first | with_reducible exact Keep.refl _ _ | with_reducible refine Keep.drew ?_ | with_reducible refine Keep.alloc ?_ _ | exact Keep.refl _ _ | fail)); done)) | (refine Sx.hold1 (Sx.keep0 X8.out ?_) cr hbn (C3.keep0 C8.out ?_) <;> ((repeat (first | with_reducible exact Keep.refl _ _ | with_reducible refine Keep.drew ?_ | with_reducible refine Keep.alloc ?_ _ | exact Keep.refl _ _ | fail)); done)) | (refine Sx.hold1 (Sx.keep0 X9.out ?_) cr hbn (C3.keep0 C9.out ?_) <;> ((repeat (first | with_reducible exact Keep.refl _ _ | with_reducible refine Keep.drew ?_ | with_reducible refine Keep.alloc ?_ _ | exact Keep.refl _ _ | fail)); done)) | (refine Sx.hold1 (Sx.keep0 X10.out ?_) cr hbn (C3.keep0 C10.out ?_) <;> ((repeat (first | with_reducible exact Keep.refl _ _ | with_reducible refine Keep.drew ?_ | with_reducible refine Keep.alloc ?_ _ | exact Keep.refl _ _ | fail)); done)) | (refine Sx.hold1p X10.out cr hbn C10.out ?_ ?_ _ _ _ <;> omega) | go_keep)
            (first
            | (go_at_call 58
               have hq := X9.out
               clear hq
               refine (node_ex 6 3 _ 3 3 _).mono ?_
               rintro e w10 ⟨rfl, hk'⟩
               have X10 := Lib.hid (X9.out.keep0 (Keep.then0 (by repeat (first | with_reducible exact Keep.refl _ _ | with_reducible refine Keep.drew ?_ | with_reducible refine Keep.alloc ?_ _ | exact Keep.refl _ _ | fail)) hk'))
               have C10 := Lib.hid (C9.out.keep0 (Keep.then0 (by repeat (first | with_reducible exact Keep.refl _ _ | with_reducible refine Keep.drew ?_ | with_reducible refine Keep.alloc ?_ _ | exact Keep.refl _ _ | fail)) hk'))
               have B10 := Lib.hid (B9.out.keep0 (Keep.then0 (by repeat (first | with_reducible exact Keep.refl _ _ | with_reducible refine Keep.drew ?_ | with_reducible refine Keep.alloc ?_ _ | exact Keep.refl _ _ | fail)) hk'))
               have R10 := Lib.hid (Rep.keep0 (kids_new3 (x := .mk 9 (f : Int) ks1) (z := .mk 12 ((ps.length : Int) + 2) []) RL9.out RY9.out (kids0 hc9) (fun g hg => by simp at hg; omega)) hk')
               have s10 := hk'.size
               try simp at s10
               obtain ⟨_, _, ⟨y0, y1, y2⟩, ⟨g0, g1, g2⟩, _⟩ := B10.out.cells
               clear hk')
            | (go_at_call 61
               have hq := X8.out
               clear hq
               try rw [hwn]
               refine (variable_sx ((ps.length : Int) + 2) X8.out (by repeat (first | with_reducible exact Keep.refl _ _ | with_reducible refine Keep.drew ?_ | with_reducible refine Keep.alloc ?_ _ | exact Keep.refl _ _ | fail))).mono ?_
               rintro e w9 ⟨a9, c9, rfl, hX, hk, hr9⟩
               have X9 := Lib.hid hX
               have s9 := hk.size
               have hc9 := kids_cap hr9
               have C9 := Lib.hid (C8.out.keep0 hk)
               have B9 := Lib.hid (B8.out.keep0 hk)
               have RL9 := Lib.hid (RL8.out.keep0 hk)
               have RY9 := Lib.hid (RY8.out.keep0 hk)
               clear hX hk hr9)
            | (go_at_call 57
               have hq := X7.out
               clear hq
               refine (gen_sx GA4.out _ inn 0 X7.out (by repeat (first | with_reducible exact Keep.refl _ _ | with_reducible refine Keep.drew ?_ | with_reducible refine Keep.alloc ?_ _ | exact Keep.refl _ _ | fail)) RI7.out (by simp; omega) (by omega) (by omega) (HB0.out inn).2.2 (by rw [show (4 : Int).toNat = 4 from rfl, cst4]; omega)).mono ?_
               rintro e w8 ⟨y8, p8, ay8, cy8, rfl, hy, hX, hk, _, hp8, hr8⟩
               rw [show (4 : Int).toNat = 4 from rfl, cst4] at hp8
               have X8 := Lib.hid hX
               have TY8 := Lib.hid hy.1
               have s8 := hk.size
               have C8 := Lib.hid (C7.out.keepM hk (by simp; omega))
               have B8 := Lib.hid (B7.out.keep hk (fun m hm => by simp at hm; subst hm; exact .inl (by simp; omega)) (by simp; omega))
               have RL8 := Lib.hid (RL7.out.keep hk (fun m hm => by simp at hm; subst hm; exact .inl hbm))
               have RY8 := Lib.hid (show Rep (K :: List.range (w.heap.size + 2)) w8 (kidsD y8.kids) (.slice ay8 y8.kids.length cy8) from hr8.sub (fun g hg => .inl (by simp at hg ⊢; omega)))
               clear hX hk hy hr8)
            | (go_at_call 60
               refine (extend_sx _ _ ps [3, 0, 3] X6.out (by repeat (first | with_reducible exact Keep.refl _ _ | with_reducible refine Keep.drew ?_ | with_reducible refine Keep.alloc ?_ _ | exact Keep.refl _ _ | fail)) (by exact (X6.out.rep0 RP.out).keep0 (by repeat (first | with_reducible exact Keep.refl _ _ | with_reducible refine Keep.drew ?_ | with_reducible refine Keep.alloc ?_ _ | exact Keep.refl _ _ | fail))) (by (repeat (first | with_reducible refine Rep.drew ?_ | ((refine ints_newAt [3, 0, 3] ?_ ?_ (by simp)) <;> (first | (simp; done) | (intro g hg; have := X6.out.c0.hG g hg; (try simp); omega) | fail)) | with_reducible refine Rep.alloc ?_ _ | fail))) (by omega) (by simp)).mono ?_
               rintro e w7 ⟨ia, ic, rfl, hX, hk, hr7⟩
               rw [← INN.out] at hr7
               rw [← INN.out]
               have X7 := Lib.hid hX
               have RI7 := Lib.hid hr7
               have s7 := hk.size
               have C7 := Lib.hid (C6.out.keep0 hk)
               have B7 := Lib.hid (OTT.out.box.keep0 hk)
               have RL7 := Lib.hid (RL6.out.keep0 hk)
               clear hX hk hr7))
          all_goals
            have XS := Lib.hid (X10.out.set (j := K) (by omega) (.int .i64 6) (.int .i64 3) (.slice (some ⟨w9.heap.size, 0, none⟩) 3 3))
            obtain ⟨xa, hxa⟩ : ∃ xa, xa = Ex.mk 6 3 [.mk 9 (f : Int) ks1, y8, .mk 12 ((ps.length : Int) + 2) []] := ⟨_, rfl⟩
            have TXA := Lib.hid (show HasTy l (sgs fs) (ps ++ [3, 0, 3]) xa 3 from by rw [← INN.out, hxa]; exact ty_tree HL.out TL.out TY8.out TN2.out)
            have BS := Lib.hid (show Bx (K :: List.range (w.heap.size + 2)) (put3 w10 K (.int .i64 6) (.int .i64 3) (.slice (some ⟨w9.heap.size, 0, none⟩) 3 3)) K xa from by rw [hxa]; exact B10.out.setB (x := .mk 6 3 [.mk 9 (f : Int) ks1, y8, .mk 12 ((ps.length : Int) + 2) []]) (by simp) R10.out)
            clear hwn hxa q6 r6 cr6 cc0 cc1 cc2 y0 y1 y2 g0 g1 g2
            have hKs := BS.out.lt
            have hXz := XS.out.size
            obtain ⟨aA, cA, hCA, hRA⟩ := BS.out.c3
            have CA := Lib.hid hCA
            have RA := Lib.hid (show Rep (List.range (w.heap.size + 2)) _ (kidsD xa.kids) (.slice aA xa.kids.length cA) from hRA.sub (fun g hg => .inl (by simp at hg ⊢; omega)))
            clear hRA
            have XC := XS.out.old cr hbn
            obtain ⟨qB, rB⟩ := XS.out.cells
            obtain ⟨cA0, cA1, cA2⟩ := hCA
            go_wp2
            go_region_held3 (fun w' => w'.cell? ⟨w.heap.size, 0, none⟩ = some (.slice da l.length dc) ∧ w'.cell? ⟨w.heap.size, 1, none⟩ = some (.slice (some ⟨bf, of, none⟩) fs.length fc) ∧ w'.cell? ⟨bf, of + f * 5 + 1, none⟩ = some (.int .i64 3) ∧ w'.cell? ⟨K, 0, none⟩ = some (.int .i64 xa.op) ∧ w'.cell? ⟨K, 1, none⟩ = some (.int .i64 xa.num) ∧ w'.cell? ⟨K, 2, none⟩ = some (.slice aA xa.kids.length cA))
              (first | (refine Sx.hold1 (Sx.keep0 XS.out ?_) cr hbn (C3.keep0 CA.out ?_) <;> ((repeat (first | with_reducible exact Keep.refl _ _ | with_reducible refine Keep.drew ?_ | with_reducible refine Keep.alloc ?_ _ | exact Keep.refl _ _ | fail)); done)) | (refine Sx.hold1 (Sx.keep0 X50.out ?_) cr hbn (C3.keep0 CA0.out ?_) <;> ((repeat (first | with_reducible exact Keep.refl _ _ | with_reducible refine Keep.drew ?_ | with_reducible refine Keep.alloc ?_ _ | exact Keep.refl _ _ | fail)); done)) | (refine Sx.hold1 (Sx.keep0 X51.out ?_) cr hbn (C3.keep0 CA1.out ?_) <;> ((repeat (first | with_reducible exact Keep.refl _ _ | with_reducible refine Keep.drew ?_ | with_reducible refine Keep.alloc ?_ _ | exact Keep.refl _ _ | fail)); done)) | (refine Sx.hold1 (Sx.keep0 X99.out ?_) cr hbn (C3.keep0 CA9.out ?_) <;> ((repeat (first | with_reducible exact Keep.refl _ _ | with_reducible refine Keep.drew ?_ | with_reducible refine Keep.alloc ?_ _ | exact Keep.refl _ _ | fail)); done)) | (refine Sx.hold1p X99.out cr hbn CA9.out ?_ ?_ _ _ _ <;> omega) | go_keep)
              (first
              | (go_at_call 58
                 have hq := X51.out
                 clear hq
                 refine (node_sx 8 3 _ [.mk 12 0 [], y, xa] X51.out (by repeat (first | with_reducible exact Keep.refl _ _ | with_reducible refine Keep.drew ?_ | with_reducible refine Keep.alloc ?_ _ | exact Keep.refl _ _ | fail)) (by exact (Rep.keep0 (kids_new3 (x := .mk 12 0 []) (kids0 hc50) RY.out RA1.out (fun g hg => by simp at hg; omega)) (by repeat (first | exact Keep.refl _ _ | refine Keep.drew ?_ | refine Keep.alloc ?_ _ | fail))))).mono ?_
                 rintro e w99 ⟨a99, cap99, rfl, hX, hk, hv99⟩
                 have X99 := Lib.hid hX
                 have V99 := Lib.hid hv99
                 have CA9 := Lib.hid (CA1.out.keep0 hk)
                 obtain ⟨⟨y0, y1, y2⟩, g0, g1, g2⟩ := hX.out
                 clear hX hk hv99)
              | (go_at_call 57
                 have hq := X50.out
                 clear hq
                 refine (gen_sx GA4.out _ ps 3 X50.out (by repeat (first | with_reducible exact Keep.refl _ _ | with_reducible refine Keep.drew ?_ | with_reducible refine Keep.alloc ?_ _ | exact Keep.refl _ _ | fail)) (X50.out.rep0 RP.out) (by simp; omega) (by omega) (by omega) (HRC.out ps) (by rw [show (4 : Int).toNat = 4 from rfl, cst4]; omega)).mono ?_
                 rintro e w51 ⟨y, p51, ay, cy, rfl, hy, hX, hk, _, hp51, hr51⟩
                 rw [show (4 : Int).toNat = 4 from rfl, cst4] at hp51
                 have X51 := Lib.hid hX
                 have TY := Lib.hid hy.1
                 have s51 := hX.size
                 have CA1 := Lib.hid (CA0.out.keepM hk (by simp; omega))
                 have RY := Lib.hid (hr51.sub (G' := List.range (w.heap.size + 2)) (range_sub X50.out.size))
                 have RA1 := Lib.hid (RA0.out.keep hk (X50.out.rmem (by omega)))
                 clear hX hk hy hr51)
              | (go_at_call 61
                 refine (variable_sx 0 XS.out (by repeat (first | with_reducible exact Keep.refl _ _ | with_reducible refine Keep.drew ?_ | with_reducible refine Keep.alloc ?_ _ | exact Keep.refl _ _ | fail))).mono ?_
                 rintro e w50 ⟨a50, c50, rfl, hX, hk, hr50⟩
                 have X50 := Lib.hid hX
                 have CA0 := Lib.hid (CA.out.keep0 hk)
                 have RA0 := Lib.hid (RA.out.keep0 hk)
                 have hc50 := kids_cap hr50
                 clear hX hk hr50))
            all_goals
              go_wp2
              refine bodyPost_ret (v := .agg #[.int .i64 8, .int .i64 3, .slice a99 3 cap99]) (by simp [results, Tryd.results43, go_sem, y0, y1, y2]) rfl (X99.out.post (x := .mk 8 3 [.mk 12 0 [], y, xa]) V99.out (ty_match3 HL.out TVA.out TY.out TXA.out) (by omega))
end Go.Proofs.YtnjincgemmgllaaDoor
