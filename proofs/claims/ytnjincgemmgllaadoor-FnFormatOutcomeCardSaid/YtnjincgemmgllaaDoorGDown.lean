/- The walk of the generator's downFrom. -/
import Derived.Test.YtnjincgemmgllaaDoorGKst
namespace Go.Proofs.YtnjincgemmgllaaDoor
open Go.RowKit
attribute [local go_sem ↓] Go.wp_at_zero Go.wp_at_succ

theorem cst3 : cst 3 = 6400 := by decide
theorem cst4 : cst 4 = 25600 := by decide
set_option maxRecDepth 100000 in
set_option maxHeartbeats 8000000 in
theorem downFrom_any {G : List Nat} {B br : Nat} {l : List Dc} {fs : List Fn} {dv fv : Value} {w : World} (hx : Cx G B br l fs dv fv w) (p : Nat) (hr : RdAt B w br p) (hl : GD l) (hs : GS l (sgs fs)) (f : Nat) (ps : List Int) (rs : Int) (hF : FnAt fs f ps rs) (h0 : ∃ tl, ps = 0 :: tl) (hrs : rs = 0 ∨ rs = 1) (hp : p + 40000 ≤ 1125899906842624) :
    Calls Tryd.prog 44 #[.pointer (some ⟨br, 0, none⟩), .agg #[dv, fv], .int .i64 (f : Int)] w (GenK B w br p 40000 (fun x => HasTy l (sgs fs) ps x rs)) := by
  have hn4 : fs.length ≤ 4 := by have := hs.len; rw [sgs_len] at this; omega
  have hn1 : 1 ≤ fs.length := by have := hs.len; rw [sgs_len] at this; omega
  obtain ⟨da, dc, fa, fc, rfl, rfl⟩ := hx.forms
  have X0 := Lib.hid (Sx.start hx hr)
  have hfb := hl.bound
  have HL := Lib.hid hl
  have HS := Lib.hid hs
  have hbr : br ∈ G := hx.hbr
  have hbl := X0.out.brlt
  obtain ⟨bf, of, pa, pc, rfl, hbn, hbf, cp, cr, rp⟩ := hF.cells (br := br) hx.hf hx.hbr
  have RP := Lib.hid rp
  have HF := Lib.hid hF
  have hfl := hF.lt
  have hps : ps.length ≤ 3 := by have h := hs.plen f (by rw [sgs_len]; exact hF.lt); simp only [sgs, List.getElem_map, hF.ps_] at h; exact h
  have HPT := Lib.hid (show ∀ u ∈ ps, 0 ≤ u ∧ u ≤ l.length ∧ canB l (sgs fs) ps u = true from fun u hu => by
    have h1 := hs.ptys f (by rw [sgs_len]; exact hF.lt) u (by simp only [sgs, List.getElem_map, hF.ps_]; exact hu)
    have := hl.len
    exact ⟨by omega, by omega, canB_self hu⟩)
  have hf0 : (0 : Int) ≤ (f : Int) := by omega
  have hf1 : (f : Int) < (fs.length : Int) := by omega
  have hbm2 : br ∈ List.range (w.heap.size + 2) := by simp; omega
  have GA3 := Lib.hid (gen_all hl hs 3 (by omega) (by omega))
  have GA4 := Lib.hid (gen_all hl hs 4 (by omega) (by omega))
  have HB0 := Lib.hid (fun vs => (base_can (sg := sgs fs) hl (u := 0) vs (.inl rfl)))
  have HRC := Lib.hid (show ∀ vs, canB l (sgs fs) vs rs = true from fun vs => (base_can (sg := sgs fs) hl (u := rs) vs (by unfold base; omega)).2.2)
  have hrl : rs ≤ l.length := by have := hl.len; omega
  have V0T := Lib.hid (show HasTy l (sgs fs) ps (.mk 12 0 []) 0 from by
    obtain ⟨tl, e⟩ := h0
    have h := HasTy.var (l := l) (sg := sgs fs) (vars := ps) (i := 0) (by rw [e]; simp)
    simpa [e] using h)
  have H0 := Lib.hid h0
  have hp1 : 1 ≤ ps.length := by obtain ⟨tl, e⟩ := h0; rw [e]; simp
  have cp0 : ((w.alloc (.cells #[.slice da l.length dc, .slice (some ⟨bf, of, none⟩) fs.length fc] 50)).alloc (.cells #[.int .i64 0, .int .i64 0, .slice none 0 0] 55)).cell? ⟨bf, of + f * 5, none⟩ = some (.slice pa ps.length pc) := X0.out.old cp hbn
  have cr0 : ((w.alloc (.cells #[.slice da l.length dc, .slice (some ⟨bf, of, none⟩) fs.length fc] 50)).alloc (.cells #[.int .i64 0, .int .i64 0, .slice none 0 0] 55)).cell? ⟨bf, of + f * 5 + 1, none⟩ = some (.int .i64 rs) := X0.out.old cr hbn
  clear hx hr hl hs hF h0 rp
  go_enter Tryd.func44, Tryd.ntmps44
  go_wp2_with fail
  refine (variable_sx 0 X0.out (by repeat (first | exact Keep.refl _ _ | refine Keep.drew ?_ | refine Keep.alloc ?_ _ | fail))).mono ?_
  rintro e w1 ⟨a1, c1, rfl, hX, hk, hr1⟩
  have X1 := Lib.hid hX
  have hc1 := kids_cap hr1
  clear hX hk hr1 cp0 cr0
  go_wp2_with fail
  refine (integer_sx 1 X1.out (by repeat (first | with_reducible exact Keep.refl _ _ | with_reducible refine Keep.drew ?_ | with_reducible refine Keep.alloc ?_ _ | exact Keep.refl _ _ | fail))).mono ?_
  rintro e w2 ⟨a2, c2, rfl, hX, hk, hr2⟩
  have X2 := Lib.hid hX
  have hc2 := kids_cap hr2
  have s2 := hX.size
  clear hX hk hr2
  go_wp2_with fail
  refine (node_ex 2 0 _ 2 2 _).mono ?_
  rintro e w3 ⟨rfl, hk'⟩
  have X3 := Lib.hid (X2.out.keep0 (Keep.then0 (by repeat (first | with_reducible exact Keep.refl _ _ | with_reducible refine Keep.drew ?_ | with_reducible refine Keep.alloc ?_ _ | exact Keep.refl _ _ | fail)) hk'))
  have s3 := hk'.size
  simp at s3
  have HO5 := Lib.hid (KSt.start1 (br := br) (n0 := w2.heap.size) (w0 := w2) (x := .mk 2 0 [.mk 12 0 [], .mk 0 1 []]) (Keep.of0 (Keep.then0 (by repeat (first | with_reducible exact Keep.refl _ _ | with_reducible refine Keep.drew ?_ | with_reducible refine Keep.alloc ?_ _ | exact Keep.refl _ _ | fail)) hk')) rfl (Rep.keep0 (kids_new2 (x := .mk 12 0 []) (y := .mk 0 1 []) (kids0 hc1) (kids0 hc2) (fun g hg => by simp at hg; omega)) hk'))
  have TA0 := Lib.hid (show KidsAt (fun t x => HasTy l (sgs fs) ps x t) ps 1 [.mk 2 0 [.mk 12 0 [], .mk 0 1 []]] from by
    obtain ⟨tl, e⟩ := H0.out
    exact (KidsAt.nil _ _).snoc (by omega) (by simpa [e] using HasTy.prim (l := l) (sg := sgs fs) (vars := ps) (op := 2) (by omega) V0T.out (.int (by omega) (by omega))))
  clear hk'
  go_wp2
  go_loopw [8, 9] (fun s i' wr => ∃ (k p' : Nat) (ks : List Ex), 1 ≤ k ∧ k ≤ ps.length ∧ i' = .int .i64 k ∧ KidsAt (fun t x => HasTy l (sgs fs) ps x t) ps k ks ∧ KSt br w2.heap.size w2 wr s ks ∧ Sx G B br l fs da dc (some ⟨bf, of, none⟩) fc w wr p' ∧ p' ≤ p + 50 * k) (fun _ i' _ => ps.length - (intOf i').toNat)
  case atStart => exact ⟨1, p, _, by omega, hp1, rfl, TA0.out, HO5.out, X3.out.new _, by omega⟩
  case round =>
    obtain ⟨k, p', ks, hk1, hk, rfl, hks, ho, hX, hp'⟩ := hrel
    have HKS := Lib.hid hks
    have HO := Lib.hid ho
    have X5 := Lib.hid hX
    have sz := ho.keep.size
    obtain ⟨q5, r5⟩ := hX.cells
    have cr5 := hX.old cr hbn
    clear hks ho hX
    by_cases hlt : k < ps.length
    · obtain ⟨bp, op, rfl, hbG, hbp, hcl⟩ := ints_at RP.out hlt
      have hbpn : bp ≠ br := fun e => hbG (e ▸ hbr)
      have HPK := Lib.hid (HPT.out _ (List.getElem_mem hlt))
      have k0 : (0 : Int) ≤ (k : Int) := by omega
      have k1 : (k : Int) < (ps.length : Int) := by omega
      clear hbG
      go_wp2
      go_region_held3 (fun w' => w'.cell? ⟨w.heap.size, 0, none⟩ = some (.slice da l.length dc) ∧ w'.cell? ⟨w.heap.size, 1, none⟩ = some (.slice (some ⟨bf, of, none⟩) fs.length fc) ∧ w'.cell? ⟨bp, op + k, none⟩ = some (.int .i64 ps[k]))
        (first | (refine Sx.hold (Sx.keep0 X5.out ?_) hcl hbpn; (repeat (first | with_reducible exact Keep.refl _ _ | with_reducible refine Keep.drew ?_ | with_reducible refine Keep.alloc ?_ _ | exact Keep.refl _ _ | fail)); done) | (refine Sx.hold (Sx.keep0 X6.out ?_) hcl hbpn; (repeat (first | with_reducible exact Keep.refl _ _ | with_reducible refine Keep.drew ?_ | with_reducible refine Keep.alloc ?_ _ | exact Keep.refl _ _ | fail)); done) | (refine Sx.hold (Sx.keep0 X7.out ?_) hcl hbpn; (repeat (first | with_reducible exact Keep.refl _ _ | with_reducible refine Keep.drew ?_ | with_reducible refine Keep.alloc ?_ _ | exact Keep.refl _ _ | fail)); done) | go_keep)
        (first
        | (go_at_call 62
           refine (leaf_sx HL.out HS.out _ ps ps[k] X5.out (by repeat (first | with_reducible exact Keep.refl _ _ | with_reducible refine Keep.drew ?_ | with_reducible refine Keep.alloc ?_ _ | exact Keep.refl _ _ | fail)) (X5.out.rep0 RP.out) (by omega) HPK.out.1 HPK.out.2.1 HPK.out.2.2 (by omega)).mono ?_
           rintro e w6 ⟨y, p6, ay, cy, rfl, hy, hX, hk, _, hp6, hr6⟩
           have X6 := Lib.hid hX
           have TY := Lib.hid hy.1
           have HK6 := Lib.hid hk
           have R6 := Lib.hid hr6
           clear hX hk hy hr6)
        | (refine step_kst rfl _ _ rfl y HO.out (by omega) HK6.out rfl rfl R6.out (by have := HKS.out.1; omega) ?_
           intro v' w' ho hkw hob
           have HO7 := Lib.hid ho
           have X7 := Lib.hid (X6.out.wr hkw (fun m hm => by have := hob m hm; omega))
           clear ho hkw hob))
      all_goals
        go_wp2
        go_roundw
        case rel => exact ⟨k + 1, p6, _, by omega, by omega, by go_num, HKS.out.snoc hlt TY.out, HO7.out, X7.out, by omega⟩
        case measure => simp [intOf]; omega
    · have hke : k = ps.length := by omega
      subst hke
      have TC := Lib.hid (HF.out.call HKS.out)
      go_wp2_with fail
      refine (node_sx 9 (f : Int) _ ks X5.out (by repeat (first | with_reducible exact Keep.refl _ _ | with_reducible refine Keep.drew ?_ | with_reducible refine Keep.alloc ?_ _ | exact Keep.refl _ _ | fail)) (HO.out.own.rep.sub (range_sub s2))).mono ?_
      rintro e w4 ⟨a4, c4, rfl, hX, hk, hr4⟩
      have X4 := Lib.hid (hX.new (.cells #[.int .i64 9, .int .i64 (f : Int), .slice a4 ks.length c4] 55))
      have B4 := Lib.hid (Bx.new (x := .mk 9 (f : Int) ks) hr4)
      have R4 := Lib.hid (Rep.other_new hr4 (.cells #[.int .i64 9, .int .i64 (f : Int), .slice a4 ks.length c4] 55))
      have s4 := hX.size
      have cr4 : (w4.alloc (.cells #[.int .i64 9, .int .i64 (f : Int), .slice a4 ks.length c4] 55)).cell? ⟨bf, of + f * 5 + 1, none⟩ = some (.int .i64 rs) := X4.out.old cr hbn
      obtain ⟨q4, r4⟩ := X4.out.cells
      clear hX hk hr4 q5 r5 cr5
      rcases hrs with rfl | rfl
      · obtain ⟨xa, hxa⟩ : ∃ xa, xa = Ex.mk 9 (f : Int) ks := ⟨_, rfl⟩
        have TXA := Lib.hid (show HasTy l (sgs fs) ps xa 0 from hxa ▸ TC.out)
        have XS := X4
        have BS := Lib.hid (show Bx (w4.heap.size :: List.range (w.heap.size + 2)) (w4.alloc (.cells #[.int .i64 9, .int .i64 (f : Int), .slice a4 ks.length c4] 55)) w4.heap.size xa from by rw [hxa]; exact B4.out)
        clear hxa
        have hKs := BS.out.lt
        have hXz := XS.out.size
        go_wp2_with fail
        refine (integer_sx 0 XS.out (by repeat (first | with_reducible exact Keep.refl _ _ | with_reducible refine Keep.drew ?_ | with_reducible refine Keep.alloc ?_ _ | exact Keep.refl _ _ | fail))).mono ?_
        rintro e v1 ⟨a71, c71, rfl, hX, hk, hr71⟩
        have X7 := Lib.hid hX
        have B7 := Lib.hid (BS.out.keep0 hk)
        have hc71 := kids_cap hr71
        clear hX hk hr71 q4 r4 cr4
        go_wp2_with fail
        refine (variable_sx 0 X7.out (by repeat (first | with_reducible exact Keep.refl _ _ | with_reducible refine Keep.drew ?_ | with_reducible refine Keep.alloc ?_ _ | exact Keep.refl _ _ | fail))).mono ?_
        rintro e v2 ⟨a72, c72, rfl, hX, hk, hr72⟩
        have X8 := Lib.hid hX
        have B8 := Lib.hid (B7.out.keep0 hk)
        have hc72 := kids_cap hr72
        have h8 := hX.size
        have h8k := B8.out.lt
        clear hX hk hr72
        go_wp2_with fail
        refine (node_ex 4 0 _ 2 2 _).mono ?_
        rintro e v3 ⟨rfl, hk'⟩
        have X9 := Lib.hid (X8.out.keep0 (Keep.then0 (by repeat (first | with_reducible exact Keep.refl _ _ | with_reducible refine Keep.drew ?_ | with_reducible refine Keep.alloc ?_ _ | exact Keep.refl _ _ | fail)) hk'))
        have B9 := Lib.hid (B8.out.keep0 (Keep.then0 (by repeat (first | with_reducible exact Keep.refl _ _ | with_reducible refine Keep.drew ?_ | with_reducible refine Keep.alloc ?_ _ | exact Keep.refl _ _ | fail)) hk'))
        have R9 := Lib.hid (show Rep (List.range (w.heap.size + 2)) v3 (kidsD [.mk 0 0 [], .mk 12 0 []]) (.slice (some ⟨v2.heap.size, 0, none⟩) 2 2) from Rep.keep0 (kids_new2 (x := .mk 0 0 []) (y := .mk 12 0 []) (kids0 hc71) (kids0 hc72) (fun g hg => by simp at hg; omega)) hk')
        have s9 := hk'.size
        simp at s9
        have CT := Lib.hid (show C3 (v3.alloc (.cells #[.int .i64 4, .int .i64 0, .slice (some ⟨v2.heap.size, 0, none⟩) 2 2] 55)) v3.heap.size (.int .i64 4) (.int .i64 0) (.slice (some ⟨v2.heap.size, 0, none⟩) 2 2) from (blk3 (heap_alloc_new v3 _)).1)
        have XB := Lib.hid (X9.out.new (.cells #[.int .i64 4, .int .i64 0, .slice (some ⟨v2.heap.size, 0, none⟩) 2 2] 55))
        have RT9 := Lib.hid (R9.out.alloc (.cells #[.int .i64 4, .int .i64 0, .slice (some ⟨v2.heap.size, 0, none⟩) 2 2] 55))
        obtain ⟨aA, cA, hCA, hRA⟩ := (B9.out.alloc (.cells #[.int .i64 4, .int .i64 0, .slice (some ⟨v2.heap.size, 0, none⟩) 2 2] 55)).c3
        have CA := Lib.hid hCA
        have RA := Lib.hid (show Rep (List.range (w.heap.size + 2)) _ (kidsD xa.kids) (.slice aA xa.kids.length cA) from hRA.tail)
        have T9 := Lib.hid (show HasTy l (sgs fs) ps (.mk 4 0 [.mk 0 0 [], .mk 12 0 []]) 0 from .prim (by omega) (.int (by omega) (by omega)) V0T.out)
        clear hk' hCA hRA
        have XC := XB.out.old cr hbn
        obtain ⟨qB, rB⟩ := XB.out.cells
        obtain ⟨cA0, cA1, cA2⟩ := CA.out
        obtain ⟨cT0, cT1, cT2⟩ := CT.out
        go_wp2
        go_region_held3 (fun w' => w'.cell? ⟨w.heap.size, 0, none⟩ = some (.slice da l.length dc) ∧ w'.cell? ⟨w.heap.size, 1, none⟩ = some (.slice (some ⟨bf, of, none⟩) fs.length fc) ∧ w'.cell? ⟨bf, of + f * 5 + 1, none⟩ = some (.int .i64 0) ∧ w'.cell? ⟨w4.heap.size, 0, none⟩ = some (.int .i64 xa.op) ∧ w'.cell? ⟨w4.heap.size, 1, none⟩ = some (.int .i64 xa.num) ∧ w'.cell? ⟨w4.heap.size, 2, none⟩ = some (.slice aA xa.kids.length cA) ∧ w'.cell? ⟨v3.heap.size, 0, none⟩ = some (.int .i64 4) ∧ w'.cell? ⟨v3.heap.size, 1, none⟩ = some (.int .i64 0) ∧ w'.cell? ⟨v3.heap.size, 2, none⟩ = some (.slice (some ⟨v2.heap.size, 0, none⟩) 2 2))
          (first | (refine Sx.hold2 (Sx.keep0 XB.out ?_) cr hbn (C3.keep0 CA.out ?_) (C3.keep0 CT.out ?_) <;> ((repeat (first | with_reducible exact Keep.refl _ _ | with_reducible refine Keep.drew ?_ | with_reducible refine Keep.alloc ?_ _ | exact Keep.refl _ _ | fail)); done)) | (refine Sx.hold2 (Sx.keep0 X51.out ?_) cr hbn (C3.keep0 CA1.out ?_) (C3.keep0 CT1.out ?_) <;> ((repeat (first | with_reducible exact Keep.refl _ _ | with_reducible refine Keep.drew ?_ | with_reducible refine Keep.alloc ?_ _ | exact Keep.refl _ _ | fail)); done)) | (refine Sx.hold2 (Sx.keep0 X99.out ?_) cr hbn (C3.keep0 CA9.out ?_) (C3.keep0 CT9.out ?_) <;> ((repeat (first | with_reducible exact Keep.refl _ _ | with_reducible refine Keep.drew ?_ | with_reducible refine Keep.alloc ?_ _ | exact Keep.refl _ _ | fail)); done)) | (refine Sx.hold2p X99.out cr hbn CA9.out CT9.out ?_ ?_ ?_ _ _ _ <;> omega) | go_keep)
          (first
          | (go_at_call 58
             have hq := X51.out
             clear hq
             refine (node_sx 7 0 _ [.mk 4 0 [.mk 0 0 [], .mk 12 0 []], xa, y] X51.out (by repeat (first | with_reducible exact Keep.refl _ _ | with_reducible refine Keep.drew ?_ | with_reducible refine Keep.alloc ?_ _ | exact Keep.refl _ _ | fail)) (by exact (Rep.keep0 (kids_new3 (x := .mk 4 0 [.mk 0 0 [], .mk 12 0 []]) RT1.out RA1.out RY.out (fun g hg => by simp at hg; omega)) (by repeat (first | exact Keep.refl _ _ | refine Keep.drew ?_ | refine Keep.alloc ?_ _ | fail))))).mono ?_
             rintro e w99 ⟨a99, cap99, rfl, hX, hk, hv99⟩
             have X99 := Lib.hid hX
             have V99 := Lib.hid hv99
             have CA9 := Lib.hid (CA1.out.keep0 hk)
             have CT9 := Lib.hid (CT1.out.keep0 hk)
             obtain ⟨⟨y0, y1, y2⟩, g0, g1, g2⟩ := hX.out
             clear hX hk hv99)
          | (go_at_call 57
             refine (gen_sx GA4.out _ ps 0 XB.out (by repeat (first | with_reducible exact Keep.refl _ _ | with_reducible refine Keep.drew ?_ | with_reducible refine Keep.alloc ?_ _ | exact Keep.refl _ _ | fail)) (XB.out.rep0 RP.out) (by simp; omega) (by omega) (by omega) (HRC.out ps) (by rw [show (4 : Int).toNat = 4 from rfl, cst4]; omega)).mono ?_
             rintro e w51 ⟨y, p51, ay, cy, rfl, hy, hX, hk, _, hp51, hr51⟩
             rw [show (4 : Int).toNat = 4 from rfl, cst4] at hp51
             have X51 := Lib.hid hX
             have TY := Lib.hid hy.1
             have s51 := hX.size
             have CA1 := Lib.hid (CA.out.keepM hk (by simp; omega))
             have CT1 := Lib.hid (CT.out.keepM hk (by simp; omega))
             have RY := Lib.hid (hr51.sub (G' := List.range (w.heap.size + 2)) (range_sub XB.out.size))
             have RA1 := Lib.hid (RA.out.keep hk (XB.out.rmem (by omega)))
             have RT1 := Lib.hid (RT9.out.keep hk (XB.out.rmem (by omega)))
             clear hX hk hy hr51))
        all_goals
          go_wp2
          refine bodyPost_ret (v := .agg #[.int .i64 7, .int .i64 0, .slice a99 3 cap99]) (by simp [results, Tryd.results44, go_sem, y0, y1, y2]) rfl (X99.out.post (x := .mk 7 0 [.mk 4 0 [.mk 0 0 [], .mk 12 0 []], xa, y]) V99.out (HasTy.iff T9.out TXA.out TY.out) (by omega))
      · have hbm : br ∈ w4.heap.size :: List.range (w.heap.size + 2) := by simp; omega
        obtain ⟨⟨z0, z1, z2⟩, f0, f1, f2⟩ := blk3 (heap_alloc_new w4 (.cells #[.int .i64 9, .int .i64 (f : Int), .slice a4 ks.length c4] 55))
        go_wp2
        go_region_with (first
          | (go_at_call 58
             have hq := X6.out
             clear hq
             refine (node_ex 6 1 _ 2 2 _).mono ?_
             rintro e w7 ⟨rfl, hk'⟩
             have X7 := Lib.hid (X6.out.keep0 (Keep.then0 (by repeat (first | with_reducible exact Keep.refl _ _ | with_reducible refine Keep.drew ?_ | with_reducible refine Keep.alloc ?_ _ | exact Keep.refl _ _ | fail)) hk'))
             have B7 := Lib.hid (B6.out.keep0 (Keep.then0 (by repeat (first | with_reducible exact Keep.refl _ _ | with_reducible refine Keep.drew ?_ | with_reducible refine Keep.alloc ?_ _ | exact Keep.refl _ _ | fail)) hk'))
             have R7 := Lib.hid (Rep.keep0 (kids_new2 (y := .mk 9 (f : Int) ks) RY.out R6.out (fun g hg => by simp at hg; omega)) hk')
             have s7 := hk'.size
             simp at s7
             obtain ⟨_, _, ⟨y0, y1, y2⟩, ⟨g0, g1, g2⟩, _⟩ := B7.out.cells
             clear hk')
          | (go_at_call 57
             refine (gen_sx GA3.out _ ps 0 X4.out (by repeat (first | with_reducible exact Keep.refl _ _ | with_reducible refine Keep.drew ?_ | with_reducible refine Keep.alloc ?_ _ | exact Keep.refl _ _ | fail)) (X4.out.rep0 RP.out) (by simp; omega) (by omega) (by omega) (HB0.out ps).2.2 (by rw [show (3 : Int).toNat = 3 from rfl, cst3]; omega)).mono ?_
             rintro e w6 ⟨y, p6, ay, cy, rfl, hy, hX, hk, _, hp6, hr6⟩
             rw [show (3 : Int).toNat = 3 from rfl, cst3] at hp6
             have X6 := Lib.hid hX
             have TY := Lib.hid hy.1
             have s6 := hk.size
             simp at s6
             have B6 := Lib.hid (B4.out.call X4.out hk hbm (by omega))
             have RY := Lib.hid (show Rep (w4.heap.size :: List.range (w.heap.size + 2)) w6 (kidsD y.kids) (.slice ay y.kids.length cy) from hr6.sub (fun g hg => .inl (by simp at hg ⊢; omega)))
             have j0 := hk.cellEq z0 (by simp; omega)
             have j1 := hk.cellEq z1 (by simp; omega)
             have j2 := hk.cellEq z2 (by simp; omega)
             have R6 := Lib.hid (Rep.keep R4.out hk (fun m hm => by simp at hm; subst hm; exact .inl hbm))
             clear hX hk hy hr6))
        all_goals
          obtain ⟨xa, hxa⟩ : ∃ xa, xa = Ex.mk 6 1 [y, .mk 9 (f : Int) ks] := ⟨_, rfl⟩
          have TXA := Lib.hid (show HasTy l (sgs fs) ps xa 1 from hxa ▸ ty_cons HL.out TY.out TC.out)
          have XS := Lib.hid (X7.out.set (j := w4.heap.size) (by omega) (.int .i64 6) (.int .i64 1) (.slice (some ⟨w6.heap.size, 0, none⟩) 2 2))
          have BS := Lib.hid (show Bx (w4.heap.size :: List.range (w.heap.size + 2)) (put3 w7 w4.heap.size (.int .i64 6) (.int .i64 1) (.slice (some ⟨w6.heap.size, 0, none⟩) 2 2)) w4.heap.size xa from by rw [hxa]; exact B7.out.set (x := .mk 6 1 [y, .mk 9 (f : Int) ks]) (by simp) R7.out)
          clear hxa q4 r4 cr4 z0 z1 z2 f0 f1 f2 j0 j1 j2 y0 y1 y2 g0 g1 g2
          have hKs := BS.out.lt
          have hXz := XS.out.size
          go_wp2_with fail
          refine (integer_sx 0 XS.out (by repeat (first | with_reducible exact Keep.refl _ _ | with_reducible refine Keep.drew ?_ | with_reducible refine Keep.alloc ?_ _ | exact Keep.refl _ _ | fail))).mono ?_
          rintro e v1 ⟨a71, c71, rfl, hX, hk, hr71⟩
          have X7 := Lib.hid hX
          have B7 := Lib.hid (BS.out.keep0 hk)
          have hc71 := kids_cap hr71
          clear hX hk hr71 
          go_wp2_with fail
          refine (variable_sx 0 X7.out (by repeat (first | with_reducible exact Keep.refl _ _ | with_reducible refine Keep.drew ?_ | with_reducible refine Keep.alloc ?_ _ | exact Keep.refl _ _ | fail))).mono ?_
          rintro e v2 ⟨a72, c72, rfl, hX, hk, hr72⟩
          have X8 := Lib.hid hX
          have B8 := Lib.hid (B7.out.keep0 hk)
          have hc72 := kids_cap hr72
          have h8 := hX.size
          have h8k := B8.out.lt
          clear hX hk hr72
          go_wp2_with fail
          refine (node_ex 4 0 _ 2 2 _).mono ?_
          rintro e v3 ⟨rfl, hk'⟩
          have X9 := Lib.hid (X8.out.keep0 (Keep.then0 (by repeat (first | with_reducible exact Keep.refl _ _ | with_reducible refine Keep.drew ?_ | with_reducible refine Keep.alloc ?_ _ | exact Keep.refl _ _ | fail)) hk'))
          have B9 := Lib.hid (B8.out.keep0 (Keep.then0 (by repeat (first | with_reducible exact Keep.refl _ _ | with_reducible refine Keep.drew ?_ | with_reducible refine Keep.alloc ?_ _ | exact Keep.refl _ _ | fail)) hk'))
          have R9 := Lib.hid (show Rep (List.range (w.heap.size + 2)) v3 (kidsD [.mk 0 0 [], .mk 12 0 []]) (.slice (some ⟨v2.heap.size, 0, none⟩) 2 2) from Rep.keep0 (kids_new2 (x := .mk 0 0 []) (y := .mk 12 0 []) (kids0 hc71) (kids0 hc72) (fun g hg => by simp at hg; omega)) hk')
          have s9 := hk'.size
          simp at s9
          have CT := Lib.hid (show C3 (v3.alloc (.cells #[.int .i64 4, .int .i64 0, .slice (some ⟨v2.heap.size, 0, none⟩) 2 2] 55)) v3.heap.size (.int .i64 4) (.int .i64 0) (.slice (some ⟨v2.heap.size, 0, none⟩) 2 2) from (blk3 (heap_alloc_new v3 _)).1)
          have XB := Lib.hid (X9.out.new (.cells #[.int .i64 4, .int .i64 0, .slice (some ⟨v2.heap.size, 0, none⟩) 2 2] 55))
          have RT9 := Lib.hid (R9.out.alloc (.cells #[.int .i64 4, .int .i64 0, .slice (some ⟨v2.heap.size, 0, none⟩) 2 2] 55))
          obtain ⟨aA, cA, hCA, hRA⟩ := (B9.out.alloc (.cells #[.int .i64 4, .int .i64 0, .slice (some ⟨v2.heap.size, 0, none⟩) 2 2] 55)).c3
          have CA := Lib.hid hCA
          have RA := Lib.hid (show Rep (List.range (w.heap.size + 2)) _ (kidsD xa.kids) (.slice aA xa.kids.length cA) from hRA.tail)
          have T9 := Lib.hid (show HasTy l (sgs fs) ps (.mk 4 0 [.mk 0 0 [], .mk 12 0 []]) 0 from .prim (by omega) (.int (by omega) (by omega)) V0T.out)
          clear hk' hCA hRA
          have XC := XB.out.old cr hbn
          obtain ⟨qB, rB⟩ := XB.out.cells
          obtain ⟨cA0, cA1, cA2⟩ := CA.out
          obtain ⟨cT0, cT1, cT2⟩ := CT.out
          go_wp2
          go_region_held3 (fun w' => w'.cell? ⟨w.heap.size, 0, none⟩ = some (.slice da l.length dc) ∧ w'.cell? ⟨w.heap.size, 1, none⟩ = some (.slice (some ⟨bf, of, none⟩) fs.length fc) ∧ w'.cell? ⟨bf, of + f * 5 + 1, none⟩ = some (.int .i64 1) ∧ w'.cell? ⟨w4.heap.size, 0, none⟩ = some (.int .i64 xa.op) ∧ w'.cell? ⟨w4.heap.size, 1, none⟩ = some (.int .i64 xa.num) ∧ w'.cell? ⟨w4.heap.size, 2, none⟩ = some (.slice aA xa.kids.length cA) ∧ w'.cell? ⟨v3.heap.size, 0, none⟩ = some (.int .i64 4) ∧ w'.cell? ⟨v3.heap.size, 1, none⟩ = some (.int .i64 0) ∧ w'.cell? ⟨v3.heap.size, 2, none⟩ = some (.slice (some ⟨v2.heap.size, 0, none⟩) 2 2))
            (first | (refine Sx.hold2 (Sx.keep0 XB.out ?_) cr hbn (C3.keep0 CA.out ?_) (C3.keep0 CT.out ?_) <;> ((repeat (first | with_reducible exact Keep.refl _ _ | with_reducible refine Keep.drew ?_ | with_reducible refine Keep.alloc ?_ _ | exact Keep.refl _ _ | fail)); done)) | (refine Sx.hold2 (Sx.keep0 X51.out ?_) cr hbn (C3.keep0 CA1.out ?_) (C3.keep0 CT1.out ?_) <;> ((repeat (first | with_reducible exact Keep.refl _ _ | with_reducible refine Keep.drew ?_ | with_reducible refine Keep.alloc ?_ _ | exact Keep.refl _ _ | fail)); done)) | (refine Sx.hold2 (Sx.keep0 X99.out ?_) cr hbn (C3.keep0 CA9.out ?_) (C3.keep0 CT9.out ?_) <;> ((repeat (first | with_reducible exact Keep.refl _ _ | with_reducible refine Keep.drew ?_ | with_reducible refine Keep.alloc ?_ _ | exact Keep.refl _ _ | fail)); done)) | (refine Sx.hold2p X99.out cr hbn CA9.out CT9.out ?_ ?_ ?_ _ _ _ <;> omega) | go_keep)
            (first
            | (go_at_call 58
               have hq := X51.out
               clear hq
               refine (node_sx 7 0 _ [.mk 4 0 [.mk 0 0 [], .mk 12 0 []], xa, y] X51.out (by repeat (first | with_reducible exact Keep.refl _ _ | with_reducible refine Keep.drew ?_ | with_reducible refine Keep.alloc ?_ _ | exact Keep.refl _ _ | fail)) (by exact (Rep.keep0 (kids_new3 (x := .mk 4 0 [.mk 0 0 [], .mk 12 0 []]) RT1.out RA1.out RY.out (fun g hg => by simp at hg; omega)) (by repeat (first | exact Keep.refl _ _ | refine Keep.drew ?_ | refine Keep.alloc ?_ _ | fail))))).mono ?_
               rintro e w99 ⟨a99, cap99, rfl, hX, hk, hv99⟩
               have X99 := Lib.hid hX
               have V99 := Lib.hid hv99
               have CA9 := Lib.hid (CA1.out.keep0 hk)
               have CT9 := Lib.hid (CT1.out.keep0 hk)
               obtain ⟨⟨y0, y1, y2⟩, g0, g1, g2⟩ := hX.out
               clear hX hk hv99)
            | (go_at_call 57
               refine (gen_sx GA4.out _ ps 1 XB.out (by repeat (first | with_reducible exact Keep.refl _ _ | with_reducible refine Keep.drew ?_ | with_reducible refine Keep.alloc ?_ _ | exact Keep.refl _ _ | fail)) (XB.out.rep0 RP.out) (by simp; omega) (by omega) (by omega) (HRC.out ps) (by rw [show (4 : Int).toNat = 4 from rfl, cst4]; omega)).mono ?_
               rintro e w51 ⟨y, p51, ay, cy, rfl, hy, hX, hk, _, hp51, hr51⟩
               rw [show (4 : Int).toNat = 4 from rfl, cst4] at hp51
               have X51 := Lib.hid hX
               have TY := Lib.hid hy.1
               have s51 := hX.size
               have CA1 := Lib.hid (CA.out.keepM hk (by simp; omega))
               have CT1 := Lib.hid (CT.out.keepM hk (by simp; omega))
               have RY := Lib.hid (hr51.sub (G' := List.range (w.heap.size + 2)) (range_sub XB.out.size))
               have RA1 := Lib.hid (RA.out.keep hk (XB.out.rmem (by omega)))
               have RT1 := Lib.hid (RT9.out.keep hk (XB.out.rmem (by omega)))
               clear hX hk hy hr51))
          all_goals
            go_wp2
            refine bodyPost_ret (v := .agg #[.int .i64 7, .int .i64 0, .slice a99 3 cap99]) (by simp [results, Tryd.results44, go_sem, y0, y1, y2]) rfl (X99.out.post (x := .mk 7 0 [.mk 4 0 [.mk 0 0 [], .mk 12 0 []], xa, y]) V99.out (HasTy.iff T9.out TXA.out TY.out) (by omega))
end Go.Proofs.YtnjincgemmgllaaDoor
