/- The walk of the evaluation's operate at an application. -/
import Derived.Test.YtnjincgemmgllaaDoorEvD
namespace Go.Proofs.YtnjincgemmgllaaDoor
open Go.RowKit
attribute [local go_sem ↓] Go.wp_at_zero Go.wp_at_succ
set_option maxRecDepth 100000 in
set_option maxHeartbeats 8000000 in
theorem op_apply {l : List Dc} {fs : List Fn} {N : Nat} (hP : Pr l fs) {x y : V} {t : Int} (ih : EvalC l fs N) (ha : isArr l t = true) (hx : VT l (sgs fs) x t) (hy : VT l (sgs fs) y (dat l (t - 1).toNat).fr) : OpC (11) (0) [x, y] l fs ((dat l (t - 1).toNat).to) 1 N := by
  intro be Bd dv fv G w most c o os hep xk vv hvv hos hN
  have HP := Lib.hid hP
  have EP := Lib.hid hep
  have E0 := Lib.hid hep.ev
  have HD := Lib.hid hep.hd
  have HF := Lib.hid hep.hf
  have HG := Lib.hid hep.hG
  have hmm := hep.hm
  have HV := Lib.hid hvv
  have blt := hep.ev.blt
  obtain ⟨da, dc, rfl, _⟩ := decls_form hep.hd
  obtain ⟨fa, fc, rfl, _⟩ := funcs_form hep.hf
  obtain ⟨va, vc, rfl, hvl, hvc⟩ := vals_form hvv
  have CC := Lib.hid (call_of hP ih)
  obtain ⟨f, hfe, hf, hres, hkk⟩ := hx.clos ha
  have HKK := Lib.hid (hkk y hy)
  have hf : f < fs.length := by rw [sgs_len] at hf; exact hf
  have HKK2 := Lib.hid (show VTs l (sgs fs) (x.kids ++ [y]) fs[f].sig.params from by rw [← sgs_at hf]; exact hkk y hy)
  obtain ⟨vs4, hvs4⟩ : ∃ u, u = x.kids ++ [y] := ⟨_, rfl⟩
  have HRES := Lib.hid (show fs[f].sig.result = (dat l (t - 1).toNat).to from by rw [← hres, sgs_at hf])
  clear hkk hres
  clear hP hep hvv hx hy ih ha
  go_enter Tryd.func49, Tryd.ntmps49
  go_upto_region 0 with fail
  go_cut [5, 6, 8] (fun s5 s6 s8 wx => s5 = .pointer (some ⟨w.heap.size, 0, none⟩) ∧ s6 = .pointer (some ⟨w.heap.size + 1, 0, none⟩) ∧ s8 = .pointer (some ⟨w.heap.size + 2, 0, none⟩) ∧ Bo3 w wx #[.slice da l.length dc, .slice fa fs.length fc] #[.int .i64 11, .int .i64 0, xk] #[.int .i64 0, .slice none 0 0] 50 55 79)
  case first =>
    go_wp2_with fail
    go_meet
    exact ⟨rfl, rfl, rfl, Bo3.mk' _ _ _ _ _ _ _⟩
  case rest =>
    obtain ⟨rfl, rfl, rfl, hbo⟩ := hcut
    have BO := Lib.hid hbo
    have E1 := Lib.hid (E0.out.keep0 hbo.keep)
    have S1 := Lib.hid (St.of0 (be := be) (o := o) (Keep.refl [] wc))
    have hsz := hbo.size
    obtain ⟨⟨q0, q1⟩, _⟩ := blk2 hbo.b0
    obtain ⟨⟨x0, x1, x2⟩, _⟩ := blk3 hbo.b1
    obtain ⟨⟨z0, z1⟩, y0, y1⟩ := blk2 hbo.b2
    have HV1 := Lib.hid ((rep_addG HV.out (k := w.heap.size + 2) (by omega)).keep0 hbo.keep)
    clear hbo
    have HBZ := Lib.hid (show w.heap.size + 2 ∉ be :: ob o from fun hm => by have := E0.out.mlt _ hm; omega)
    have HBP := Lib.hid (show w.heap.size ∉ be :: ob o from fun hm => by have := E0.out.mlt _ hm; omega)
    have HBX := Lib.hid (show w.heap.size + 1 ∉ be :: ob o from fun hm => by have := E0.out.mlt _ hm; omega)
    have HEP := Lib.hid (EP.out.inn (k := w.heap.size + 2) BO.out.keep (by omega) (by omega))
    obtain ⟨b, off, ca, cc, rfl, hbG, hbl, c0, c1, rk⟩ := vals_at HV1.out (i := 0) (by simp)
    simp only [List.getElem_cons_zero, Nat.zero_mul, Nat.add_zero] at c0 c1 rk
    have RK := Lib.hid rk
    have HBG := Lib.hid hbG
    have hbn : b ≠ w.heap.size + 2 := fun h => HBG.out (by simp [h])
    clear hbG rk
    rw [hfe] at c0
    have hvl2 : 2 ≤ vc := by simpa using hvl
    have R1 := Lib.hid (show Rep (be :: (ob o ++ (w.heap.size + 2) :: G)) wc (valsD [y]) (.slice (some ⟨b, off + 2, none⟩) 1 (vc - 1)) from Rep.tail1 HV1.out (by simp; omega) (by omega))
    have HGI := Lib.hid (fun g (hg : g ∈ be :: (ob o ++ (w.heap.size + 2) :: G)) => show g < wc.heap.size from by
      simp only [List.mem_cons, List.mem_append] at hg
      rcases hg with h | h | h | h
      · omega
      · exact (E1.out.olt g h).2
      · omega
      · have := HG.out g h; omega)
    have hkl : x.kids.length ≤ 1000 := by
      have h1 := HKK2.out.1
      have h2 := HP.out.hs.plen f (by rw [sgs_len]; exact hf)
      simp [sgs] at h2
      rw [List.length_append] at h1
      omega
    have hv2 : (2 : Int) ≤ (vc : Int) := by omega
    have hv3 : (1 : Int) ≤ (vc : Int) := by omega
    have hv1 : ¬ vc = 1 := by omega
    have HX := Lib.hid (show Calls Tryd.prog 47 #[.slice ca x.kids.length cc, .slice (some ⟨b, off + 2, none⟩) 1 (vc - 1)] wc.drew (OwnV (be :: (ob o ++ (w.heap.size + 2) :: G)) wc.drew vs4) from hvs4 ▸ extendValues_any _ _ x.kids [y] wc.drew RK.out.drew R1.out.drew (by omega) (by simp) HGI.out)
    have HK3 := Lib.hid (show VTs l (sgs fs) vs4 fs[f].sig.params from hvs4 ▸ HKK2.out)
    clear hvs4
    go_wp2
    go_region_held3 (fun w' => w'.cell? ⟨w.heap.size, 0, none⟩ = some (.slice da l.length dc) ∧ w'.cell? ⟨w.heap.size, 1, none⟩ = some (.slice fa fs.length fc) ∧ w'.cell? ⟨b, off, none⟩ = some (.int .i64 (f : Int)) ∧ w'.cell? ⟨b, off + 1, none⟩ = some (.slice ca x.kids.length cc))
      (first | exact ⟨q0, q1, c0, c1⟩ | exact ⟨q2, q3, c2, c3⟩ | exact ⟨q4, q5, c4, c5⟩ | (have KS := Keep.put2' w5 (w.heap.size + 2) (.int .i64 v.num) (.slice av v.kids.length cv); exact ⟨KS.cellEq q4 (by simp), KS.cellEq q5 (by simp), KS.cellEq c4 (by simpa using hbn), KS.cellEq c5 (by simpa using hbn)⟩) | go_keep)
      (first
      | (go_at_call 65
         refine (CC.out be Bd _ _ ((w.heap.size + 2) :: G) w4 most c o os (HEP.out.keep0 K4.out) vs4 _ R4.out f hf HK3.out (by omega) (by omega)).mono ?_
         rintro e w5 ⟨v, av, cv, c5', sp5, o5, os5, rfl, hty, hst, hev, hc5, hm5, ho5, hrv⟩
         have S5 := Lib.hid (show St be o wc o5 w5 from (St.of0 K4.out).trans hst)
         have E5 := Lib.hid hev
         have TY := Lib.hid hty
         have R5 := Lib.hid hrv
         have q4 := hst.keep.cellEq q2 HBP.out
         have q5 := hst.keep.cellEq q3 HBP.out
         have hbb : b ∉ be :: ob o := fun hm => HBG.out ((List.mem_cons.1 hm).elim (fun h => by simp [h]) (fun h => by simp [h]))
         have c4 := hst.keep.cellEq c2 hbb
         have c5 := hst.keep.cellEq c3 hbb
         obtain ⟨⟨z2, z3⟩, y2, y3⟩ := blk2 ((S5.out.keep.block (w.heap.size + 2) (by omega) HBZ.out).trans BO.out.b2)
         clear hst hev hty hrv hbb)
      | (go_at_call 47
         refine HX.out.mono ?_
         rintro e w4 ⟨ae, ce, rfl, hk4, ho4⟩
         have R4 := Lib.hid ho4.rep
         have K4 := Lib.hid (show Keep [] wc w4 from (Keep.refl _ _).drew.then0 hk4)
         have hs4 := K4.out.size
         have q2 := K4.out.cellEq q0 (by simp)
         have q3 := K4.out.cellEq q1 (by simp)
         have c2 := K4.out.cellEq c0 (by simp)
         have c3 := K4.out.cellEq c1 (by simp)
         clear hk4 ho4))
    all_goals
      go_wp2
      refine bodyPost_ret (v := .agg #[.int .i64 (v.num), .slice av v.kids.length cv]) (by simp [results, Tryd.results49, go_sem, z2, z3]) rfl (evk_post (w0 := wc) (W := w5) (k := w.heap.size + 2) (x := v) (a := av) (cap := cv) BO.out.keep (by omega) (by omega) E0.out S5.out E5.out R5.out (by rw [← HRES.out]; exact TY.out) (by omega) (by omega) (by first | omega | (simp; done) | (simp; omega)))

end Go.Proofs.YtnjincgemmgllaaDoor
