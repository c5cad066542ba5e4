/- The walk of the evaluation's eval: variables and choices. -/
import Derived.Test.YtnjincgemmgllaaDoorEvE
namespace Go.Proofs.YtnjincgemmgllaaDoor
open Go.RowKit
attribute [local go_sem ↓] Go.wp_at_zero Go.wp_at_succ
set_option maxRecDepth 100000 in
set_option maxHeartbeats 8000000 in
theorem eval_var {l : List Dc} {fs : List Fn} {N : Nat} (hP : Pr l fs) {vars : List Int} {i : Nat} {t : Int} (h : i < vars.length) (ht : vars[i] = t) : EvAt l fs N (.mk 12 (i : Int) []) vars t := by
  intro be Bd dv fv G w most c o os hep xa xc hxk vs vv hvv hvt hvb hos hN
  simp only [Ex.op, Ex.num, Ex.kids] at hxk ⊢
  have HP := Lib.hid hP
  have EP := Lib.hid hep
  have E0 := Lib.hid hep.ev
  have HD := Lib.hid hep.hd
  have HF := Lib.hid hep.hf
  have HG := Lib.hid hep.hG
  have hmm := hep.hm
  have HV := Lib.hid hvv
  have HK := Lib.hid hxk
  have HVT := Lib.hid hvt
  have HVL := Lib.hid hvt.1
  have hvs9 : vs.length ≤ 200 := by have := hvt.1; omega
  have blt := hep.ev.blt
  obtain ⟨da, dc, rfl, _⟩ := decls_form hep.hd
  obtain ⟨fa, fc, rfl, _⟩ := funcs_form hep.hf
  obtain ⟨va, vc, rfl, hvl9, hvc⟩ := vals_form hvv
  clear hP hep hvv hxk hvt 
  go_enter Tryd.func33, Tryd.ntmps33
  go_upto_region 0 with fail
  go_cut [5, 6, 8] (fun s5 s6 s8 wx => s5 = .pointer (some ⟨w.heap.size, 0, none⟩) ∧ s6 = .pointer (some ⟨w.heap.size + 1, 0, none⟩) ∧ s8 = .pointer (some ⟨w.heap.size + 2, 0, none⟩) ∧ Bo3 w wx #[.slice da l.length dc, .slice fa fs.length fc] #[.int .i64 12, .int .i64 (i : Int), .slice xa 0 xc] #[.int .i64 0, .slice none 0 0] 50 55 79)
  case first =>
    go_wp2_with fail
    go_meet
    exact ⟨rfl, rfl, rfl, Bo3.mk' _ _ _ _ _ _ _⟩
  case rest =>
    obtain ⟨rfl, rfl, rfl, hbo⟩ := hcut
    rename World => w1
    have BO := Lib.hid hbo
    have E1 := Lib.hid (E0.out.keep0 hbo.keep)
    have hsz := hbo.size
    obtain ⟨⟨q0, q1⟩, _⟩ := blk2 hbo.b0
    obtain ⟨⟨x0, x1, x2⟩, _⟩ := blk3 hbo.b1
    obtain ⟨⟨z0, z1⟩, y0, y1⟩ := blk2 hbo.b2
    have HV1 := Lib.hid ((rep_addG HV.out (k := w.heap.size + 2) (by omega)).keep0 hbo.keep)
    have HK1 := Lib.hid ((rep_addG HK.out (k := w.heap.size + 2) (by omega)).keep0 hbo.keep)
    have HD1 := Lib.hid ((rep_addG HD.out (k := w.heap.size + 2) (by omega)).keep0 hbo.keep)
    have HF1 := Lib.hid ((rep_addG HF.out (k := w.heap.size + 2) (by omega)).keep0 hbo.keep)
    have HEP := Lib.hid (EP.out.inn (k := w.heap.size + 2) BO.out.keep (by omega) (by omega))
    clear hbo
    have HBZ := Lib.hid (show w.heap.size + 2 ∉ be :: ob o from fun hm => by have := E0.out.mlt _ hm; omega)
    have HBP := Lib.hid (show w.heap.size ∉ be :: ob o from fun hm => by have := E0.out.mlt _ hm; omega)
    have HBX := Lib.hid (show w.heap.size + 1 ∉ be :: ob o from fun hm => by have := E0.out.mlt _ hm; omega)
    have HB3 := Lib.hid (show w.heap.size + 3 ∉ be :: ob o from fun hm => by have := E0.out.mlt _ hm; omega)
    have hi : i < vs.length := by have := HVL.out; omega
    obtain ⟨b, off, ca, cc, rfl, hbG, hbl, c0, c1, rk⟩ := vals_at HV1.out hi
    have RK := Lib.hid rk
    have TYV := Lib.hid (show VT l (sgs fs) vs[i] t from ht ▸ HVT.out.2 i hi h)
    clear hbG rk
    have hi0 : (0 : Int) ≤ (i : Int) := by omega
    have hi1 : (i : Int) < (vs.length : Int) := by omega
    go_wp2
    refine bodyPost_ret (v := .agg #[.int .i64 (vs[i].num), .slice ca vs[i].kids.length cc]) (by simp [results, Tryd.results33, go_sem, z0, z1]) rfl ((evk_post (w0 := w1) (W := w1) (k := w.heap.size + 2) (x := vs[i]) (a := ca) (cap := cc) BO.out.keep (by omega) (by omega) E0.out (St.of0 (Keep.refl [] w1)) E1.out RK.out (fun _ => TYV.out) (by omega) (by omega) (by first | omega | (simp; done) | (simp; omega))))
set_option maxRecDepth 100000 in
set_option maxHeartbeats 8000000 in
theorem eval_let {l : List Dc} {fs : List Fn} {N : Nat} (hP : Pr l fs) {vars : List Int} {a b0' : Ex} {u t : Int} (ih : EvalC l fs N) (ha : HasTy l (sgs fs) vars a u) (hb : HasTy l (sgs fs) (vars ++ [u]) b0' t) : EvAt l fs N (.mk 13 0 [a, b0']) vars t := by
  intro be Bd dv fv G w most c o os hep xa xc hxk vs vv hvv hvt hvb hos hN
  simp only [Ex.op, Ex.num, Ex.kids] at hxk ⊢
  have HP := Lib.hid hP
  have EP := Lib.hid hep
  have E0 := Lib.hid hep.ev
  have HD := Lib.hid hep.hd
  have HF := Lib.hid hep.hf
  have HG := Lib.hid hep.hG
  have hmm := hep.hm
  have HV := Lib.hid hvv
  have HK := Lib.hid hxk
  have HVT := Lib.hid hvt
  have HVL := Lib.hid hvt.1
  have hvs9 : vs.length ≤ 200 := by have := hvt.1; omega
  have blt := hep.ev.blt
  obtain ⟨da, dc, rfl, _⟩ := decls_form hep.hd
  obtain ⟨fa, fc, rfl, _⟩ := funcs_form hep.hf
  obtain ⟨va, vc, rfl, hvl9, hvc⟩ := vals_form hvv
  clear hP hep hvv hxk hvt 
  have IH := Lib.hid ih
  have HTA := Lib.hid ha
  have hea := esz_eq a
  have HTB := Lib.hid hb
  have hesz : esz (.mk 13 0 [a, b0']) = 1 + esz a + esz b0' := by simp [esz, eszL]; omega
  rw [hesz] at hvb hos hN ⊢
  clear hesz ih ha hb
  go_enter Tryd.func33, Tryd.ntmps33
  go_upto_region 0 with fail
  go_cut [5, 6, 8] (fun s5 s6 s8 wx => s5 = .pointer (some ⟨w.heap.size, 0, none⟩) ∧ s6 = .pointer (some ⟨w.heap.size + 1, 0, none⟩) ∧ s8 = .pointer (some ⟨w.heap.size + 2, 0, none⟩) ∧ Bo3 w wx #[.slice da l.length dc, .slice fa fs.length fc] #[.int .i64 13, .int .i64 0, .slice xa 2 xc] #[.int .i64 0, .slice none 0 0] 50 55 79)
  case first =>
    go_wp2_with fail
    go_meet
    exact ⟨rfl, rfl, rfl, Bo3.mk' _ _ _ _ _ _ _⟩
  case rest =>
    obtain ⟨rfl, rfl, rfl, hbo⟩ := hcut
    rename World => w1
    have BO := Lib.hid hbo
    have E1 := Lib.hid (E0.out.keep0 hbo.keep)
    have hsz := hbo.size
    obtain ⟨⟨q0, q1⟩, _⟩ := blk2 hbo.b0
    obtain ⟨⟨x0, x1, x2⟩, _⟩ := blk3 hbo.b1
    obtain ⟨⟨z0, z1⟩, y0, y1⟩ := blk2 hbo.b2
    have HV1 := Lib.hid ((rep_addG HV.out (k := w.heap.size + 2) (by omega)).keep0 hbo.keep)
    have HK1 := Lib.hid ((rep_addG HK.out (k := w.heap.size + 2) (by omega)).keep0 hbo.keep)
    have HD1 := Lib.hid ((rep_addG HD.out (k := w.heap.size + 2) (by omega)).keep0 hbo.keep)
    have HF1 := Lib.hid ((rep_addG HF.out (k := w.heap.size + 2) (by omega)).keep0 hbo.keep)
    have HEP := Lib.hid (EP.out.inn (k := w.heap.size + 2) BO.out.keep (by omega) (by omega))
    clear hbo
    have HBZ := Lib.hid (show w.heap.size + 2 ∉ be :: ob o from fun hm => by have := E0.out.mlt _ hm; omega)
    have HBP := Lib.hid (show w.heap.size ∉ be :: ob o from fun hm => by have := E0.out.mlt _ hm; omega)
    have HBX := Lib.hid (show w.heap.size + 1 ∉ be :: ob o from fun hm => by have := E0.out.mlt _ hm; omega)
    have HB3 := Lib.hid (show w.heap.size + 3 ∉ be :: ob o from fun hm => by have := E0.out.mlt _ hm; omega)
    obtain ⟨b, off, ca, cc, rfl, hbG, hbl, a0, a1, a2, rk⟩ := kids_at' HK1.out (i := 0) (by simp)
    simp only [List.getElem_cons_zero, Nat.zero_mul, Nat.add_zero] at a0 a1 a2 rk
    have RK := Lib.hid rk
    have HBB := Lib.hid (show b ∉ be :: ob o from fun hm => hbG ((List.mem_cons.1 hm).elim (fun h => by simp [h]) (fun h => by simp [h])))
    clear hbG rk
    go_upto_region 7 with fail
    go_cut [9] (fun s9 wx => ∃ (k9 : Nat) (v : V) (av : Option Addr) (cv c5 : Nat) (sp5 : Bool) (o5 : Value) (os5 : List Int), s9 = .pointer (some ⟨k9, 0, none⟩) ∧ Bv l fs be Bd ((w.heap.size + 2) :: G) most c os (esz a) (u) o w1 k9 wx v av cv c5 sp5 o5 os5)
    case first =>
      have KA := Lib.hid (show Keep [] w1 (w1.alloc (.cells #[.int .i64 0, .slice none 0 0] 79)) from (Keep.refl _ _).alloc _)
      have HEA := Lib.hid (show Ep be Bd l fs (.slice da l.length dc) (.slice fa fs.length fc) ((w.heap.size + 3) :: (w.heap.size + 2) :: G) (w1.alloc (.cells #[.int .i64 0, .slice none 0 0] 79)) most c o os from HEP.out.inn (k := w.heap.size + 3) KA.out (by omega) (by simp; omega))
      have BA := Lib.hid (show (w1.alloc (.cells #[.int .i64 0, .slice none 0 0] 79)).heap[w.heap.size + 3]? = some (.cells #[.int .i64 0, .slice none 0 0] 79 (0, 0)) from by rw [← hsz]; exact heap_alloc_new w1 _)
      have RKA := Lib.hid ((rep_addG RK.out (k := w.heap.size + 3) (by omega)).keep0 KA.out)
      have HVA := Lib.hid ((rep_addG HV1.out (k := w.heap.size + 3) (by omega)).keep0 KA.out)
      go_region_held3 (fun w' => w'.cell? ⟨w.heap.size, 0, none⟩ = some (.slice da l.length dc) ∧ w'.cell? ⟨w.heap.size, 1, none⟩ = some (.slice fa fs.length fc) ∧ w'.cell? ⟨w.heap.size + 1, 2, none⟩ = some (.slice (some ⟨b, off, none⟩) 2 xc) ∧ w'.cell? ⟨b, off, none⟩ = some (.int .i64 a.op) ∧ w'.cell? ⟨b, off + 1, none⟩ = some (.int .i64 a.num) ∧ w'.cell? ⟨b, off + 2, none⟩ = some (.slice ca a.kids.length cc))
        (first | exact ⟨q0, q1, x2, a0, a1, a2⟩ | exact ⟨q5, q6, x5, a5, a6, a7⟩ | (have KS := KA.out; exact ⟨KS.cellEq q0 (by simp), KS.cellEq q1 (by simp), KS.cellEq x2 (by simp), KS.cellEq a0 (by simp), KS.cellEq a1 (by simp), KS.cellEq a2 (by simp)⟩) | (have KS := (Keep.refl [] w5).alloc (.cells #[.int .i64 0, .slice none 0 0] 79); exact ⟨KS.cellEq q5 (by simp), KS.cellEq q6 (by simp), KS.cellEq x5 (by simp), KS.cellEq a5 (by simp), KS.cellEq a6 (by simp), KS.cellEq a7 (by simp)⟩) | (have KS := (Keep.refl [] w5).alloc (.cells #[.int .i64 v.num, .slice av v.kids.length cv] 79); exact ⟨KS.cellEq q5 (by simp), KS.cellEq q6 (by simp), KS.cellEq x5 (by simp), KS.cellEq a5 (by simp), KS.cellEq a6 (by simp), KS.cellEq a7 (by simp)⟩) | (have KS := Keep.put2' w5 (w.heap.size + 3) (.int .i64 v.num) (.slice av v.kids.length cv); exact ⟨KS.cellEq q5 (by simp), KS.cellEq q6 (by simp), KS.cellEq x5 (by simp), KS.cellEq a5 (by simp; omega), KS.cellEq a6 (by simp; omega), KS.cellEq a7 (by simp; omega)⟩) | go_keep)
        (first
        | (go_at_call 33
           with_reducible show Calls _ _ _ w1.drew _
           refine (IH.out be Bd _ _ ((w.heap.size + 2) :: G) w1.drew most c o os HEP.out.drew a ca cc RK.out.drew vs _ HV1.out.drew vars (u) HVT.out HTA.out (by omega) (by omega) (by omega)).mono ?_
           rintro e w5 ⟨v, av, cv, c5, sp5, o5, os5, rfl, hty, hst, hev, hc5, hm5, ho5, hrv⟩
           have S5 := Lib.hid (show St be o w1 o5 w5 from (St.of0 (Keep.refl _ _).drew).trans hst)
           have BVV := Lib.hid (Bv.a S5.out hev hty hc5 hm5 ho5 hrv)
           have TY := Lib.hid hty
           have q5 := S5.out.keep.cellEq q0 HBP.out
           have q6 := S5.out.keep.cellEq q1 HBP.out
           have x5 := S5.out.keep.cellEq x2 HBX.out
           have a5 := S5.out.keep.cellEq a0 HBB.out
           have a6 := S5.out.keep.cellEq a1 HBB.out
           have a7 := S5.out.keep.cellEq a2 HBB.out
           have hs5 := S5.out.keep.size
           clear hst hev hty hrv)
        | (go_at_call 33
           with_reducible show Calls _ _ _ (World.drew (w1.alloc (.cells #[.int .i64 0, .slice none 0 0] 79))) _
           refine (IH.out be Bd _ _ ((w.heap.size + 3) :: (w.heap.size + 2) :: G) (w1.alloc (.cells #[.int .i64 0, .slice none 0 0] 79)).drew most c o os HEA.out.drew a ca cc RKA.out.drew vs _ HVA.out.drew vars (u) HVT.out HTA.out (by omega) (by omega) (by omega)).mono ?_
           rintro e w5 ⟨v, av, cv, c5, sp5, o5, os5, rfl, hty, hst, hev, hc5, hm5, ho5, hrv⟩
           have S5 := Lib.hid (show St be o w1 o5 w5 from (St.of0 KA.out.drew).trans hst)
           have BVV := Lib.hid (Bv.b (k := w.heap.size + 3) (T := #[]) KA.out (by omega) (by simp; omega) E1.out BA.out ((St.of0 (Keep.refl _ _).drew).trans hst) hev hty hc5 hm5 ho5 hrv)
           obtain ⟨⟨b0, b1⟩, d0, d1⟩ := blk2 ((hst.keep.block (w.heap.size + 3) (by simp; omega) HB3.out).trans (show (w1.alloc (.cells #[.int .i64 0, .slice none 0 0] 79)).drew.heap[w.heap.size + 3]? = _ from BA.out))
           have TY := Lib.hid hty
           have q5 := S5.out.keep.cellEq q0 HBP.out
           have q6 := S5.out.keep.cellEq q1 HBP.out
           have x5 := S5.out.keep.cellEq x2 HBX.out
           have a5 := S5.out.keep.cellEq a0 HBB.out
           have a6 := S5.out.keep.cellEq a1 HBB.out
           have a7 := S5.out.keep.cellEq a2 HBB.out
           have hs5 := S5.out.keep.size
           clear hst hev hty hrv))
      all_goals
        go_wp2
        go_meet
        first
        | exact ⟨_, v, av, cv, c5, sp5, o5, os5, rfl, BVV.out⟩
        | exact ⟨_, v, av, cv, c5, sp5, o5, os5, rfl, BVV.out.keep0 (Keep.refl _ _).drew⟩
    case rest =>
      obtain ⟨k9, v, av, cv, c5, sp5, o5, os5, rfl, hbv⟩ := hcut
      rename World => w2
      have BV := Lib.hid hbv
      have S2 := Lib.hid hbv.st
      have E2 := Lib.hid hbv.ev
      have hs2 := hbv.st.keep.size
      have hk90 := hbv.k0
      have hk91 := hbv.k1
      obtain ⟨hc5, hm5⟩ := hbv.hc
      have ho5 := hbv.hos
      have HK2 := Lib.hid (hbv.st.rep (rep_addG HK1.out hbv.k0))
      have HV2 := Lib.hid (hbv.st.rep (rep_addG HV1.out hbv.k0))
      have HD2 := Lib.hid (hbv.st.rep (rep_addG HD1.out hbv.k0))
      have HF2 := Lib.hid (hbv.st.rep (rep_addG HF1.out hbv.k0))
      have RV := Lib.hid hbv.rep
      have HKN := Lib.hid hbv.hko
      have TYV := Lib.hid hbv.ty
      have hkeep := hbv.st.keep
      replace q0 := hkeep.cellEq q0 HBP.out
      replace q1 := hkeep.cellEq q1 HBP.out
      replace x0 := hkeep.cellEq x0 HBX.out
      replace x1 := hkeep.cellEq x1 HBX.out
      replace x2 := hkeep.cellEq x2 HBX.out
      clear a0 a1 a2 z0 z1 y0 y1
      obtain ⟨⟨z0, z1⟩, y0, y1⟩ := blk2 ((hkeep.block (w.heap.size + 2) (by omega) HBZ.out).trans BO.out.b2)
      obtain ⟨⟨v0, v1⟩, _⟩ := blk2 hbv.blk
      obtain ⟨⟨k0, k1, k2, k3⟩, g0, g1, g2, g3⟩ := blk4 hbv.ev.blk
      have HG2 := Lib.hid (fun g (hg : g ∈ k9 :: (w.heap.size + 2) :: G) => show g < w2.heap.size from by
        simp only [List.mem_cons] at hg
        rcases hg with h | h | h
        · omega
        · omega
        · have := HG.out g h; omega)
      clear hbv hkeep
      cases sp5 with
      | true =>
        go_wp2
        refine bodyPost_ret (v := .agg #[.int .i64 (0), .slice none 0 0]) (by simp [results, Tryd.results33, go_sem, z0, z1]) rfl ((evk_post (w0 := w1) (W := w2) (k := w.heap.size + 2) (x := .mk 0 []) (a := none) (cap := 0) BO.out.keep (by omega) (by omega) E0.out S2.out E2.out (Rep.nil _ _ _ _ _ (by omega)) (by simp) (by omega) (by omega) (by first | omega | (simp; done) | (simp; omega))))
      | false =>
        have HE2 := Lib.hid (show Ep be Bd l fs (.slice da l.length dc) (.slice fa fs.length fc) (k9 :: (w.heap.size + 2) :: G) w2 most c5 o5 os5 from ⟨E2.out, HD2.out, HF2.out, HG2.out, hm5, hmm.2⟩)
        have HGI := Lib.hid (fun g (hg : g ∈ be :: (ob o5 ++ k9 :: (w.heap.size + 2) :: G)) => show g < w2.heap.size from by
          simp only [List.mem_cons, List.mem_append] at hg
          rcases hg with h | h | h
          · have := E2.out.blt; omega
          · exact (E2.out.olt g h).2
          · exact HG2.out g (by simpa using h))
        replace TYV := Lib.hid (TYV.out rfl)
        have hkz : w.heap.size + 2 ≠ k9 := by omega
        obtain ⟨b', off', ja, jc, hbb, hbG2, hbl2, l0, m0, n0, rj⟩ := kids_at' HK2.out (i := 1) (by simp)
        injection hbb with hbb
        injection hbb with hb1 hb2
        subst hb1 hb2
        simp only [List.getElem_cons_zero, List.getElem_cons_succ, Nat.one_mul] at l0 m0 n0 rj
        have RJ := Lib.hid rj
        have HBP5 := Lib.hid (show w.heap.size ∉ be :: ob o5 from fun hm => by
          rcases List.mem_cons.1 hm with h | h
          · omega
          · rcases S2.out.at_ _ h with h | h
            · exact HBP.out (by simp [h])
            · omega)
        have HBX5 := Lib.hid (show w.heap.size + 1 ∉ be :: ob o5 from fun hm => by
          rcases List.mem_cons.1 hm with h | h
          · omega
          · rcases S2.out.at_ _ h with h | h
            · exact HBX.out (by simp [h])
            · omega)
        have HBZ5 := Lib.hid (show w.heap.size + 2 ∉ be :: ob o5 from fun hm => by
          rcases List.mem_cons.1 hm with h | h
          · omega
          · rcases S2.out.at_ _ h with h | h
            · exact HBZ.out (by simp [h])
            · omega)
        have HBB5 := Lib.hid (show b ∉ be :: ob o5 from fun hm => hbG2 ((List.mem_cons.1 hm).elim (fun h => by simp [h]) (fun h => by simp [h])))
        have hbz : b ≠ w.heap.size + 2 := fun h => hbG2 (by simp [h])
        have HBV5 := Lib.hid (show k9 ∉ be :: ob o5 from fun hm => (List.mem_cons.1 hm).elim (fun h => by have := E0.out.blt; omega) (fun h => HKN.out h))
        clear hbG2 rj
        obtain ⟨vn, hvn⟩ : ∃ u, u = vs ++ [v] := ⟨_, rfl⟩
        have KX := Lib.hid (show Keep [] w2 (w2.alloc (.cells #[.int .i64 v.num, .slice av v.kids.length cv] 79)) from (Keep.refl _ _).alloc _)
        have HX := Lib.hid (show Calls Tryd.prog 47 #[.slice va vs.length vc, .slice (some ⟨w2.heap.size, 0, none⟩) 1 1] (w2.alloc (.cells #[.int .i64 v.num, .slice av v.kids.length cv] 79)).drew (OwnV (be :: (ob o5 ++ k9 :: (w.heap.size + 2) :: G)) (w2.alloc (.cells #[.int .i64 v.num, .slice av v.kids.length cv] 79)).drew vn) from
          hvn ▸ extendValues_any _ _ vs [v] _ (HV2.out.keep0 KX.out.drew) (val_new RV.out HGI.out).drew (by omega) (by simp) (fun g hg => by have := HGI.out g hg; simp; omega))
        have HVN := Lib.hid (show VTs l (sgs fs) vn (vars ++ [u]) from hvn ▸ HVT.out.app (.one TYV.out))
        clear hvn
        go_wp2
        go_region_held3 (fun w' => w'.cell? ⟨w.heap.size, 0, none⟩ = some (.slice da l.length dc) ∧ w'.cell? ⟨w.heap.size, 1, none⟩ = some (.slice fa fs.length fc) ∧ w'.cell? ⟨w.heap.size + 1, 2, none⟩ = some (.slice (some ⟨b, off, none⟩) 2 xc) ∧ w'.cell? ⟨b, off + 3, none⟩ = some (.int .i64 b0'.op) ∧ w'.cell? ⟨b, off + 3 + 1, none⟩ = some (.int .i64 b0'.num) ∧ w'.cell? ⟨b, off + 3 + 2, none⟩ = some (.slice ja b0'.kids.length jc) ∧ w'.cell? ⟨k9, 0, none⟩ = some (.int .i64 v.num) ∧ w'.cell? ⟨k9, 1, none⟩ = some (.slice av v.kids.length cv))
          (first | exact ⟨q0, q1, x2, l0, m0, n0, v0, v1⟩ | exact ⟨q7, p7, x7, l7, m7, n7, v7, u7⟩ | exact ⟨q8, p8, x8, l8, m8, n8, v8, u8⟩ | (have KS := KX.out; exact ⟨KS.cellEq q0 (by simp), KS.cellEq q1 (by simp), KS.cellEq x2 (by simp), KS.cellEq l0 (by simp), KS.cellEq m0 (by simp), KS.cellEq n0 (by simp), KS.cellEq v0 (by simp), KS.cellEq v1 (by simp)⟩) | (have KS := Keep.put2' w8 (w.heap.size + 2) (.int .i64 v'.num) (.slice av' v'.kids.length cv'); exact ⟨KS.cellEq q8 (by simp), KS.cellEq p8 (by simp), KS.cellEq x8 (by simp), KS.cellEq l8 (by simpa using hbz), KS.cellEq m8 (by simpa using hbz), KS.cellEq n8 (by simpa using hbz), KS.cellEq v8 (by simpa using hkz.symm), KS.cellEq u8 (by simpa using hkz.symm)⟩) | go_keep)
          (first
          | (go_at_call 47
             refine HX.out.mono ?_
             rintro e w7 ⟨ae, ce, rfl, hk7, ho7⟩
             have R7 := Lib.hid ho7.rep
             have K7 := Lib.hid (show Keep [] w2 w7 from KX.out.drew.then0 hk7)
             have q7 := K7.out.cellEq q0 (by simp)
             have p7 := K7.out.cellEq q1 (by simp)
             have x7 := K7.out.cellEq x2 (by simp)
             have l7 := K7.out.cellEq l0 (by simp)
             have m7 := K7.out.cellEq m0 (by simp)
             have n7 := K7.out.cellEq n0 (by simp)
             have v7 := K7.out.cellEq v0 (by simp)
             have u7 := K7.out.cellEq v1 (by simp)
             have hs7 := K7.out.size
             clear hk7 ho7)
          | (go_at_call 33
             refine (IH.out be Bd _ _ (k9 :: (w.heap.size + 2) :: G) w7 most c5 o5 os5 (HE2.out.keep0 K7.out) b0' ja jc (RJ.out.keep0 K7.out) vn _ R7.out (vars ++ [u]) t HVN.out HTB.out (by simp; omega) (by omega) (by omega)).mono ?_
             rintro e w8 ⟨v', av', cv', c8, sp8, o8, os8, rfl, hty, hst, hev, hc8, hm8, ho8, hrv⟩
             have S8 := Lib.hid (show St be o5 w2 o8 w8 from (St.of0 K7.out).trans hst)
             have E8 := Lib.hid hev
             have TY8 := Lib.hid hty
             have R8 := Lib.hid hrv
             have q8 := hst.keep.cellEq q7 HBP5.out
             have p8 := hst.keep.cellEq p7 HBP5.out
             have x8 := hst.keep.cellEq x7 HBX5.out
             have l8 := hst.keep.cellEq l7 HBB5.out
             have m8 := hst.keep.cellEq m7 HBB5.out
             have n8 := hst.keep.cellEq n7 HBB5.out
             have v8 := hst.keep.cellEq v7 HBV5.out
             have u8 := hst.keep.cellEq u7 HBV5.out
             clear hst hev hty hrv
             obtain ⟨⟨z2, z3⟩, y2, y3⟩ := blk2 ((S8.out.keep.block (w.heap.size + 2) (by omega) HBZ5.out).trans ((S2.out.keep.block (w.heap.size + 2) (by omega) HBZ.out).trans BO.out.b2))))
        all_goals
          go_wp2
          refine bodyPost_ret (v := .agg #[.int .i64 (v'.num), .slice av' v'.kids.length cv']) (by simp [results, Tryd.results33, go_sem, z2, z3]) rfl ((evk_post (w0 := w1) (W := w8) (k := w.heap.size + 2) (x := v') (a := av') (cap := cv') BO.out.keep (by omega) (by omega) E0.out (S2.out.trans S8.out) E8.out (R8.out.sub fun g hg => .inl (by simp only [List.mem_cons, List.mem_append] at hg ⊢; rcases hg with h | h | h | h <;> simp [h])) TY8.out (by omega) (by omega) (by first | omega | (simp; done) | (simp; omega))))
set_option maxRecDepth 100000 in
set_option maxHeartbeats 8000000 in
theorem eval_if {l : List Dc} {fs : List Fn} {N : Nat} (hP : Pr l fs) {vars : List Int} {a : Ex} {rest : List Ex} {d t : Int} (ih : EvalC l fs N) (ha : HasTy l (sgs fs) vars a (0)) (hch : Chs l fs vars 7 0 (a :: rest) 0 t) : EvAt l fs N (.mk 7 0 (a :: rest)) vars t := by
  intro be Bd dv fv G w most c o os hep xa xc hxk vs vv hvv hvt hvb hos hN
  simp only [Ex.op, Ex.num, Ex.kids] at hxk ⊢
  have HP := Lib.hid hP
  have EP := Lib.hid hep
  have E0 := Lib.hid hep.ev
  have HD := Lib.hid hep.hd
  have HF := Lib.hid hep.hf
  have HG := Lib.hid hep.hG
  have hmm := hep.hm
  have HV := Lib.hid hvv
  have HK := Lib.hid hxk
  have HVT := Lib.hid hvt
  have HVL := Lib.hid hvt.1
  have hvs9 : vs.length ≤ 200 := by have := hvt.1; omega
  have blt := hep.ev.blt
  obtain ⟨da, dc, rfl, _⟩ := decls_form hep.hd
  obtain ⟨fa, fc, rfl, _⟩ := funcs_form hep.hf
  obtain ⟨va, vc, rfl, hvl9, hvc⟩ := vals_form hvv
  clear hP hep hvv hxk hvt 
  have IH := Lib.hid ih
  have HTA := Lib.hid ha
  have hea := esz_eq a
  have HCH := Lib.hid hch
  have hesz : esz (.mk 7 0 (a :: rest)) = 1 + eszL (a :: rest) := by simp [esz]
  rw [hesz] at hvb hos hN ⊢
  have heL : esz a ≤ eszL (a :: rest) := by simp [eszL]
  clear hesz ih ha hch
  go_enter Tryd.func33, Tryd.ntmps33
  go_upto_region 0 with fail
  go_cut [5, 6, 8] (fun s5 s6 s8 wx => s5 = .pointer (some ⟨w.heap.size, 0, none⟩) ∧ s6 = .pointer (some ⟨w.heap.size + 1, 0, none⟩) ∧ s8 = .pointer (some ⟨w.heap.size + 2, 0, none⟩) ∧ Bo3 w wx #[.slice da l.length dc, .slice fa fs.length fc] #[.int .i64 7, .int .i64 0, .slice xa (rest.length + 1) xc] #[.int .i64 0, .slice none 0 0] 50 55 79)
  case first =>
    go_wp2_with fail
    go_meet
    exact ⟨rfl, rfl, rfl, Bo3.mk' _ _ _ _ _ _ _⟩
  case rest =>
    obtain ⟨rfl, rfl, rfl, hbo⟩ := hcut
    rename World => w1
    have BO := Lib.hid hbo
    have E1 := Lib.hid (E0.out.keep0 hbo.keep)
    have hsz := hbo.size
    obtain ⟨⟨q0, q1⟩, _⟩ := blk2 hbo.b0
    obtain ⟨⟨x0, x1, x2⟩, _⟩ := blk3 hbo.b1
    obtain ⟨⟨z0, z1⟩, y0, y1⟩ := blk2 hbo.b2
    have HV1 := Lib.hid ((rep_addG HV.out (k := w.heap.size + 2) (by omega)).keep0 hbo.keep)
    have HK1 := Lib.hid ((rep_addG HK.out (k := w.heap.size + 2) (by omega)).keep0 hbo.keep)
    have HD1 := Lib.hid ((rep_addG HD.out (k := w.heap.size + 2) (by omega)).keep0 hbo.keep)
    have HF1 := Lib.hid ((rep_addG HF.out (k := w.heap.size + 2) (by omega)).keep0 hbo.keep)
    have HEP := Lib.hid (EP.out.inn (k := w.heap.size + 2) BO.out.keep (by omega) (by omega))
    clear hbo
    have HBZ := Lib.hid (show w.heap.size + 2 ∉ be :: ob o from fun hm => by have := E0.out.mlt _ hm; omega)
    have HBP := Lib.hid (show w.heap.size ∉ be :: ob o from fun hm => by have := E0.out.mlt _ hm; omega)
    have HBX := Lib.hid (show w.heap.size + 1 ∉ be :: ob o from fun hm => by have := E0.out.mlt _ hm; omega)
    have HB3 := Lib.hid (show w.heap.size + 3 ∉ be :: ob o from fun hm => by have := E0.out.mlt _ hm; omega)
    obtain ⟨b, off, ca, cc, rfl, hbG, hbl, a0, a1, a2, rk⟩ := kids_at' HK1.out (i := 0) (by simp)
    simp only [List.getElem_cons_zero, Nat.zero_mul, Nat.add_zero] at a0 a1 a2 rk
    have RK := Lib.hid rk
    have HBB := Lib.hid (show b ∉ be :: ob o from fun hm => hbG ((List.mem_cons.1 hm).elim (fun h => by simp [h]) (fun h => by simp [h])))
    clear hbG rk
    go_upto_region 7 with fail
    go_cut [9] (fun s9 wx => ∃ (k9 : Nat) (v : V) (av : Option Addr) (cv c5 : Nat) (sp5 : Bool) (o5 : Value) (os5 : List Int), s9 = .pointer (some ⟨k9, 0, none⟩) ∧ Bv l fs be Bd ((w.heap.size + 2) :: G) most c os (esz a) (0) o w1 k9 wx v av cv c5 sp5 o5 os5)
    case first =>
      have KA := Lib.hid (show Keep [] w1 (w1.alloc (.cells #[.int .i64 0, .slice none 0 0] 79)) from (Keep.refl _ _).alloc _)
      have HEA := Lib.hid (show Ep be Bd l fs (.slice da l.length dc) (.slice fa fs.length fc) ((w.heap.size + 3) :: (w.heap.size + 2) :: G) (w1.alloc (.cells #[.int .i64 0, .slice none 0 0] 79)) most c o os from HEP.out.inn (k := w.heap.size + 3) KA.out (by omega) (by simp; omega))
      have BA := Lib.hid (show (w1.alloc (.cells #[.int .i64 0, .slice none 0 0] 79)).heap[w.heap.size + 3]? = some (.cells #[.int .i64 0, .slice none 0 0] 79 (0, 0)) from by rw [← hsz]; exact heap_alloc_new w1 _)
      have RKA := Lib.hid ((rep_addG RK.out (k := w.heap.size + 3) (by omega)).keep0 KA.out)
      have HVA := Lib.hid ((rep_addG HV1.out (k := w.heap.size + 3) (by omega)).keep0 KA.out)
      go_region_held3 (fun w' => w'.cell? ⟨w.heap.size, 0, none⟩ = some (.slice da l.length dc) ∧ w'.cell? ⟨w.heap.size, 1, none⟩ = some (.slice fa fs.length fc) ∧ w'.cell? ⟨w.heap.size + 1, 2, none⟩ = some (.slice (some ⟨b, off, none⟩) (rest.length + 1) xc) ∧ w'.cell? ⟨b, off, none⟩ = some (.int .i64 a.op) ∧ w'.cell? ⟨b, off + 1, none⟩ = some (.int .i64 a.num) ∧ w'.cell? ⟨b, off + 2, none⟩ = some (.slice ca a.kids.length cc))
        (first | exact ⟨q0, q1, x2, a0, a1, a2⟩ | exact ⟨q5, q6, x5, a5, a6, a7⟩ | (have KS := KA.out; exact ⟨KS.cellEq q0 (by simp), KS.cellEq q1 (by simp), KS.cellEq x2 (by simp), KS.cellEq a0 (by simp), KS.cellEq a1 (by simp), KS.cellEq a2 (by simp)⟩) | (have KS := (Keep.refl [] w5).alloc (.cells #[.int .i64 0, .slice none 0 0] 79); exact ⟨KS.cellEq q5 (by simp), KS.cellEq q6 (by simp), KS.cellEq x5 (by simp), KS.cellEq a5 (by simp), KS.cellEq a6 (by simp), KS.cellEq a7 (by simp)⟩) | (have KS := (Keep.refl [] w5).alloc (.cells #[.int .i64 v.num, .slice av v.kids.length cv] 79); exact ⟨KS.cellEq q5 (by simp), KS.cellEq q6 (by simp), KS.cellEq x5 (by simp), KS.cellEq a5 (by simp), KS.cellEq a6 (by simp), KS.cellEq a7 (by simp)⟩) | (have KS := Keep.put2' w5 (w.heap.size + 3) (.int .i64 v.num) (.slice av v.kids.length cv); exact ⟨KS.cellEq q5 (by simp), KS.cellEq q6 (by simp), KS.cellEq x5 (by simp), KS.cellEq a5 (by simp; omega), KS.cellEq a6 (by simp; omega), KS.cellEq a7 (by simp; omega)⟩) | go_keep)
        (first
        | (go_at_call 33
           with_reducible show Calls _ _ _ w1.drew _
           refine (IH.out be Bd _ _ ((w.heap.size + 2) :: G) w1.drew most c o os HEP.out.drew a ca cc RK.out.drew vs _ HV1.out.drew vars (0) HVT.out HTA.out (by omega) (by omega) (by omega)).mono ?_
           rintro e w5 ⟨v, av, cv, c5, sp5, o5, os5, rfl, hty, hst, hev, hc5, hm5, ho5, hrv⟩
           have S5 := Lib.hid (show St be o w1 o5 w5 from (St.of0 (Keep.refl _ _).drew).trans hst)
           have BVV := Lib.hid (Bv.a S5.out hev hty hc5 hm5 ho5 hrv)
           have TY := Lib.hid hty
           have q5 := S5.out.keep.cellEq q0 HBP.out
           have q6 := S5.out.keep.cellEq q1 HBP.out
           have x5 := S5.out.keep.cellEq x2 HBX.out
           have a5 := S5.out.keep.cellEq a0 HBB.out
           have a6 := S5.out.keep.cellEq a1 HBB.out
           have a7 := S5.out.keep.cellEq a2 HBB.out
           have hs5 := S5.out.keep.size
           clear hst hev hty hrv)
        | (go_at_call 33
           with_reducible show Calls _ _ _ (World.drew (w1.alloc (.cells #[.int .i64 0, .slice none 0 0] 79))) _
           refine (IH.out be Bd _ _ ((w.heap.size + 3) :: (w.heap.size + 2) :: G) (w1.alloc (.cells #[.int .i64 0, .slice none 0 0] 79)).drew most c o os HEA.out.drew a ca cc RKA.out.drew vs _ HVA.out.drew vars (0) HVT.out HTA.out (by omega) (by omega) (by omega)).mono ?_
           rintro e w5 ⟨v, av, cv, c5, sp5, o5, os5, rfl, hty, hst, hev, hc5, hm5, ho5, hrv⟩
           have S5 := Lib.hid (show St be o w1 o5 w5 from (St.of0 KA.out.drew).trans hst)
           have BVV := Lib.hid (Bv.b (k := w.heap.size + 3) (T := #[]) KA.out (by omega) (by simp; omega) E1.out BA.out ((St.of0 (Keep.refl _ _).drew).trans hst) hev hty hc5 hm5 ho5 hrv)
           obtain ⟨⟨b0, b1⟩, d0, d1⟩ := blk2 ((hst.keep.block (w.heap.size + 3) (by simp; omega) HB3.out).trans (show (w1.alloc (.cells #[.int .i64 0, .slice none 0 0] 79)).drew.heap[w.heap.size + 3]? = _ from BA.out))
           have TY := Lib.hid hty
           have q5 := S5.out.keep.cellEq q0 HBP.out
           have q6 := S5.out.keep.cellEq q1 HBP.out
           have x5 := S5.out.keep.cellEq x2 HBX.out
           have a5 := S5.out.keep.cellEq a0 HBB.out
           have a6 := S5.out.keep.cellEq a1 HBB.out
           have a7 := S5.out.keep.cellEq a2 HBB.out
           have hs5 := S5.out.keep.size
           clear hst hev hty hrv))
      all_goals
        go_wp2
        go_meet
        first
        | exact ⟨_, v, av, cv, c5, sp5, o5, os5, rfl, BVV.out⟩
        | exact ⟨_, v, av, cv, c5, sp5, o5, os5, rfl, BVV.out.keep0 (Keep.refl _ _).drew⟩
    case rest =>
      obtain ⟨k9, v, av, cv, c5, sp5, o5, os5, rfl, hbv⟩ := hcut
      rename World => w2
      have BV := Lib.hid hbv
      have S2 := Lib.hid hbv.st
      have E2 := Lib.hid hbv.ev
      have hs2 := hbv.st.keep.size
      have hk90 := hbv.k0
      have hk91 := hbv.k1
      obtain ⟨hc5, hm5⟩ := hbv.hc
      have ho5 := hbv.hos
      have HK2 := Lib.hid (hbv.st.rep (rep_addG HK1.out hbv.k0))
      have HV2 := Lib.hid (hbv.st.rep (rep_addG HV1.out hbv.k0))
      have HD2 := Lib.hid (hbv.st.rep (rep_addG HD1.out hbv.k0))
      have HF2 := Lib.hid (hbv.st.rep (rep_addG HF1.out hbv.k0))
      have RV := Lib.hid hbv.rep
      have HKN := Lib.hid hbv.hko
      have TYV := Lib.hid hbv.ty
      have hkeep := hbv.st.keep
      replace q0 := hkeep.cellEq q0 HBP.out
      replace q1 := hkeep.cellEq q1 HBP.out
      replace x0 := hkeep.cellEq x0 HBX.out
      replace x1 := hkeep.cellEq x1 HBX.out
      replace x2 := hkeep.cellEq x2 HBX.out
      clear a0 a1 a2 z0 z1 y0 y1
      obtain ⟨⟨z0, z1⟩, y0, y1⟩ := blk2 ((hkeep.block (w.heap.size + 2) (by omega) HBZ.out).trans BO.out.b2)
      obtain ⟨⟨v0, v1⟩, _⟩ := blk2 hbv.blk
      obtain ⟨⟨k0, k1, k2, k3⟩, g0, g1, g2, g3⟩ := blk4 hbv.ev.blk
      have HG2 := Lib.hid (fun g (hg : g ∈ k9 :: (w.heap.size + 2) :: G) => show g < w2.heap.size from by
        simp only [List.mem_cons] at hg
        rcases hg with h | h | h
        · omega
        · omega
        · have := HG.out g h; omega)
      clear hbv hkeep
      cases sp5 with
      | true =>
        go_wp2
        refine bodyPost_ret (v := .agg #[.int .i64 (0), .slice none 0 0]) (by simp [results, Tryd.results33, go_sem, z0, z1]) rfl ((evk_post (w0 := w1) (W := w2) (k := w.heap.size + 2) (x := .mk 0 []) (a := none) (cap := 0) BO.out.keep (by omega) (by omega) E0.out S2.out E2.out (Rep.nil _ _ _ _ _ (by omega)) (by simp) (by omega) (by omega) (by first | omega | (simp; done) | (simp; omega))))
      | false =>
        have HE2 := Lib.hid (show Ep be Bd l fs (.slice da l.length dc) (.slice fa fs.length fc) (k9 :: (w.heap.size + 2) :: G) w2 most c5 o5 os5 from ⟨E2.out, HD2.out, HF2.out, HG2.out, hm5, hmm.2⟩)
        have HGI := Lib.hid (fun g (hg : g ∈ be :: (ob o5 ++ k9 :: (w.heap.size + 2) :: G)) => show g < w2.heap.size from by
          simp only [List.mem_cons, List.mem_append] at hg
          rcases hg with h | h | h
          · have := E2.out.blt; omega
          · exact (E2.out.olt g h).2
          · exact HG2.out g (by simpa using h))
        replace TYV := Lib.hid (TYV.out rfl)
        have hkz : w.heap.size + 2 ≠ k9 := by omega
        obtain ⟨j, us, hj, hjt, hju, hj3, hje, hja, hjc⟩ := HCH.out v TYV.out
        have hja := hja a (by simp)
        have HJT := Lib.hid hjt
        have HJC := Lib.hid hjc
        have hjl : (j : Int) < (rest.length : Int) + 1 := by simp at hj; omega
        have hjm : j < rest.length + 1 := by simpa using hj
        have hj0 : (0 : Int) ≤ (j : Int) := by omega
        obtain ⟨b', off', ja, jc, hbb, hbG2, hbl2, l0, m0, n0, rj⟩ := kids_at' HK2.out (i := j) hj
        injection hbb with hbb
        injection hbb with hb1 hb2
        subst hb1 hb2
        obtain ⟨kj, hkj⟩ : ∃ y, y = (a :: rest)[j] := ⟨_, rfl⟩
        rw [← hkj] at l0 m0 n0 rj hje hja hjt
        have HJT := Lib.hid hjt
        have RJ := Lib.hid rj
        have HBP5 := Lib.hid (show w.heap.size ∉ be :: ob o5 from fun hm => by
          rcases List.mem_cons.1 hm with h | h
          · omega
          · rcases S2.out.at_ _ h with h | h
            · exact HBP.out (by simp [h])
            · omega)
        have HBX5 := Lib.hid (show w.heap.size + 1 ∉ be :: ob o5 from fun hm => by
          rcases List.mem_cons.1 hm with h | h
          · omega
          · rcases S2.out.at_ _ h with h | h
            · exact HBX.out (by simp [h])
            · omega)
        have HBZ5 := Lib.hid (show w.heap.size + 2 ∉ be :: ob o5 from fun hm => by
          rcases List.mem_cons.1 hm with h | h
          · omega
          · rcases S2.out.at_ _ h with h | h
            · exact HBZ.out (by simp [h])
            · omega)
        have HBB5 := Lib.hid (show b ∉ be :: ob o5 from fun hm => hbG2 ((List.mem_cons.1 hm).elim (fun h => by simp [h]) (fun h => by simp [h])))
        have hbz : b ≠ w.heap.size + 2 := fun h => hbG2 (by simp [h])
        have HBV5 := Lib.hid (show k9 ∉ be :: ob o5 from fun hm => (List.mem_cons.1 hm).elim (fun h => by have := E0.out.blt; omega) (fun h => HKN.out h))
        clear hbG2 rj hjt hjc hkj
        obtain ⟨vn, hvn⟩ : ∃ u, u = vs ++ v.kids := ⟨_, rfl⟩
        have hkl : v.kids.length ≤ 3 := by have := hju.1; omega
        have HX := Lib.hid (show ∀ W, Keep [] w2 W → Calls Tryd.prog 47 #[.slice va vs.length vc, .slice av v.kids.length cv] W (OwnV (be :: (ob o5 ++ k9 :: (w.heap.size + 2) :: G)) W vn) from fun W hW =>
          hvn ▸ extendValues_any _ _ vs v.kids W (HV2.out.keep0 hW) ((RV.out).keep0 hW) (by omega) (by omega) (fun g hg => by have := HGI.out g hg; have := hW.size; omega))
        have HC := Lib.hid (show ∀ W, Keep [] w2 W → Calls Tryd.prog 48 #[.agg #[.slice da l.length dc, .slice fa fs.length fc], .agg #[.int .i64 7, .int .i64 0, .slice (some ⟨b, off, none⟩) (rest.length + 1) xc], .agg #[.int .i64 v.num, .slice av v.kids.length cv]] W (fun e w' => e = .returned (.int .i64 (j : Int)) ∧ Keep [] W w') from fun W hW => HJC.out _ W _ _ _ _ (HD2.out.keep0 hW))
        have HVN := Lib.hid (show VTs l (sgs fs) vn (vars ++ us) from hvn ▸ HVT.out.app hju)
        clear hvn hju HJC
        go_wp2
        go_region_held3 (fun w' => w'.cell? ⟨w.heap.size + 1, 0, none⟩ = some (.int .i64 7) ∧ w'.cell? ⟨w.heap.size + 1, 1, none⟩ = some (.int .i64 0) ∧ w'.cell? ⟨w.heap.size, 0, none⟩ = some (.slice da l.length dc) ∧ w'.cell? ⟨w.heap.size, 1, none⟩ = some (.slice fa fs.length fc) ∧ w'.cell? ⟨w.heap.size + 1, 2, none⟩ = some (.slice (some ⟨b, off, none⟩) (rest.length + 1) xc) ∧ w'.cell? ⟨b, off + j * 3, none⟩ = some (.int .i64 kj.op) ∧ w'.cell? ⟨b, off + j * 3 + 1, none⟩ = some (.int .i64 kj.num) ∧ w'.cell? ⟨b, off + j * 3 + 2, none⟩ = some (.slice ja kj.kids.length jc) ∧ w'.cell? ⟨k9, 0, none⟩ = some (.int .i64 v.num) ∧ w'.cell? ⟨k9, 1, none⟩ = some (.slice av v.kids.length cv))
          (first | exact ⟨x0, x1, q0, q1, x2, l0, m0, n0, v0, v1⟩ | exact ⟨i6, j6, q6, p6, x6, l6, m6, n6, v6, u6⟩ | exact ⟨i7, j7, q7, p7, x7, l7, m7, n7, v7, u7⟩ | exact ⟨i8, j8, q8, p8, x8, l8, m8, n8, v8, u8⟩ | (have KS := Keep.put2' w8 (w.heap.size + 2) (.int .i64 v'.num) (.slice av' v'.kids.length cv'); exact ⟨KS.cellEq i8 (by simp), KS.cellEq j8 (by simp), KS.cellEq q8 (by simp), KS.cellEq p8 (by simp), KS.cellEq x8 (by simp), KS.cellEq l8 (by simpa using hbz), KS.cellEq m8 (by simpa using hbz), KS.cellEq n8 (by simpa using hbz), KS.cellEq v8 (by simpa using hkz.symm), KS.cellEq u8 (by simpa using hkz.symm)⟩) | go_keep)
          (first
          | (go_at_call 47
             with_reducible show Calls _ _ _ w2.drew _
             refine (HX.out w2.drew (Keep.refl _ _).drew).mono ?_
             rintro e w6 ⟨ae, ce, rfl, hk7, ho7⟩
             have R6 := Lib.hid ho7.rep
             have K6 := Lib.hid (show Keep [] w2 w6 from (Keep.refl _ _).drew.then0 hk7)
             have q6 := K6.out.cellEq q0 (by simp)
             have p6 := K6.out.cellEq q1 (by simp)
             have x6 := K6.out.cellEq x2 (by simp)
             have l6 := K6.out.cellEq l0 (by simp)
             have m6 := K6.out.cellEq m0 (by simp)
             have n6 := K6.out.cellEq n0 (by simp)
             have v6 := K6.out.cellEq v0 (by simp)
             have u6 := K6.out.cellEq v1 (by simp)
             have hs6 := K6.out.size
             have i6 := K6.out.cellEq x0 (by simp)
             have j6 := K6.out.cellEq x1 (by simp)
             clear hk7 ho7)
          | (go_at_call 48
             with_reducible show Calls _ _ _ w2.drew _
             refine (HC.out w2.drew (Keep.refl _ _).drew).mono ?_
             rintro e w6 ⟨rfl, hk7⟩
             have K6 := Lib.hid (show Keep [] w2 w6 from (Keep.refl _ _).drew.then0 hk7)
             have q6 := K6.out.cellEq q0 (by simp)
             have p6 := K6.out.cellEq q1 (by simp)
             have x6 := K6.out.cellEq x2 (by simp)
             have l6 := K6.out.cellEq l0 (by simp)
             have m6 := K6.out.cellEq m0 (by simp)
             have n6 := K6.out.cellEq n0 (by simp)
             have v6 := K6.out.cellEq v0 (by simp)
             have u6 := K6.out.cellEq v1 (by simp)
             have hs6 := K6.out.size
             have i6 := K6.out.cellEq x0 (by simp)
             have j6 := K6.out.cellEq x1 (by simp)
             clear hk7)
          | (go_at_call 47
             with_reducible show Calls _ _ _ w6 _
             refine (HX.out w6 K6.out).mono ?_
             rintro e w7 ⟨ae, ce, rfl, hk7, ho7⟩
             have R7 := Lib.hid ho7.rep
             have K7 := Lib.hid (show Keep [] w2 w7 from K6.out.then0 hk7)
             have q7 := K7.out.cellEq q0 (by simp)
             have p7 := K7.out.cellEq q1 (by simp)
             have x7 := K7.out.cellEq x2 (by simp)
             have l7 := K7.out.cellEq l0 (by simp)
             have m7 := K7.out.cellEq m0 (by simp)
             have n7 := K7.out.cellEq n0 (by simp)
             have v7 := K7.out.cellEq v0 (by simp)
             have u7 := K7.out.cellEq v1 (by simp)
             have hs7 := K7.out.size
             have i7 := K7.out.cellEq x0 (by simp)
             have j7 := K7.out.cellEq x1 (by simp)
             clear hk7 ho7)
          | (go_at_call 48
             with_reducible show Calls _ _ _ w6 _
             refine (HC.out w6 K6.out).mono ?_
             rintro e w7 ⟨rfl, hk7⟩
             have R7 := Lib.hid (R6.out.keep0 hk7)
             have K7 := Lib.hid (show Keep [] w2 w7 from K6.out.then0 hk7)
             have q7 := K7.out.cellEq q0 (by simp)
             have p7 := K7.out.cellEq q1 (by simp)
             have x7 := K7.out.cellEq x2 (by simp)
             have l7 := K7.out.cellEq l0 (by simp)
             have m7 := K7.out.cellEq m0 (by simp)
             have n7 := K7.out.cellEq n0 (by simp)
             have v7 := K7.out.cellEq v0 (by simp)
             have u7 := K7.out.cellEq v1 (by simp)
             have hs7 := K7.out.size
             have i7 := K7.out.cellEq x0 (by simp)
             have j7 := K7.out.cellEq x1 (by simp)
             clear hk7)
          | (go_at_call 33
             refine (IH.out be Bd _ _ (k9 :: (w.heap.size + 2) :: G) w7 most c5 o5 os5 (HE2.out.keep0 K7.out) kj ja jc (RJ.out.keep0 K7.out) vn _ R7.out (vars ++ us) t HVN.out HJT.out (by simp; omega) (by omega) (by omega)).mono ?_
             rintro e w8 ⟨v', av', cv', c8, sp8, o8, os8, rfl, hty, hst, hev, hc8, hm8, ho8, hrv⟩
             have i8 := hst.keep.cellEq i7 HBX5.out
             have j8 := hst.keep.cellEq j7 HBX5.out
             have S8 := Lib.hid (show St be o5 w2 o8 w8 from (St.of0 K7.out).trans hst)
             have E8 := Lib.hid hev
             have TY8 := Lib.hid hty
             have R8 := Lib.hid hrv
             have q8 := hst.keep.cellEq q7 HBP5.out
             have p8 := hst.keep.cellEq p7 HBP5.out
             have x8 := hst.keep.cellEq x7 HBX5.out
             have l8 := hst.keep.cellEq l7 HBB5.out
             have m8 := hst.keep.cellEq m7 HBB5.out
             have n8 := hst.keep.cellEq n7 HBB5.out
             have v8 := hst.keep.cellEq v7 HBV5.out
             have u8 := hst.keep.cellEq u7 HBV5.out
             clear hst hev hty hrv
             obtain ⟨⟨z2, z3⟩, y2, y3⟩ := blk2 ((S8.out.keep.block (w.heap.size + 2) (by omega) HBZ5.out).trans ((S2.out.keep.block (w.heap.size + 2) (by omega) HBZ.out).trans BO.out.b2))))
        all_goals
          go_wp2
          refine bodyPost_ret (v := .agg #[.int .i64 (v'.num), .slice av' v'.kids.length cv']) (by simp [results, Tryd.results33, go_sem, z2, z3]) rfl ((evk_post (w0 := w1) (W := w8) (k := w.heap.size + 2) (x := v') (a := av') (cap := cv') BO.out.keep (by omega) (by omega) E0.out (S2.out.trans S8.out) E8.out (R8.out.sub fun g hg => .inl (by simp only [List.mem_cons, List.mem_append] at hg ⊢; rcases hg with h | h | h | h <;> simp [h])) TY8.out (by omega) (by omega) (by first | omega | (simp; done) | (simp; omega))))
set_option maxRecDepth 100000 in
set_option maxHeartbeats 8000000 in
theorem eval_match {l : List Dc} {fs : List Fn} {N : Nat} (hP : Pr l fs) {vars : List Int} {a : Ex} {rest : List Ex} {d t : Int} (ih : EvalC l fs N) (ha : HasTy l (sgs fs) vars a (d)) (hch : Chs l fs vars 8 d (a :: rest) d t) : EvAt l fs N (.mk 8 d (a :: rest)) vars t := by
  intro be Bd dv fv G w most c o os hep xa xc hxk vs vv hvv hvt hvb hos hN
  simp only [Ex.op, Ex.num, Ex.kids] at hxk ⊢
  have HP := Lib.hid hP
  have EP := Lib.hid hep
  have E0 := Lib.hid hep.ev
  have HD := Lib.hid hep.hd
  have HF := Lib.hid hep.hf
  have HG := Lib.hid hep.hG
  have hmm := hep.hm
  have HV := Lib.hid hvv
  have HK := Lib.hid hxk
  have HVT := Lib.hid hvt
  have HVL := Lib.hid hvt.1
  have hvs9 : vs.length ≤ 200 := by have := hvt.1; omega
  have blt := hep.ev.blt
  obtain ⟨da, dc, rfl, _⟩ := decls_form hep.hd
  obtain ⟨fa, fc, rfl, _⟩ := funcs_form hep.hf
  obtain ⟨va, vc, rfl, hvl9, hvc⟩ := vals_form hvv
  clear hP hep hvv hxk hvt 
  have IH := Lib.hid ih
  have HTA := Lib.hid ha
  have hea := esz_eq a
  have HCH := Lib.hid hch
  have hesz : esz (.mk 8 d (a :: rest)) = 1 + eszL (a :: rest) := by simp [esz]
  rw [hesz] at hvb hos hN ⊢
  have heL : esz a ≤ eszL (a :: rest) := by simp [eszL]
  clear hesz ih ha hch
  go_enter Tryd.func33, Tryd.ntmps33
  go_upto_region 0 with fail
  go_cut [5, 6, 8] (fun s5 s6 s8 wx => s5 = .pointer (some ⟨w.heap.size, 0, none⟩) ∧ s6 = .pointer (some ⟨w.heap.size + 1, 0, none⟩) ∧ s8 = .pointer (some ⟨w.heap.size + 2, 0, none⟩) ∧ Bo3 w wx #[.slice da l.length dc, .slice fa fs.length fc] #[.int .i64 8, .int .i64 d, .slice xa (rest.length + 1) xc] #[.int .i64 0, .slice none 0 0] 50 55 79)
  case first =>
    go_wp2_with fail
    go_meet
    exact ⟨rfl, rfl, rfl, Bo3.mk' _ _ _ _ _ _ _⟩
  case rest =>
    obtain ⟨rfl, rfl, rfl, hbo⟩ := hcut
    rename World => w1
    have BO := Lib.hid hbo
    have E1 := Lib.hid (E0.out.keep0 hbo.keep)
    have hsz := hbo.size
    obtain ⟨⟨q0, q1⟩, _⟩ := blk2 hbo.b0
    obtain ⟨⟨x0, x1, x2⟩, _⟩ := blk3 hbo.b1
    obtain ⟨⟨z0, z1⟩, y0, y1⟩ := blk2 hbo.b2
    have HV1 := Lib.hid ((rep_addG HV.out (k := w.heap.size + 2) (by omega)).keep0 hbo.keep)
    have HK1 := Lib.hid ((rep_addG HK.out (k := w.heap.size + 2) (by omega)).keep0 hbo.keep)
    have HD1 := Lib.hid ((rep_addG HD.out (k := w.heap.size + 2) (by omega)).keep0 hbo.keep)
    have HF1 := Lib.hid ((rep_addG HF.out (k := w.heap.size + 2) (by omega)).keep0 hbo.keep)
    have HEP := Lib.hid (EP.out.inn (k := w.heap.size + 2) BO.out.keep (by omega) (by omega))
    clear hbo
    have HBZ := Lib.hid (show w.heap.size + 2 ∉ be :: ob o from fun hm => by have := E0.out.mlt _ hm; omega)
    have HBP := Lib.hid (show w.heap.size ∉ be :: ob o from fun hm => by have := E0.out.mlt _ hm; omega)
    have HBX := Lib.hid (show w.heap.size + 1 ∉ be :: ob o from fun hm => by have := E0.out.mlt _ hm; omega)
    have HB3 := Lib.hid (show w.heap.size + 3 ∉ be :: ob o from fun hm => by have := E0.out.mlt _ hm; omega)
    obtain ⟨b, off, ca, cc, rfl, hbG, hbl, a0, a1, a2, rk⟩ := kids_at' HK1.out (i := 0) (by simp)
    simp only [List.getElem_cons_zero, Nat.zero_mul, Nat.add_zero] at a0 a1 a2 rk
    have RK := Lib.hid rk
    have HBB := Lib.hid (show b ∉ be :: ob o from fun hm => hbG ((List.mem_cons.1 hm).elim (fun h => by simp [h]) (fun h => by simp [h])))
    clear hbG rk
    go_upto_region 7 with fail
    go_cut [9] (fun s9 wx => ∃ (k9 : Nat) (v : V) (av : Option Addr) (cv c5 : Nat) (sp5 : Bool) (o5 : Value) (os5 : List Int), s9 = .pointer (some ⟨k9, 0, none⟩) ∧ Bv l fs be Bd ((w.heap.size + 2) :: G) most c os (esz a) (d) o w1 k9 wx v av cv c5 sp5 o5 os5)
    case first =>
      have KA := Lib.hid (show Keep [] w1 (w1.alloc (.cells #[.int .i64 0, .slice none 0 0] 79)) from (Keep.refl _ _).alloc _)
      have HEA := Lib.hid (show Ep be Bd l fs (.slice da l.length dc) (.slice fa fs.length fc) ((w.heap.size + 3) :: (w.heap.size + 2) :: G) (w1.alloc (.cells #[.int .i64 0, .slice none 0 0] 79)) most c o os from HEP.out.inn (k := w.heap.size + 3) KA.out (by omega) (by simp; omega))
      have BA := Lib.hid (show (w1.alloc (.cells #[.int .i64 0, .slice none 0 0] 79)).heap[w.heap.size + 3]? = some (.cells #[.int .i64 0, .slice none 0 0] 79 (0, 0)) from by rw [← hsz]; exact heap_alloc_new w1 _)
      have RKA := Lib.hid ((rep_addG RK.out (k := w.heap.size + 3) (by omega)).keep0 KA.out)
      have HVA := Lib.hid ((rep_addG HV1.out (k := w.heap.size + 3) (by omega)).keep0 KA.out)
      go_region_held3 (fun w' => w'.cell? ⟨w.heap.size, 0, none⟩ = some (.slice da l.length dc) ∧ w'.cell? ⟨w.heap.size, 1, none⟩ = some (.slice fa fs.length fc) ∧ w'.cell? ⟨w.heap.size + 1, 2, none⟩ = some (.slice (some ⟨b, off, none⟩) (rest.length + 1) xc) ∧ w'.cell? ⟨b, off, none⟩ = some (.int .i64 a.op) ∧ w'.cell? ⟨b, off + 1, none⟩ = some (.int .i64 a.num) ∧ w'.cell? ⟨b, off + 2, none⟩ = some (.slice ca a.kids.length cc))
        (first | exact ⟨q0, q1, x2, a0, a1, a2⟩ | exact ⟨q5, q6, x5, a5, a6, a7⟩ | (have KS := KA.out; exact ⟨KS.cellEq q0 (by simp), KS.cellEq q1 (by simp), KS.cellEq x2 (by simp), KS.cellEq a0 (by simp), KS.cellEq a1 (by simp), KS.cellEq a2 (by simp)⟩) | (have KS := (Keep.refl [] w5).alloc (.cells #[.int .i64 0, .slice none 0 0] 79); exact ⟨KS.cellEq q5 (by simp), KS.cellEq q6 (by simp), KS.cellEq x5 (by simp), KS.cellEq a5 (by simp), KS.cellEq a6 (by simp), KS.cellEq a7 (by simp)⟩) | (have KS := (Keep.refl [] w5).alloc (.cells #[.int .i64 v.num, .slice av v.kids.length cv] 79); exact ⟨KS.cellEq q5 (by simp), KS.cellEq q6 (by simp), KS.cellEq x5 (by simp), KS.cellEq a5 (by simp), KS.cellEq a6 (by simp), KS.cellEq a7 (by simp)⟩) | (have KS := Keep.put2' w5 (w.heap.size + 3) (.int .i64 v.num) (.slice av v.kids.length cv); exact ⟨KS.cellEq q5 (by simp), KS.cellEq q6 (by simp), KS.cellEq x5 (by simp), KS.cellEq a5 (by simp; omega), KS.cellEq a6 (by simp; omega), KS.cellEq a7 (by simp; omega)⟩) | go_keep)
        (first
        | (go_at_call 33
           with_reducible show Calls _ _ _ w1.drew _
           refine (IH.out be Bd _ _ ((w.heap.size + 2) :: G) w1.drew most c o os HEP.out.drew a ca cc RK.out.drew vs _ HV1.out.drew vars (d) HVT.out HTA.out (by omega) (by omega) (by omega)).mono ?_
           rintro e w5 ⟨v, av, cv, c5, sp5, o5, os5, rfl, hty, hst, hev, hc5, hm5, ho5, hrv⟩
           have S5 := Lib.hid (show St be o w1 o5 w5 from (St.of0 (Keep.refl _ _).drew).trans hst)
           have BVV := Lib.hid (Bv.a S5.out hev hty hc5 hm5 ho5 hrv)
           have TY := Lib.hid hty
           have q5 := S5.out.keep.cellEq q0 HBP.out
           have q6 := S5.out.keep.cellEq q1 HBP.out
           have x5 := S5.out.keep.cellEq x2 HBX.out
           have a5 := S5.out.keep.cellEq a0 HBB.out
           have a6 := S5.out.keep.cellEq a1 HBB.out
           have a7 := S5.out.keep.cellEq a2 HBB.out
           have hs5 := S5.out.keep.size
           clear hst hev hty hrv)
        | (go_at_call 33
           with_reducible show Calls _ _ _ (World.drew (w1.alloc (.cells #[.int .i64 0, .slice none 0 0] 79))) _
           refine (IH.out be Bd _ _ ((w.heap.size + 3) :: (w.heap.size + 2) :: G) (w1.alloc (.cells #[.int .i64 0, .slice none 0 0] 79)).drew most c o os HEA.out.drew a ca cc RKA.out.drew vs _ HVA.out.drew vars (d) HVT.out HTA.out (by omega) (by omega) (by omega)).mono ?_
           rintro e w5 ⟨v, av, cv, c5, sp5, o5, os5, rfl, hty, hst, hev, hc5, hm5, ho5, hrv⟩
           have S5 := Lib.hid (show St be o w1 o5 w5 from (St.of0 KA.out.drew).trans hst)
           have BVV := Lib.hid (Bv.b (k := w.heap.size + 3) (T := #[]) KA.out (by omega) (by simp; omega) E1.out BA.out ((St.of0 (Keep.refl _ _).drew).trans hst) hev hty hc5 hm5 ho5 hrv)
           obtain ⟨⟨b0, b1⟩, d0, d1⟩ := blk2 ((hst.keep.block (w.heap.size + 3) (by simp; omega) HB3.out).trans (show (w1.alloc (.cells #[.int .i64 0, .slice none 0 0] 79)).drew.heap[w.heap.size + 3]? = _ from BA.out))
           have TY := Lib.hid hty
           have q5 := S5.out.keep.cellEq q0 HBP.out
           have q6 := S5.out.keep.cellEq q1 HBP.out
           have x5 := S5.out.keep.cellEq x2 HBX.out
           have a5 := S5.out.keep.cellEq a0 HBB.out
           have a6 := S5.out.keep.cellEq a1 HBB.out
           have a7 := S5.out.keep.cellEq a2 HBB.out
           have hs5 := S5.out.keep.size
           clear hst hev hty hrv))
      all_goals
        go_wp2
        go_meet
        first
        | exact ⟨_, v, av, cv, c5, sp5, o5, os5, rfl, BVV.out⟩
        | exact ⟨_, v, av, cv, c5, sp5, o5, os5, rfl, BVV.out.keep0 (Keep.refl _ _).drew⟩
    case rest =>
      obtain ⟨k9, v, av, cv, c5, sp5, o5, os5, rfl, hbv⟩ := hcut
      rename World => w2
      have BV := Lib.hid hbv
      have S2 := Lib.hid hbv.st
      have E2 := Lib.hid hbv.ev
      have hs2 := hbv.st.keep.size
      have hk90 := hbv.k0
      have hk91 := hbv.k1
      obtain ⟨hc5, hm5⟩ := hbv.hc
      have ho5 := hbv.hos
      have HK2 := Lib.hid (hbv.st.rep (rep_addG HK1.out hbv.k0))
      have HV2 := Lib.hid (hbv.st.rep (rep_addG HV1.out hbv.k0))
      have HD2 := Lib.hid (hbv.st.rep (rep_addG HD1.out hbv.k0))
      have HF2 := Lib.hid (hbv.st.rep (rep_addG HF1.out hbv.k0))
      have RV := Lib.hid hbv.rep
      have HKN := Lib.hid hbv.hko
      have TYV := Lib.hid hbv.ty
      have hkeep := hbv.st.keep
      replace q0 := hkeep.cellEq q0 HBP.out
      replace q1 := hkeep.cellEq q1 HBP.out
      replace x0 := hkeep.cellEq x0 HBX.out
      replace x1 := hkeep.cellEq x1 HBX.out
      replace x2 := hkeep.cellEq x2 HBX.out
      clear a0 a1 a2 z0 z1 y0 y1
      obtain ⟨⟨z0, z1⟩, y0, y1⟩ := blk2 ((hkeep.block (w.heap.size + 2) (by omega) HBZ.out).trans BO.out.b2)
      obtain ⟨⟨v0, v1⟩, _⟩ := blk2 hbv.blk
      obtain ⟨⟨k0, k1, k2, k3⟩, g0, g1, g2, g3⟩ := blk4 hbv.ev.blk
      have HG2 := Lib.hid (fun g (hg : g ∈ k9 :: (w.heap.size + 2) :: G) => show g < w2.heap.size from by
        simp only [List.mem_cons] at hg
        rcases hg with h | h | h
        · omega
        · omega
        · have := HG.out g h; omega)
      clear hbv hkeep
      cases sp5 with
      | true =>
        go_wp2
        refine bodyPost_ret (v := .agg #[.int .i64 (0), .slice none 0 0]) (by simp [results, Tryd.results33, go_sem, z0, z1]) rfl ((evk_post (w0 := w1) (W := w2) (k := w.heap.size + 2) (x := .mk 0 []) (a := none) (cap := 0) BO.out.keep (by omega) (by omega) E0.out S2.out E2.out (Rep.nil _ _ _ _ _ (by omega)) (by simp) (by omega) (by omega) (by first | omega | (simp; done) | (simp; omega))))
      | false =>
        have HE2 := Lib.hid (show Ep be Bd l fs (.slice da l.length dc) (.slice fa fs.length fc) (k9 :: (w.heap.size + 2) :: G) w2 most c5 o5 os5 from ⟨E2.out, HD2.out, HF2.out, HG2.out, hm5, hmm.2⟩)
        have HGI := Lib.hid (fun g (hg : g ∈ be :: (ob o5 ++ k9 :: (w.heap.size + 2) :: G)) => show g < w2.heap.size from by
          simp only [List.mem_cons, List.mem_append] at hg
          rcases hg with h | h | h
          · have := E2.out.blt; omega
          · exact (E2.out.olt g h).2
          · exact HG2.out g (by simpa using h))
        replace TYV := Lib.hid (TYV.out rfl)
        have hkz : w.heap.size + 2 ≠ k9 := by omega
        obtain ⟨j, us, hj, hjt, hju, hj3, hje, hja, hjc⟩ := HCH.out v TYV.out
        have hja := hja a (by simp)
        have HJT := Lib.hid hjt
        have HJC := Lib.hid hjc
        have hjl : (j : Int) < (rest.length : Int) + 1 := by simp at hj; omega
        have hjm : j < rest.length + 1 := by simpa using hj
        have hj0 : (0 : Int) ≤ (j : Int) := by omega
        obtain ⟨b', off', ja, jc, hbb, hbG2, hbl2, l0, m0, n0, rj⟩ := kids_at' HK2.out (i := j) hj
        injection hbb with hbb
        injection hbb with hb1 hb2
        subst hb1 hb2
        obtain ⟨kj, hkj⟩ : ∃ y, y = (a :: rest)[j] := ⟨_, rfl⟩
        rw [← hkj] at l0 m0 n0 rj hje hja hjt
        have HJT := Lib.hid hjt
        have RJ := Lib.hid rj
        have HBP5 := Lib.hid (show w.heap.size ∉ be :: ob o5 from fun hm => by
          rcases List.mem_cons.1 hm with h | h
          · omega
          · rcases S2.out.at_ _ h with h | h
            · exact HBP.out (by simp [h])
            · omega)
        have HBX5 := Lib.hid (show w.heap.size + 1 ∉ be :: ob o5 from fun hm => by
          rcases List.mem_cons.1 hm with h | h
          · omega
          · rcases S2.out.at_ _ h with h | h
            · exact HBX.out (by simp [h])
            · omega)
        have HBZ5 := Lib.hid (show w.heap.size + 2 ∉ be :: ob o5 from fun hm => by
          rcases List.mem_cons.1 hm with h | h
          · omega
          · rcases S2.out.at_ _ h with h | h
            · exact HBZ.out (by simp [h])
            · omega)
        have HBB5 := Lib.hid (show b ∉ be :: ob o5 from fun hm => hbG2 ((List.mem_cons.1 hm).elim (fun h => by simp [h]) (fun h => by simp [h])))
        have hbz : b ≠ w.heap.size + 2 := fun h => hbG2 (by simp [h])
        have HBV5 := Lib.hid (show k9 ∉ be :: ob o5 from fun hm => (List.mem_cons.1 hm).elim (fun h => by have := E0.out.blt; omega) (fun h => HKN.out h))
        clear hbG2 rj hjt hjc hkj
        obtain ⟨vn, hvn⟩ : ∃ u, u = vs ++ v.kids := ⟨_, rfl⟩
        have hkl : v.kids.length ≤ 3 := by have := hju.1; omega
        have HX := Lib.hid (show ∀ W, Keep [] w2 W → Calls Tryd.prog 47 #[.slice va vs.length vc, .slice av v.kids.length cv] W (OwnV (be :: (ob o5 ++ k9 :: (w.heap.size + 2) :: G)) W vn) from fun W hW =>
          hvn ▸ extendValues_any _ _ vs v.kids W (HV2.out.keep0 hW) ((RV.out).keep0 hW) (by omega) (by omega) (fun g hg => by have := HGI.out g hg; have := hW.size; omega))
        have HC := Lib.hid (show ∀ W, Keep [] w2 W → Calls Tryd.prog 48 #[.agg #[.slice da l.length dc, .slice fa fs.length fc], .agg #[.int .i64 8, .int .i64 d, .slice (some ⟨b, off, none⟩) (rest.length + 1) xc], .agg #[.int .i64 v.num, .slice av v.kids.length cv]] W (fun e w' => e = .returned (.int .i64 (j : Int)) ∧ Keep [] W w') from fun W hW => HJC.out _ W _ _ _ _ (HD2.out.keep0 hW))
        have HVN := Lib.hid (show VTs l (sgs fs) vn (vars ++ us) from hvn ▸ HVT.out.app hju)
        clear hvn hju HJC
        go_wp2
        go_region_held3 (fun w' => w'.cell? ⟨w.heap.size + 1, 0, none⟩ = some (.int .i64 8) ∧ w'.cell? ⟨w.heap.size + 1, 1, none⟩ = some (.int .i64 d) ∧ w'.cell? ⟨w.heap.size, 0, none⟩ = some (.slice da l.length dc) ∧ w'.cell? ⟨w.heap.size, 1, none⟩ = some (.slice fa fs.length fc) ∧ w'.cell? ⟨w.heap.size + 1, 2, none⟩ = some (.slice (some ⟨b, off, none⟩) (rest.length + 1) xc) ∧ w'.cell? ⟨b, off + j * 3, none⟩ = some (.int .i64 kj.op) ∧ w'.cell? ⟨b, off + j * 3 + 1, none⟩ = some (.int .i64 kj.num) ∧ w'.cell? ⟨b, off + j * 3 + 2, none⟩ = some (.slice ja kj.kids.length jc) ∧ w'.cell? ⟨k9, 0, none⟩ = some (.int .i64 v.num) ∧ w'.cell? ⟨k9, 1, none⟩ = some (.slice av v.kids.length cv))
          (first | exact ⟨x0, x1, q0, q1, x2, l0, m0, n0, v0, v1⟩ | exact ⟨i6, j6, q6, p6, x6, l6, m6, n6, v6, u6⟩ | exact ⟨i7, j7, q7, p7, x7, l7, m7, n7, v7, u7⟩ | exact ⟨i8, j8, q8, p8, x8, l8, m8, n8, v8, u8⟩ | (have KS := Keep.put2' w8 (w.heap.size + 2) (.int .i64 v'.num) (.slice av' v'.kids.length cv'); exact ⟨KS.cellEq i8 (by simp), KS.cellEq j8 (by simp), KS.cellEq q8 (by simp), KS.cellEq p8 (by simp), KS.cellEq x8 (by simp), KS.cellEq l8 (by simpa using hbz), KS.cellEq m8 (by simpa using hbz), KS.cellEq n8 (by simpa using hbz), KS.cellEq v8 (by simpa using hkz.symm), KS.cellEq u8 (by simpa using hkz.symm)⟩) | go_keep)
          (first
          | (go_at_call 47
             with_reducible show Calls _ _ _ w2.drew _
             refine (HX.out w2.drew (Keep.refl _ _).drew).mono ?_
             rintro e w6 ⟨ae, ce, rfl, hk7, ho7⟩
             have R6 := Lib.hid ho7.rep
             have K6 := Lib.hid (show Keep [] w2 w6 from (Keep.refl _ _).drew.then0 hk7)
             have q6 := K6.out.cellEq q0 (by simp)
             have p6 := K6.out.cellEq q1 (by simp)
             have x6 := K6.out.cellEq x2 (by simp)
             have l6 := K6.out.cellEq l0 (by simp)
             have m6 := K6.out.cellEq m0 (by simp)
             have n6 := K6.out.cellEq n0 (by simp)
             have v6 := K6.out.cellEq v0 (by simp)
             have u6 := K6.out.cellEq v1 (by simp)
             have hs6 := K6.out.size
             have i6 := K6.out.cellEq x0 (by simp)
             have j6 := K6.out.cellEq x1 (by simp)
             clear hk7 ho7)
          | (go_at_call 48
             with_reducible show Calls _ _ _ w2.drew _
             refine (HC.out w2.drew (Keep.refl _ _).drew).mono ?_
             rintro e w6 ⟨rfl, hk7⟩
             have K6 := Lib.hid (show Keep [] w2 w6 from (Keep.refl _ _).drew.then0 hk7)
             have q6 := K6.out.cellEq q0 (by simp)
             have p6 := K6.out.cellEq q1 (by simp)
             have x6 := K6.out.cellEq x2 (by simp)
             have l6 := K6.out.cellEq l0 (by simp)
             have m6 := K6.out.cellEq m0 (by simp)
             have n6 := K6.out.cellEq n0 (by simp)
             have v6 := K6.out.cellEq v0 (by simp)
             have u6 := K6.out.cellEq v1 (by simp)
             have hs6 := K6.out.size
             have i6 := K6.out.cellEq x0 (by simp)
             have j6 := K6.out.cellEq x1 (by simp)
             clear hk7)
          | (go_at_call 47
             with_reducible show Calls _ _ _ w6 _
             refine (HX.out w6 K6.out).mono ?_
             rintro e w7 ⟨ae, ce, rfl, hk7, ho7⟩
             have R7 := Lib.hid ho7.rep
             have K7 := Lib.hid (show Keep [] w2 w7 from K6.out.then0 hk7)
             have q7 := K7.out.cellEq q0 (by simp)
             have p7 := K7.out.cellEq q1 (by simp)
             have x7 := K7.out.cellEq x2 (by simp)
             have l7 := K7.out.cellEq l0 (by simp)
             have m7 := K7.out.cellEq m0 (by simp)
             have n7 := K7.out.cellEq n0 (by simp)
             have v7 := K7.out.cellEq v0 (by simp)
             have u7 := K7.out.cellEq v1 (by simp)
             have hs7 := K7.out.size
             have i7 := K7.out.cellEq x0 (by simp)
             have j7 := K7.out.cellEq x1 (by simp)
             clear hk7 ho7)
          | (go_at_call 48
             with_reducible show Calls _ _ _ w6 _
             refine (HC.out w6 K6.out).mono ?_
             rintro e w7 ⟨rfl, hk7⟩
             have R7 := Lib.hid (R6.out.keep0 hk7)
             have K7 := Lib.hid (show Keep [] w2 w7 from K6.out.then0 hk7)
             have q7 := K7.out.cellEq q0 (by simp)
             have p7 := K7.out.cellEq q1 (by simp)
             have x7 := K7.out.cellEq x2 (by simp)
             have l7 := K7.out.cellEq l0 (by simp)
             have m7 := K7.out.cellEq m0 (by simp)
             have n7 := K7.out.cellEq n0 (by simp)
             have v7 := K7.out.cellEq v0 (by simp)
             have u7 := K7.out.cellEq v1 (by simp)
             have hs7 := K7.out.size
             have i7 := K7.out.cellEq x0 (by simp)
             have j7 := K7.out.cellEq x1 (by simp)
             clear hk7)
          | (go_at_call 33
             refine (IH.out be Bd _ _ (k9 :: (w.heap.size + 2) :: G) w7 most c5 o5 os5 (HE2.out.keep0 K7.out) kj ja jc (RJ.out.keep0 K7.out) vn _ R7.out (vars ++ us) t HVN.out HJT.out (by simp; omega) (by omega) (by omega)).mono ?_
             rintro e w8 ⟨v', av', cv', c8, sp8, o8, os8, rfl, hty, hst, hev, hc8, hm8, ho8, hrv⟩
             have i8 := hst.keep.cellEq i7 HBX5.out
             have j8 := hst.keep.cellEq j7 HBX5.out
             have S8 := Lib.hid (show St be o5 w2 o8 w8 from (St.of0 K7.out).trans hst)
             have E8 := Lib.hid hev
             have TY8 := Lib.hid hty
             have R8 := Lib.hid hrv
             have q8 := hst.keep.cellEq q7 HBP5.out
             have p8 := hst.keep.cellEq p7 HBP5.out
             have x8 := hst.keep.cellEq x7 HBX5.out
             have l8 := hst.keep.cellEq l7 HBB5.out
             have m8 := hst.keep.cellEq m7 HBB5.out
             have n8 := hst.keep.cellEq n7 HBB5.out
             have v8 := hst.keep.cellEq v7 HBV5.out
             have u8 := hst.keep.cellEq u7 HBV5.out
             clear hst hev hty hrv
             obtain ⟨⟨z2, z3⟩, y2, y3⟩ := blk2 ((S8.out.keep.block (w.heap.size + 2) (by omega) HBZ5.out).trans ((S2.out.keep.block (w.heap.size + 2) (by omega) HBZ.out).trans BO.out.b2))))
        all_goals
          go_wp2
          refine bodyPost_ret (v := .agg #[.int .i64 (v'.num), .slice av' v'.kids.length cv']) (by simp [results, Tryd.results33, go_sem, z2, z3]) rfl ((evk_post (w0 := w1) (W := w8) (k := w.heap.size + 2) (x := v') (a := av') (cap := cv') BO.out.keep (by omega) (by omega) E0.out (S2.out.trans S8.out) E8.out (R8.out.sub fun g hg => .inl (by simp only [List.mem_cons, List.mem_append] at hg ⊢; rcases hg with h | h | h | h <;> simp [h])) TY8.out (by omega) (by omega) (by first | omega | (simp; done) | (simp; omega))))
end Go.Proofs.YtnjincgemmgllaaDoor
