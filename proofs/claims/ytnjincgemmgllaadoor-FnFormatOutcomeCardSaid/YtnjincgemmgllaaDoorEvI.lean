/- The walk of the evaluation's eval: operations. -/
import Derived.Test.YtnjincgemmgllaaDoorEvH
namespace Go.Proofs.YtnjincgemmgllaaDoor
open Go.RowKit
attribute [local go_sem ↓] Go.wp_at_zero Go.wp_at_succ
theorem rep_addL {be : Nat} {o : Value} {G L : List Nat} {w : World} {d : D} {v : Value} (h : Rep (be :: (ob o ++ G)) w d v) (hL : ∀ g, g ∈ L → w.heap.size ≤ g) : Rep (be :: (ob o ++ (L ++ G))) w d v := h.sub fun g hg => by
  simp only [List.mem_cons, List.mem_append] at hg ⊢
  rcases hg with h | h | h | h
  · exact .inl (.inl h)
  · exact .inl (.inr (.inl h))
  · exact .inr (hL g h)
  · exact .inl (.inr (.inr h))
theorem own_apart {G : List Nat} {B : Nat} {w : World} {E : TypeId} {sz : Nat} {v : Value} {es : List (List D)} (h : Own G B w E sz v es) : ∀ g, g ∈ ob v → g ∉ G := h.apart
/- the state of the loop over the operands -/
structure Lp (l : List Dc) (fs : List Fn) (be Bd : Nat) (G : List Nat) (most c : Nat) (os : List Int) (kids : List Ex) (ts : List Int) (o : Value) (w1 : World) (n3 k : Nat) (us : List V) (c' : Nat) (o' : Value) (os' : List Int) (s : Value) (wr : World) : Prop where
  ty : VTs l (sgs fs) us (ts.take k)
  st : St be o w1 o' wr
  ev : Ev be Bd wr most c' false o' os'
  hc : c ≤ c' ∧ c' ≤ most
  hos : os'.length ≤ os.length + eszL (kids.take k) + 31 * (c' - c)
  own : Own (be :: (ob o' ++ G)) n3 wr 79 2 s (us.map encV)
theorem Lp.next {l : List Dc} {fs : List Fn} {be Bd : Nat} {G : List Nat} {most c : Nat} {os : List Int} {kids : List Ex} {ts : List Int} {o : Value} {w1 : World} {n3 k : Nat} {us : List V} {c' : Nat} {o' : Value} {os' : List Int} {s : Value} {wr : World}
    (h : Lp l fs be Bd G most c os kids ts o w1 n3 k us c' o' os' s wr) (hk : k < kids.length) (hkt : kids.length = ts.length) (hn : w1.heap.size ≤ n3) {k9 : Nat} {w2 : World} {v : V} {av : Option Addr} {cv c5 : Nat} {o5 : Value} {os5 : List Int} {G' : List Nat} {t : Int} (ht : t = ts[k]'(by omega))
    (hb : Bv l fs be Bd G' most c' os' (esz kids[k]) t o' wr k9 w2 v av cv c5 false o5 os5) {ob9 : Obj} {v' : Value} {w' : World} (ho : Own (be :: (ob o5 ++ G)) n3 w' 79 2 v' (us.map encV ++ [encV v])) (hg : Grew (be :: (ob o5 ++ G)) s v' (w2.alloc ob9) w') :
    Lp l fs be Bd G most c os kids ts o w1 n3 (k + 1) (us ++ [v]) c5 o5 os5 v' w' := by
  have hs2 := own_st h.own hb.st
  have ha := own_apart hs2
  obtain ⟨h1, h2⟩ := h.hc
  obtain ⟨h3, h4⟩ := hb.hc
  have h5 := h.hos
  have h6 := hb.hos
  have h7 := eszL_take hk
  have h8 := h.st.trans hb.st
  refine ⟨h.ty.snoc (by omega) (ht ▸ hb.ty rfl), ⟨(h8.keep.alloc ob9).trans hg.keep fun m hm => .inr (by have := (hs2.lt m hm).1; omega), h8.at_⟩, (hb.ev.keep0 ((Keep.refl _ _).alloc ob9)).keepM hg.keep (fun m hm => ?_), ⟨by omega, h4⟩, by omega, by rw [List.map_append]; exact ho⟩
  have := ha m hm
  simp only [List.mem_cons, List.mem_append, not_or] at this
  exact ⟨this.1, this.2.1⟩
set_option maxRecDepth 100000 in
set_option maxHeartbeats 8000000 in
theorem eval_op {l : List Dc} {fs : List Fn} {N : Nat} (hP : Pr l fs) {vars : List Int} {op num t : Int} {kids : List Ex} {ts : List Int} (ih : EvalC l fs N) (h12 : op ≠ 12) (h13 : op ≠ 13) (h7 : op ≠ 7) (h8 : op ≠ 8) (ho : Opd l (sgs fs) vars (.mk op num kids) t ts) : EvAt l fs N (.mk op num kids) vars t := by
  intro be Bd dv fv G w most c o os hep xa xc hxk vs vv hvv hvt hvb hos hN
  simp only [Ex.op, Ex.num, Ex.kids] at hxk ⊢
  have HP := Lib.hid hP
  have EP := Lib.hid hep
  have E0 := Lib.hid hep.ev
  have HD := Lib.hid hep.hd
  have HF := Lib.hid hep.hf
  have HG := Lib.hid hep.hG
  have hmm := hep.hm
  have HV := Lib.hid hvv
  have HK := Lib.hid hxk
  have HVT := Lib.hid hvt
  have HVL := Lib.hid hvt.1
  have hvs9 : vs.length ≤ 200 := by have := hvt.1; omega
  have blt := hep.ev.blt
  obtain ⟨da, dc, rfl, _⟩ := decls_form hep.hd
  obtain ⟨fa, fc, rfl, _⟩ := funcs_form hep.hf
  obtain ⟨va, vc, rfl, hvl9, hvc⟩ := vals_form hvv
  clear hP hep hvv hxk hvt 
  have IH := Lib.hid ih
  have OC := Lib.hid (show ∀ us, VTs l (sgs fs) us ts → OpC op num us l fs t 1 N from fun us hu => operate_of HP.out ih (ho.op us hu))
  have HLT := Lib.hid (show kids.length = ts.length from ho.len)
  have HKT := Lib.hid (show ∀ k (h : k < kids.length) (h2 : k < ts.length), HasTy l (sgs fs) vars kids[k] ts[k] from fun k h h2 => ho.kids k h h2)
  have b12 : (op == 12) = false := by simpa using h12
  have b13 : (op == 13) = false := by simpa using h13
  have b7 : (op == 7) = false := by simpa using h7
  have b8 : (op == 8) = false := by simpa using h8
  have hesz : esz (.mk op num kids) = 1 + eszL kids := by simp [esz]
  rw [hesz] at hvb hos hN ⊢
  clear hesz ih ho h12 h13 h7 h8
  go_enter Tryd.func33, Tryd.ntmps33
  go_upto_region 0 with fail
  go_cut [5, 6, 8] (fun s5 s6 s8 wx => s5 = .pointer (some ⟨w.heap.size, 0, none⟩) ∧ s6 = .pointer (some ⟨w.heap.size + 1, 0, none⟩) ∧ s8 = .pointer (some ⟨w.heap.size + 2, 0, none⟩) ∧ Bo3 w wx #[.slice da l.length dc, .slice fa fs.length fc] #[.int .i64 op, .int .i64 num, .slice xa kids.length xc] #[.int .i64 0, .slice none 0 0] 50 55 79)
  case first =>
    go_wp2_with fail
    go_meet
    exact ⟨rfl, rfl, rfl, Bo3.mk' _ _ _ _ _ _ _⟩
  case rest =>
    obtain ⟨rfl, rfl, rfl, hbo⟩ := hcut
    rename World => w1
    have BO := Lib.hid hbo
    have E1 := Lib.hid (E0.out.keep0 hbo.keep)
    have hsz := hbo.size
    obtain ⟨⟨q0, q1⟩, _⟩ := blk2 hbo.b0
    obtain ⟨⟨x0, x1, x2⟩, _⟩ := blk3 hbo.b1
    obtain ⟨⟨z0, z1⟩, y0, y1⟩ := blk2 hbo.b2
    have HV1 := Lib.hid ((rep_addG HV.out (k := w.heap.size + 2) (by omega)).keep0 hbo.keep)
    have HK1 := Lib.hid ((rep_addG HK.out (k := w.heap.size + 2) (by omega)).keep0 hbo.keep)
    have HD1 := Lib.hid ((rep_addG HD.out (k := w.heap.size + 2) (by omega)).keep0 hbo.keep)
    have HF1 := Lib.hid ((rep_addG HF.out (k := w.heap.size + 2) (by omega)).keep0 hbo.keep)
    have HEP := Lib.hid (EP.out.inn (k := w.heap.size + 2) BO.out.keep (by omega) (by omega))
    clear hbo
    have HBZ := Lib.hid (show w.heap.size + 2 ∉ be :: ob o from fun hm => by have := E0.out.mlt _ hm; omega)
    have HBP := Lib.hid (show w.heap.size ∉ be :: ob o from fun hm => by have := E0.out.mlt _ hm; omega)
    have HBX := Lib.hid (show w.heap.size + 1 ∉ be :: ob o from fun hm => by have := E0.out.mlt _ hm; omega)
    have HB3 := Lib.hid (show w.heap.size + 3 ∉ be :: ob o from fun hm => by have := E0.out.mlt _ hm; omega)
    have OW0 := Lib.hid (show Own (be :: (ob o ++ (w.heap.size + 2) :: G)) (w.heap.size + 3) (w1.alloc (.cells #[] 79)) 79 2 (.slice (some ⟨w.heap.size + 3, 0, none⟩) 0 0) [] from by
      rw [← hsz]
      exact Own.made _ _ w1 _ _ (Nat.le_refl _) (fun g hg => by
        simp only [List.mem_cons, List.mem_append] at hg
        rcases hg with h | h | h | h
        · omega
        · exact (E1.out.olt g h).2
        · omega
        · have := HG.out g h; omega))
    go_wp2
    go_loopw [10, 11] (fun s i' wr => ∃ (k : Nat) (us : List V) (c1 : Nat) (o1 : Value) (os1 : List Int), k ≤ kids.length ∧ i' = .int .i64 k ∧ Lp l fs be Bd ((w.heap.size + 2) :: G) most c os kids ts o w1 (w.heap.size + 3) k us c1 o1 os1 s wr) (fun _ i' _ => kids.length - (intOf i').toNat)
    case atStart => exact ⟨0, [], c, o, os, Nat.zero_le _, rfl, ⟨.nil, St.of0 ((Keep.refl _ _).alloc _), E1.out.keep0 ((Keep.refl _ _).alloc _), ⟨Nat.le_refl _, hmm.1⟩, by simp [eszL], OW0.out⟩⟩
    case round =>
      obtain ⟨k, us, c1, o1, os1, hk, rfl, hlp⟩ := hrel
      have LP := Lib.hid hlp
      have ER := Lib.hid hlp.ev
      have SR := Lib.hid hlp.st
      have hsr := hlp.st.keep.size
      obtain ⟨hc1, hm1⟩ := hlp.hc
      have hos1 := hlp.hos
      replace q0 := hlp.st.keep.cellEq q0 HBP.out
      replace q1 := hlp.st.keep.cellEq q1 HBP.out
      replace x0 := hlp.st.keep.cellEq x0 HBX.out
      replace x1 := hlp.st.keep.cellEq x1 HBX.out
      replace x2 := hlp.st.keep.cellEq x2 HBX.out
      clear z0 z1 y0 y1
      obtain ⟨⟨z0, z1⟩, y0, y1⟩ := blk2 ((hlp.st.keep.block (w.heap.size + 2) (by omega) HBZ.out).trans BO.out.b2)
      have HDr := Lib.hid (hlp.st.rep HD1.out)
      have HFr := Lib.hid (hlp.st.rep HF1.out)
      have HGr := Lib.hid (fun g (hg : g ∈ (w.heap.size + 2) :: G) => show g < wr.heap.size from by
        rcases List.mem_cons.1 hg with h | h
        · omega
        · have := HG.out g h; omega)
      have HBPr := Lib.hid (show w.heap.size ∉ be :: ob o1 from fun hm => by
        rcases List.mem_cons.1 hm with h | h
        · omega
        · rcases SR.out.at_ _ h with h | h
          · exact HBP.out (by simp [h])
          · omega)
      have HBXr := Lib.hid (show w.heap.size + 1 ∉ be :: ob o1 from fun hm => by
        rcases List.mem_cons.1 hm with h | h
        · omega
        · rcases SR.out.at_ _ h with h | h
          · exact HBX.out (by simp [h])
          · omega)
      have HBZr := Lib.hid (show w.heap.size + 2 ∉ be :: ob o1 from fun hm => by
        rcases List.mem_cons.1 hm with h | h
        · omega
        · rcases SR.out.at_ _ h with h | h
          · exact HBZ.out (by simp [h])
          · omega)
      have hkl2 := eszL_len kids
      clear hlp
      by_cases hlt : k < kids.length
      · have HKr := Lib.hid (SR.out.rep (rep_addL (L := ob u10) HK1.out (fun g hg => by have := (LP.out.own.lt g hg).1; omega)))
        have HVr := Lib.hid (SR.out.rep (rep_addL (L := ob u10) HV1.out (fun g hg => by have := (LP.out.own.lt g hg).1; omega)))
        have HEP := Lib.hid (show Ep be Bd l fs (.slice da l.length dc) (.slice fa fs.length fc) (ob u10 ++ (w.heap.size + 2) :: G) wr most c1 o1 os1 from ⟨ER.out, SR.out.rep (rep_addL HD1.out (fun g hg => by have := (LP.out.own.lt g hg).1; omega)), SR.out.rep (rep_addL HF1.out (fun g hg => by have := (LP.out.own.lt g hg).1; omega)), fun g hg => (List.mem_append.1 hg).elim (fun h => (LP.out.own.lt g h).2) (fun h => HGr.out g h), hm1, hmm.2⟩)
        have hek : eszL (kids.take k) + esz kids[k] ≤ eszL kids := by have h1 := eszL_take hlt; have h2 := eszL_take_le kids (k + 1); omega
        have hek1 := esz_eq kids[k]
        obtain ⟨b, off, ca, cc, rfl, hbG, hbl, a0, a1, a2, rk⟩ := kids_at' HKr.out hlt
        have RK := Lib.hid rk
        have HBB := Lib.hid (show b ∉ be :: ob o1 from fun hm => hbG ((List.mem_cons.1 hm).elim (fun h => by simp [h]) (fun h => by simp [h])))
        have HB3 := Lib.hid (show wr.heap.size ∉ be :: ob o1 from fun hm => by have := ER.out.mlt _ hm; omega)
        have hlt2 : k < ts.length := by have := HLT.out; omega
        have hk0 : (0 : Int) ≤ (k : Int) := by omega
        have hk1 : (k : Int) < (kids.length : Int) := by omega
        have HTA := Lib.hid (HKT.out k hlt hlt2)
        have HV1 := HVr
        clear hbG rk
        go_upto_region 17 with fail
        go_cut [12] (fun s9 wx => ∃ (k9 : Nat) (v : V) (av : Option Addr) (cv c5 : Nat) (sp5 : Bool) (o5 : Value) (os5 : List Int), s9 = .pointer (some ⟨k9, 0, none⟩) ∧ Bv l fs be Bd (ob u10 ++ (w.heap.size + 2) :: G) most c1 os1 (esz kids[k]) (ts[k]) o1 wr k9 wx v av cv c5 sp5 o5 os5)
        case first =>
          have KA := Lib.hid (show Keep [] wr (wr.alloc (.cells #[.int .i64 0, .slice none 0 0] 79)) from (Keep.refl _ _).alloc _)
          have HEA := Lib.hid (show Ep be Bd l fs (.slice da l.length dc) (.slice fa fs.length fc) (wr.heap.size :: (ob u10 ++ (w.heap.size + 2) :: G)) (wr.alloc (.cells #[.int .i64 0, .slice none 0 0] 79)) most c1 o1 os1 from HEP.out.inn (k := wr.heap.size) KA.out (by omega) (by first | (simp; done) | (simp; omega)))
          have BA := Lib.hid (show (wr.alloc (.cells #[.int .i64 0, .slice none 0 0] 79)).heap[wr.heap.size]? = some (.cells #[.int .i64 0, .slice none 0 0] 79 (0, 0)) from heap_alloc_new wr _)
          have RKA := Lib.hid ((rep_addG RK.out (k := wr.heap.size) (by omega)).keep0 KA.out)
          have HVA := Lib.hid ((rep_addG HV1.out (k := wr.heap.size) (by omega)).keep0 KA.out)
          go_region_held3 (fun w' => w'.cell? ⟨w.heap.size, 0, none⟩ = some (.slice da l.length dc) ∧ w'.cell? ⟨w.heap.size, 1, none⟩ = some (.slice fa fs.length fc) ∧ w'.cell? ⟨w.heap.size + 1, 2, none⟩ = some (.slice (some ⟨b, off, none⟩) kids.length xc) ∧ w'.cell? ⟨b, off + k * 3, none⟩ = some (.int .i64 kids[k].op) ∧ w'.cell? ⟨b, off + k * 3 + 1, none⟩ = some (.int .i64 kids[k].num) ∧ w'.cell? ⟨b, off + k * 3 + 2, none⟩ = some (.slice ca kids[k].kids.length cc))
            (first | exact ⟨q0, q1, x2, a0, a1, a2⟩ | exact ⟨q5, q6, x5, a5, a6, a7⟩ | (have KS := KA.out; exact ⟨KS.cellEq q0 (by simp), KS.cellEq q1 (by simp), KS.cellEq x2 (by simp), KS.cellEq a0 (by simp), KS.cellEq a1 (by simp), KS.cellEq a2 (by simp)⟩) | (have KS := (Keep.refl [] w5).alloc (.cells #[.int .i64 0, .slice none 0 0] 79); exact ⟨KS.cellEq q5 (by simp), KS.cellEq q6 (by simp), KS.cellEq x5 (by simp), KS.cellEq a5 (by simp), KS.cellEq a6 (by simp), KS.cellEq a7 (by simp)⟩) | (have KS := (Keep.refl [] w5).alloc (.cells #[.int .i64 v.num, .slice av v.kids.length cv] 79); exact ⟨KS.cellEq q5 (by simp), KS.cellEq q6 (by simp), KS.cellEq x5 (by simp), KS.cellEq a5 (by simp), KS.cellEq a6 (by simp), KS.cellEq a7 (by simp)⟩) | (have KS := Keep.put2' w5 (wr.heap.size) (.int .i64 v.num) (.slice av v.kids.length cv); exact ⟨KS.cellEq q5 (by first | (simp; done) | (simp; omega)), KS.cellEq q6 (by first | (simp; done) | (simp; omega)), KS.cellEq x5 (by first | (simp; done) | (simp; omega)), KS.cellEq a5 (by first | (simp; done) | (simp; omega)), KS.cellEq a6 (by first | (simp; done) | (simp; omega)), KS.cellEq a7 (by first | (simp; done) | (simp; omega))⟩) | go_keep)
            (first
            | (go_at_call 33
               with_reducible show Calls _ _ _ wr.drew _
               refine (IH.out be Bd _ _ (ob u10 ++ (w.heap.size + 2) :: G) wr.drew most c1 o1 os1 HEP.out.drew kids[k] ca cc RK.out.drew vs _ HV1.out.drew vars (ts[k]) HVT.out HTA.out (by omega) (by omega) (by omega)).mono ?_
               rintro e w5 ⟨v, av, cv, c5, sp5, o5, os5, rfl, hty, hst, hev, hc5, hm5, ho5, hrv⟩
               have S5 := Lib.hid (show St be o1 wr o5 w5 from (St.of0 (Keep.refl _ _).drew).trans hst)
               have BVV := Lib.hid (Bv.a S5.out hev hty hc5 hm5 ho5 hrv)
               have TY := Lib.hid hty
               have q5 := S5.out.keep.cellEq q0 HBPr.out
               have q6 := S5.out.keep.cellEq q1 HBPr.out
               have x5 := S5.out.keep.cellEq x2 HBXr.out
               have a5 := S5.out.keep.cellEq a0 HBB.out
               have a6 := S5.out.keep.cellEq a1 HBB.out
               have a7 := S5.out.keep.cellEq a2 HBB.out
               have hs5 := S5.out.keep.size
               clear hst hev hty hrv)
            | (go_at_call 33
               with_reducible show Calls _ _ _ (World.drew (wr.alloc (.cells #[.int .i64 0, .slice none 0 0] 79))) _
               refine (IH.out be Bd _ _ (wr.heap.size :: (ob u10 ++ (w.heap.size + 2) :: G)) (wr.alloc (.cells #[.int .i64 0, .slice none 0 0] 79)).drew most c1 o1 os1 HEA.out.drew kids[k] ca cc RKA.out.drew vs _ HVA.out.drew vars (ts[k]) HVT.out HTA.out (by omega) (by omega) (by omega)).mono ?_
               rintro e w5 ⟨v, av, cv, c5, sp5, o5, os5, rfl, hty, hst, hev, hc5, hm5, ho5, hrv⟩
               have S5 := Lib.hid (show St be o1 wr o5 w5 from (St.of0 KA.out.drew).trans hst)
               have BVV := Lib.hid (Bv.b (k := wr.heap.size) (T := #[]) KA.out (by omega) (by first | (simp; done) | (simp; omega)) ER.out BA.out ((St.of0 (Keep.refl _ _).drew).trans hst) hev hty hc5 hm5 ho5 hrv)
               obtain ⟨⟨b0, b1⟩, d0, d1⟩ := blk2 ((hst.keep.block wr.heap.size (by simp) HB3.out).trans (show (wr.alloc (.cells #[.int .i64 0, .slice none 0 0] 79)).drew.heap[wr.heap.size]? = _ from BA.out))
               have TY := Lib.hid hty
               have q5 := S5.out.keep.cellEq q0 HBPr.out
               have q6 := S5.out.keep.cellEq q1 HBPr.out
               have x5 := S5.out.keep.cellEq x2 HBXr.out
               have a5 := S5.out.keep.cellEq a0 HBB.out
               have a6 := S5.out.keep.cellEq a1 HBB.out
               have a7 := S5.out.keep.cellEq a2 HBB.out
               have hs5 := S5.out.keep.size
               clear hst hev hty hrv))
          all_goals
            go_wp2
            go_meet
            first
            | exact ⟨_, v, av, cv, c5, sp5, o5, os5, rfl, BVV.out⟩
            | exact ⟨_, v, av, cv, c5, sp5, o5, os5, rfl, BVV.out.keep0 (Keep.refl _ _).drew⟩
        case rest =>
          obtain ⟨k9, v, av, cv, c5, sp5, o5, os5, rfl, hbv⟩ := hcut
          rename World => w2
          have BV := Lib.hid hbv
          have S2 := Lib.hid hbv.st
          have E2 := Lib.hid hbv.ev
          have hs2 := hbv.st.keep.size
          have hk90 := hbv.k0
          have hk91 := hbv.k1
          obtain ⟨hc5, hm5⟩ := hbv.hc
          have ho5 := hbv.hos
          have RV := Lib.hid hbv.rep
          have OW2 := Lib.hid (own_st LP.out.own hbv.st)
          have hkeep := hbv.st.keep
          replace q0 := hkeep.cellEq q0 HBPr.out
          replace q1 := hkeep.cellEq q1 HBPr.out
          replace x0 := hkeep.cellEq x0 HBXr.out
          replace x1 := hkeep.cellEq x1 HBXr.out
          replace x2 := hkeep.cellEq x2 HBXr.out
          clear a0 a1 a2 z0 z1 y0 y1
          obtain ⟨⟨z0, z1⟩, y0, y1⟩ := blk2 ((hkeep.block (w.heap.size + 2) (by omega) HBZr.out).trans ((SR.out.keep.block (w.heap.size + 2) (by omega) HBZ.out).trans BO.out.b2))
          obtain ⟨⟨v0, v1⟩, _⟩ := blk2 hbv.blk
          obtain ⟨⟨k0, k1, k2, k3⟩, g0, g1, g2, g3⟩ := blk4 hbv.ev.blk
          clear hbv hkeep
          cases sp5 with
          | true =>
            go_wp2
            refine bodyPost_ret (v := .agg #[.int .i64 (0), .slice none 0 0]) (by simp [results, Tryd.results33, go_sem, z0, z1]) rfl ((evk_post (w0 := w1) (W := w2) (k := w.heap.size + 2) (x := .mk 0 []) (a := none) (cap := 0) BO.out.keep (by omega) (by omega) E0.out (SR.out.trans S2.out) E2.out (Rep.nil _ _ _ _ _ (by omega)) (by simp) (by omega) (by omega) (by first | omega | (simp; done) | (simp; omega))))
          | false =>
            have HGI := Lib.hid (fun g (hg : g ∈ be :: (ob o5 ++ (w.heap.size + 2) :: G)) => show g < w2.heap.size from by
              simp only [List.mem_cons, List.mem_append] at hg
              rcases hg with h | h | h
              · have := E2.out.blt; omega
              · exact (E2.out.olt g h).2
              · have := HGr.out g (by simpa using h); omega)
            have hul : us.length ≤ 200 := by have h1 := LP.out.ty.1; rw [List.length_take] at h1; have h2 := eszL_len kids; omega
            go_wp2_with (first
            | (at_builtin
               refine wpl_append rfl _ _ 77 rfl (be :: (ob o5 ++ (w.heap.size + 2) :: G)) (w.heap.size + 3) 79 (.agg #[.int .i64 0, .slice none 0 0]) 2 32 Tryd.underlying77 infoVal rfl (by decide) u10 (us.map encV) rfl (OW2.out.alloc _) (.slice (some ⟨w2.heap.size, 0, none⟩) 1 1) [encV v] rfl
                 (val_new (RV.out.sub fun g hg => .inl (by simp only [List.mem_cons, List.mem_append] at hg ⊢; rcases hg with h | h | h | h | h <;> simp [h])) (fun g hg => (List.mem_append.1 hg).elim (fun h => (OW2.out.lt g h).2) (fun h => HGI.out g h))) (fun f hf => by simp at hf; subst hf; exact encV_len v) (by rw [List.length_map]; simp; omega) (by rw [List.length_map]; simp; omega) (by simp; omega) (fun g hg => by have := HGI.out g hg; simp; omega) ?_
               intro v' w' ho hgr
               have LN := Lib.hid (LP.out.next hlt HLT.out (by omega) rfl BV.out ho hgr)
               clear ho hgr))
            go_roundw
            case rel => exact ⟨k + 1, us ++ [v], c5, o5, os5, by omega, by go_num, LN.out⟩
            case measure => simp [intOf]; omega
      · have hke : k = kids.length := by omega
        subst hke
        have HVS := Lib.hid (show VTs l (sgs fs) us ts from by have := LP.out.ty; rwa [HLT.out, List.take_length] at this)
        have HEr := Lib.hid (show Ep be Bd l fs (.slice da l.length dc) (.slice fa fs.length fc) ((w.heap.size + 2) :: G) wr most c1 o1 os1 from ⟨ER.out, HDr.out, HFr.out, HGr.out, hm1, hmm.2⟩)
        rw [List.take_length] at hos1
        go_wp2_with fail
        refine (OC.out us HVS.out be Bd _ _ ((w.heap.size + 2) :: G) wr most c1 o1 os1 HEr.out _ _ LP.out.own.rep (by omega) (by omega)).mono ?_
        rintro e w5 ⟨v, av, cv, c5, sp5, o5, os5, rfl, hty, hst, hev, hc5, hm5, ho5, hrv⟩
        have S5 := Lib.hid (SR.out.trans hst)
        have E5 := Lib.hid hev
        have TY := Lib.hid hty
        have R5 := Lib.hid hrv
        clear x0 x1 x2 q0 q1 z0 z1 y0 y1
        obtain ⟨⟨z0, z1⟩, y0, y1⟩ := blk2 ((S5.out.keep.block (w.heap.size + 2) (by omega) HBZ.out).trans BO.out.b2)
        clear hst hev hty hrv
        go_wp2
        refine bodyPost_ret (v := .agg #[.int .i64 (v.num), .slice av v.kids.length cv]) (by simp [results, Tryd.results33, go_sem, z0, z1]) rfl ((evk_post (w0 := w1) (W := w5) (k := w.heap.size + 2) (x := v) (a := av) (cap := cv) BO.out.keep (by omega) (by omega) E0.out S5.out E5.out R5.out TY.out (by omega) (by omega) (by first | omega | (simp; done) | (simp; omega))))
/- eval, whole -/
theorem cons_cases {l : List Dc} (hl : GD l) {d : Int} (hn : consL l d ≠ []) : d = 1 ∨ d = 3 ∨ d = 4 := by
  have hb : inB 1 d l.length = true := by
    simp only [consL] at hn
    by_cases h : inB 1 d l.length = true
    · exact h
    · rw [if_neg h] at hn; exact absurd rfl hn
  obtain ⟨h1, h2⟩ := inB_of hb
  have h3 := hl.len
  have h4 : d ≠ 2 := fun h => hn (h ▸ hl.c2)
  omega
theorem cons_small {l : List Dc} (hl : GD l) {d : Int} (hn : consL l d ≠ []) : (consL l d).length ≤ 1000 ∧ ∀ c ∈ consL l d, (cflds l c).length ≤ 3 := by
  rcases cons_cases hl hn with rfl | rfl | rfl
  · rw [hl.c1]; simp [hl.f0, hl.f1]
  · rw [hl.c3]; simp [hl.f2, hl.f3]
  · rcases hl.four with ⟨_, _, h⟩ | ⟨_, ⟨h1, _, h2, _⟩ | ⟨h1, _, h2, h3, h4, _⟩ | ⟨h, _⟩⟩
    · exact absurd h hn
    · rw [h1]; simp [h2]
    · rw [h1]; simp [h2, h3, h4]
    · exact absurd h hn
theorem eval_next {l : List Dc} {fs : List Fn} {N : Nat} (hP : Pr l fs) (ih : EvalC l fs N) : EvalC l fs (N + 1) := by
  intro be Bd dv fv G w most c o os hep x xa xc hxk vs vv hvv vars t hvt hty hvb hos hN
  suffices h : EvAt l fs N x vars t from h be Bd dv fv G w most c o os hep xa xc hxk vs vv hvv hvt hvb hos hN
  cases hty.how with
  | var h ht => exact eval_var hP h ht
  | lett ha hb => exact eval_let hP ih ha hb
  | iff ha hb hc => exact eval_if hP (d := 0) ih ha (chs_if hb hc)
  | matc hn ha hl hk => exact eval_match hP ih ha (chs_match hP hn hl hk (by have := (cons_small hP.hl hn).1; omega) (cons_small hP.hl hn).2)
  | @op x ts h12 h13 h7 h8 ho =>
    cases x with
    | mk op num kids => exact eval_op hP ih h12 h13 h7 h8 ho
theorem eval_any {l : List Dc} {fs : List Fn} (hP : Pr l fs) : ∀ N, EvalC l fs N
  | 0 => fun be Bd dv fv G w most c o os hep x xa xc hxk vs vv hvv vars t hvt hty hvb hos hN => absurd hN (Nat.not_lt_zero _)
  | N + 1 => eval_next hP (eval_any hP N)
end Go.Proofs.YtnjincgemmgllaaDoor
