/- The walk of the generator's smallest at arrow types. -/
import Derived.Test.YtnjincgemmgllaaDoorGenC
namespace Go.Proofs.YtnjincgemmgllaaDoor
open Go.RowKit

set_option maxRecDepth 100000 in
set_option maxHeartbeats 8000000 in
theorem smallest_arrow {l : List Dc} {fs : List Fn} {t : Int} (hl : GD l) (hs : GS l (sgs fs)) (hc : consL l t = []) (h0 : 0 < t) (hcl : 0 < (closF l (sgs fs) t).length) (h13 : ¬ (t = 0 ∨ t = 1 ∨ t = 3))
    (ih : ∀ u, u = 0 ∨ u = 1 ∨ u = 3 → SmC l fs u 10) : SmC l fs t 40 := by
  intro G B br p dv fv w hr hB hbr hd hf hG hp
  have HR := Lib.hid hr
  have HD := Lib.hid hd
  have HF := Lib.hid hf
  have HG := Lib.hid hG
  have hbrl := hr.lt
  obtain ⟨da, dc, rfl, _⟩ := decls_form hd
  obtain ⟨fa, fc, rfl, _⟩ := funcs_form hf
  clear hr hd hf hG
  have HK0 := Lib.hid (show Keep [] w ((w.alloc (.cells #[.slice da l.length dc, .slice fa fs.length fc] 50)).alloc (.cells #[.int .i64 0, .int .i64 0, .slice none 0 0] 55)) from ((Keep.refl _ _).alloc _).alloc _)
  have RB0 := Lib.hid (show ((w.alloc (.cells #[.slice da l.length dc, .slice fa fs.length fc] 50)).alloc (.cells #[.int .i64 0, .int .i64 0, .slice none 0 0] 55)).heap[w.heap.size + 1]? = some (.cells #[.int .i64 0, .int .i64 0, .slice none 0 0] 55 (0, 0)) from by have h := heap_alloc_new (w.alloc (.cells #[.slice da l.length dc, .slice fa fs.length fc] 50)) (.cells #[.int .i64 0, .int .i64 0, .slice none 0 0] 55); rwa [World.size_alloc] at h)
  have hfb := hl.bound
  have hn4 : fs.length ≤ 4 := by have := hs.len; rw [sgs_len] at this; omega
  have hcf : (closF l (sgs fs) t).length ≤ 1000 := by
    have := closK_len l (sgs fs) t (sgs fs).length
    rw [show closK l (sgs fs) t (sgs fs).length = closF l (sgs fs) t from rfl, sgs_len] at this
    omega
  have CZ := Lib.hid hc
  have IH3 := Lib.hid ih
  have HS := Lib.hid hs
  have HCM := Lib.hid (fun x => closF_mem (l := l) (sg := sgs fs) (t := t) (x := x))
  clear hc ih hs
  go_enter Tryd.func80, Tryd.ntmps80
  go_wp2_with fail
  refine (consOf_any _ l t _ (HD.out.keep0 HK0.out) hfb (fun g hg => by have := HG.out g hg; simp; omega)).mono ?_
  rintro e w1 ⟨r1, rfl, hk1, ho1⟩
  rw [CZ.out] at ho1
  obtain ⟨ra1, rc1, rfl⟩ := ho1.form
  have HK1 := Lib.hid (HK0.out.then0 hk1)
  have KE1 := Lib.hid hk1
  have s1 := hk1.size
  simp at s1
  have q0 : w1.cell? ⟨w.heap.size, 0, none⟩ = some (.slice da l.length dc) := hk1.cellEq (by go_simp) (by simp)
  have q1 : w1.cell? ⟨w.heap.size, 1, none⟩ = some (.slice fa fs.length fc) := hk1.cellEq (by go_simp) (by simp)
  clear hk1 ho1
  go_wp2_with fail
  refine (closable_any _ _ l fs t _ (HD.out.keep0 HK1.out) (HF.out.keep0 HK1.out) (by omega) (fun g hg => by have := HG.out g hg; omega)).mono ?_
  rintro e w2 ⟨r2, rfl, hk2, ho2⟩
  have RL := Lib.hid (show Rep G w2 (ints (closF l (sgs fs) t)) _ from ho2.rep)
  obtain ⟨ra2, rc2, rfl, _⟩ := ints_form RL.out
  have HK2 := Lib.hid (HK1.out.then0 hk2)
  have KE2 := Lib.hid (KE1.out.then0 hk2)
  have s2 := hk2.size
  have q12 : w2.cell? ⟨w.heap.size, 1, none⟩ = some (.slice fa fs.length fc) := hk2.cellEq q1 (by simp)
  generalize closF l (sgs fs) t = L at *
  clear hk2 ho2 q0 q1
  go_wp2_with fail
  refine (pick_any br p L.length _ (HR.out.keep0 HK2.out) (by omega) (by omega)).mono ?_
  rintro e w3 ⟨r3, rfl, a0, a1, hk3, hr3⟩
  obtain ⟨n3, rfl⟩ := Int.eq_ofNat_of_zero_le a0
  have hn3 : n3 < L.length := by have := a1 (by omega); omega
  have HK3 := Lib.hid hk3
  have HR3 := Lib.hid hr3
  have s3 := hk3.size
  have q13 : w3.cell? ⟨w.heap.size, 1, none⟩ = some (.slice fa fs.length fc) := hk3.cellEq q12 (by simp; omega)
  obtain ⟨b4, off4, rfl, _, _, cl4⟩ := ints_at (RL.out.keep HK3.out (memG hbr)) hn3
  obtain ⟨f, hfl, hfe, hfb2⟩ := HCM.out _ (List.getElem_mem hn3)
  rw [hfe] at cl4
  rw [sgs_len] at hfl
  obtain ⟨b5, off5, pa, pc, ka, kc, rfl, hb5, cp0, _, _, _, _, rp, _⟩ := funcs_at ((HF.out.keep0 HK2.out).keep HK3.out (memG hbr)) hfl
  have RP := Lib.hid rp
  have hcb : 0 < fs[f].sig.params.length ∧ aof l (fs[f].sig.params.getD (fs[f].sig.params.length - 1) 0) fs[f].sig.result = t := by
    rw [closB, sgs_at hfl] at hfb2
    simpa using hfb2
  have hps := HS.out.clos f (by rw [sgs_len]; exact hfl)
  have hpl := HS.out.plen f (by rw [sgs_len]; exact hfl)
  rw [show (sgs fs)[f]'(by rw [sgs_len]; exact hfl) = fs[f].sig by simp [sgs]] at hps hpl
  have HSG := Lib.hid (show (sgAt (sgs fs) f).params = fs[f].sig.params ∧ (sgAt (sgs fs) f).result = fs[f].sig.result by rw [sgs_at hfl]; exact ⟨rfl, rfl⟩)
  have hps2 := hps (by rw [hcb.2]; exact h0)
  generalize fs[f].sig.params = ps at *
  generalize fs[f].sig.result = rs at *
  obtain ⟨hp0, hat⟩ := hcb
  have IH := Lib.hid (show ∀ i (h : i < ps.length), SmC l fs ps[i] 10 from fun i h => IH3.out _ (hps2 _ (List.getElem_mem h)))
  have TY := Lib.hid (show ∀ ks k, k + 1 = ps.length → KidsAt (SmT l (sgs fs)) ps k ks → SmT l (sgs fs) t (.mk 10 (f : Int) ks) from fun ks k hk hks => ⟨fun vars => by
    obtain ⟨hlen, hall⟩ := hks
    refine .close (by rw [sgs_len]; exact hfl) (by rw [HSG.out.1]; omega) (fun i i1 i2 => ?_) ?_ h0
    · have h2 : i < ps.length := by rw [HSG.out.1] at i2; exact i2
      have := (hall i i1 h2).1 vars
      simpa only [HSG.out.1] using this
    · rw [HSG.out.1, HSG.out.2, ← hat, show ps.length - 1 = ks.length by omega], fun h => absurd h h13⟩)
  have HR5 := Lib.hid (HR3.out.keep0 ((Keep.refl _ _).alloc (.cells #[] 55)))
  have HO5 := Lib.hid (KSt.start (br := br) (KE2.out.of0.then HK3.out) (n0 := w.heap.size + 2) (by simp))
  have HFL := Lib.hid (show Rep (ob (.slice (some ⟨w3.heap.size, 0, none⟩) 0 0) ++ G) (w3.alloc (.cells #[] 55)) (ints ps) _ from (RP.out.cons (Nat.le_refl _)).alloc _)
  have hfi : (f : Int) < fs.length := by omega
  clear hk3 hr3 q12 rp hps hps2 hat hfb2 hfe a1 hcl
  go_wp2
  go_loopw [15, 16] (fun s i' wr => ∃ (k p' : Nat) (ks : List Ex), k + 1 ≤ (ps).length ∧ i' = .int .i64 k ∧ KidsAt (SmT l (sgs fs)) (ps) k ks ∧ KSt br (w.heap.size + 2) ((w.alloc (.cells #[.slice da l.length dc, .slice (some ⟨b5, off5, none⟩) fs.length fc] 50)).alloc (.cells #[.int .i64 0, .int .i64 0, .slice none 0 0] 55)) wr s ks ∧ RdAt B wr br p' ∧ p' ≤ p + 1 + k * 10 ∧ Rep (ob s ++ G) wr (ints (ps)) (.slice pa ps.length pc)) (fun _ i' _ => (ps).length - (intOf i').toNat)
  case atStart => exact ⟨0, p + 1, [], by omega, rfl, KidsAt.nil _ _, HO5.out, HR5.out, by omega, HFL.out⟩
  case round =>
    obtain ⟨k, p', ks, hk, rfl, hks, ho, hr', hp', hfl⟩ := hrel
    have HKS := Lib.hid hks
    have HO := Lib.hid ho
    have HR := Lib.hid hr'
    have HF5 := Lib.hid hfl
    have sz := ho.keep.size
    simp at sz
    have q0 : wr.cell? ⟨w.heap.size, 0, none⟩ = some (.slice da l.length dc) := ho.keep.cellEq (by go_simp) (by simp; omega)
    have q1 : wr.cell? ⟨w.heap.size, 1, none⟩ = some (.slice (some ⟨b5, off5, none⟩) fs.length fc) := ho.keep.cellEq (by go_simp) (by simp; omega)
    clear hks ho hr' hfl
    by_cases hlt2 : k + 1 < (ps).length
    · have hlt : k < ps.length := by omega
      obtain ⟨b, off, rfl, _, hb, hcl⟩ := ints_at HF5.out hlt
      go_wp2
      go_region_law (first
        | (go_simp; go_at_call 80
           refine (IH.out k hlt G B br p' _ _ wr.drew (HR.out.keep0 (Keep.refl _ _).drew) (by simp; omega) hbr ((HD.out.keep0 HK0.out).keep HO.out.keep (memG hbr)).drew ((HF.out.keep0 HK0.out).keep HO.out.keep (memG hbr)).drew (fun g hg => by have := HG.out g hg; simp; omega) (by omega)).mono ?_
           rintro e wx ⟨x, vx, px, rfl, hx, hkx, hrx, hpx, ax, capx, rfl, hvx⟩
           have SX := hkx.size
           simp at SX
           have HKX := Lib.hid (show Keep [br] wr wx from (Keep.refl _ _).drew.then hkx)
           have HX := Lib.hid (HO.out.fresh hvx)
           have HPX := Lib.hid hx
           have HRX := Lib.hid hrx
           clear hkx hrx hx hvx)
        | (refine step_append rfl _ _ 53 rfl (List.range (w.heap.size + 2)) (w.heap.size + 2) 55 (.agg #[.int .i64 0, .int .i64 0, .slice none 0 0]) 3 40 Tryd.underlying53 infoEx rfl (by decide) u15 _ rfl ((HO.out.call (by omega) HKX.out).alloc _) (.slice (some ⟨wx.heap.size, 0, none⟩) 1 1) [encE x] rfl
             (ex_new HX.out (HO.out.below HKX.out)) (fun f hf => by simp at hf; subst hf; exact encE_len x) (by have := HKS.out.1; simp; omega) (by have := HKS.out.1; simp; omega) (by simp; omega) (fun g hg => by simp at hg ⊢; omega) ?_
           intro v' w' ho hgr
           have HO6 := Lib.hid ho
           have HGR := Lib.hid hgr
           clear ho hgr))
      all_goals
        go_wp2
        go_roundw
        case rel => exact ⟨k + 1, px, _, by omega, by go_num, HKS.out.snoc hlt HPX.out, HO.out.grow HKX.out HO6.out HGR.out, (HRX.out.keep0 ((Keep.refl _ _).alloc _)).keep HGR.out.keep (fun m hm => by have := (HO.out.own.lt m hm).1; omega), by omega, HGR.out.rep2 (Rep.alloc (rep_obB HF5.out hbr HKX.out) _) (fun g hg => by have := HG.out g hg; simp; omega)⟩
        case measure => simp [intOf]; omega
    · have hkeq : k + 1 = ps.length := by omega
      have HKEQ := Lib.hid hkeq
      clear hkeq
      go_wp2_with fail
      refine (node_any _ _ _ _ _ HO.out.own.rep).mono ?_
      rintro e w8 ⟨v8, rfl, hk8, a8, cap8, rfl, hv8⟩
      have s8 := hk8.size
      have HK8 : Hid (Keep [br] w w8) := Lib.hid ((HK0.out.of0.then HO.out.keep).then0 hk8)
      have HR8 := Lib.hid (HR.out.keep0 hk8)
      have HV8 := Lib.hid hv8
      have rb : w8.heap[w.heap.size + 1]? = some (.cells #[.int .i64 0, .int .i64 0, .slice none 0 0] 55 (0, 0)) := ((HO.out.keep.then0 hk8).block _ (by simp) (by simp; omega)).trans RB0.out
      obtain ⟨⟨z0, z1, z2⟩, f0, f1, f2⟩ := blk3 rb
      clear hk8 hv8 rb q0 q1
      go_wp2
      refine bodyPost_ret (v := .agg #[.int .i64 10, .int .i64 (f : Int), .slice a8 ks.length cap8]) (by simp [results, Tryd.results80, go_sem, z0, z1, z2, Ex.op, Ex.num, Ex.kids]) rfl ⟨.mk 10 (f : Int) ks, _, p', rfl, TY.out _ _ HKEQ.out HKS.out, HK8.out.put3 (by omega) _ _ _, HR8.out.put3 (by omega) _ _ _, by omega, ExV.put3 (x := .mk 10 (f : Int) ks) HV8.out (by omega) _ _ _⟩

theorem canB_nil {l : List Dc} {sg : List Sg} {t : Int} (h : canB l sg [] t = true) (ha : isArr l t = true) : 0 < (closF l sg t).length := by
  simpa [canB, ha, hasI] using h
theorem smallest_base {l : List Dc} {fs : List Fn} (hl : GD l) (hs : GS l (sgs fs)) (u : Int) (hu : u = 0 ∨ u = 1 ∨ u = 3) : SmC l fs u 10 := by
  rcases hu with rfl | rfl | rfl
  · exact smallest_int hl hs
  · exact (smallest_many (n := 0) (N := 0) (by omega) hl hl.c1 rfl (by omega) (by rw [hl.f0]; simp) (by rw [hl.t0]; omega) hl.t0 (fun _ => hl.f0) (fun i h => by rw [hl.f0] at h; simp at h) (fun h => by rw [hl.f1] at h; simp [hasI] at h)).weak (by omega)
  · exact (smallest_many (n := 0) (N := 0) (by omega) hl hl.c3 rfl (by omega) (by rw [hl.f2]; simp) (by rw [hl.t2]; omega) hl.t2 (fun _ => hl.f2) (fun i h => by rw [hl.f2] at h; simp at h) (fun h => by rw [hl.f3] at h; simp [hasI] at h)).weak (by omega)
theorem all_at {P : Int → Prop} {a : List Int} (b : List Int) (e : a = b) (h : ∀ x ∈ b, P x) : ∀ i (hi : i < a.length), P a[i] := fun i hi => by subst e; exact h _ (List.getElem_mem hi)
theorem smallest_any {l : List Dc} {fs : List Fn} (hl : GD l) (hs : GS l (sgs fs)) (t : Int) (h0 : 0 ≤ t) (h1 : t ≤ l.length) (hc : canB l (sgs fs) [] t = true) : SmC l fs t 40 := by
  have hb := smallest_base hl hs
  have h4 := hl.len
  have hcase : (t = 0 ∨ t = 1 ∨ t = 3) ∨ t = 2 ∨ t = 4 := by omega
  rcases hcase with h | rfl | rfl
  · exact (hb t h).weak (by omega)
  · exact smallest_arrow hl hs hl.c2 (by omega) (canB_nil hc hl.a2) (by omega) hb
  · rcases hl.four with ⟨h3, _⟩ | ⟨_, h⟩
    · omega
    · rcases h with ⟨c4, _, f4, t4⟩ | ⟨c4, _, f4, f5, _, t4, t5, _⟩ | ⟨c4, a4, _⟩
      · exact (smallest_one (N := 2) (by omega) hl c4 (by rw [f4]; simp) (by rw [t4]; omega) t4 (fun h => by omega) (by rw [f4]; simp [hasI]) (all_at _ f4 fun x hx => hb x (by simp at hx; omega))).weak (by omega)
      · exact (smallest_many (n := 1) (N := 3) (by omega) hl c4 rfl (by omega) (by rw [f4]; simp) (by rw [t4]; omega) t4 (fun h => by omega) (all_at _ f4 fun x hx => hb x (by simp at hx; omega))
          (fun _ => ⟨by rw [f5]; simp, fun ks hk => t5 ▸ con_ty (by rw [t5]; omega) hk (by rw [t5]; omega), all_at _ f5 fun x hx => hb x (by simp at hx; omega)⟩)).weak (by omega)
      · exact smallest_arrow hl hs c4 (by omega) (canB_nil hc a4) (by omega) hb
end Go.Proofs.YtnjincgemmgllaaDoor
