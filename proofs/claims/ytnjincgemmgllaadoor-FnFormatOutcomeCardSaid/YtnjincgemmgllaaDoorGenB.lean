/- Programs as plain data; walks of the generator's someInt, closable, canMake. -/
import Derived.Test.YtnjincgemmgllaaDoorGenA
import Derived.Test.YtnjincgemmgllaaDoorGenT
import Derived.StillTailTactics
namespace Go.Proofs.YtnjincgemmgllaaDoor
open Go.RowKit

structure Fn where
  sig : Sg
  body : Ex
def encF (f : Fn) : List D := [ints f.sig.params, .int f.sig.result, .int f.body.op, .int f.body.num, kidsD f.body.kids]
def funcsD (fs : List Fn) : D := .arr 5 (fs.map encF)
def sgs (fs : List Fn) : List Sg := fs.map (·.sig)
theorem sgs_len (fs : List Fn) : (sgs fs).length = fs.length := by simp [sgs]
theorem sgs_at {fs : List Fn} {i : Nat} (h : i < fs.length) : sgAt (sgs fs) i = fs[i].sig := by simp [sgAt, sgs, h]
theorem funcs_form {G : List Nat} {w : World} {l : List Fn} {v : Value} (h : Rep G w (funcsD l) v) : ∃ a cap, v = .slice a l.length cap ∧ l.length ≤ cap ∧ cap ≤ 9223372036854775807 := by
  obtain ⟨a, cap, hv, hl, hc⟩ := Rep.form h
  rw [List.length_map] at hv hl
  exact ⟨a, cap, hv, hl, hc⟩
theorem funcs_at {G : List Nat} {w : World} {l : List Fn} {a : Option Addr} {n cap : Nat} (h : Rep G w (funcsD l) (.slice a n cap)) {i : Nat} (hi : i < l.length) :
    ∃ b off pa pc ka kc, a = some ⟨b, off, none⟩ ∧ b < w.heap.size ∧ w.cell? ⟨b, off + i * 5, none⟩ = some (.slice pa l[i].sig.params.length pc) ∧ w.cell? ⟨b, off + i * 5 + 1, none⟩ = some (.int .i64 l[i].sig.result) ∧
      w.cell? ⟨b, off + i * 5 + 2, none⟩ = some (.int .i64 l[i].body.op) ∧ w.cell? ⟨b, off + i * 5 + 3, none⟩ = some (.int .i64 l[i].body.num) ∧ w.cell? ⟨b, off + i * 5 + 4, none⟩ = some (.slice ka l[i].body.kids.length kc) ∧
      Rep G w (ints l[i].sig.params) (.slice pa l[i].sig.params.length pc) ∧ Rep G w (kidsD l[i].body.kids) (.slice ka l[i].body.kids.length kc) := by
  obtain ⟨b, off, ha, _, hlt, _, hl⟩ := Rep.at_ h (i := i) (by simpa using hi)
  rw [List.getElem_map] at hl
  simp only [encF, RepL] at hl
  obtain ⟨⟨c0, h0, r0⟩, ⟨c1, h1, r1⟩, ⟨c2, h2, r2⟩, ⟨c3, h3, r3⟩, ⟨c4, h4, r4⟩, _⟩ := hl
  obtain ⟨pa, pc, rfl, _⟩ := ints_form r0
  obtain ⟨ka, kc, rfl, _⟩ := kids_form r4
  have e1 : c1 = .int .i64 l[i].sig.result := r1
  have e2 : c2 = .int .i64 l[i].body.op := r2
  have e3 : c3 = .int .i64 l[i].body.num := r3
  subst e1 e2 e3
  exact ⟨b, off, pa, pc, ka, kc, ha, hlt, h0, h1, h2, h3, h4, r0, r4⟩

def IntK (B : Nat) (w : World) (br p c : Nat) (Q : Int → Prop) (e : Ending) (w' : World) : Prop :=
  ∃ (r : Int) (p' : Nat), e = .returned (.int .i64 r) ∧ Q r ∧ Keep [br] w w' ∧ RdAt B w' br p' ∧ p' ≤ p + c
theorem memG {G : List Nat} {w : World} {br : Nat} (h : br ∈ G) : ∀ m, m ∈ [br] → m ∈ G ∨ w.heap.size ≤ m := fun m hm => by
  rcases List.mem_singleton.1 hm with rfl
  exact .inl h

set_option maxHeartbeats 400000 in
theorem someInt_any {B : Nat} (br p : Nat) (w : World) (hr : RdAt B w br p) (hp : p + 4 ≤ 1125899906842624) (hB : B ≤ w.heap.size) :
    Calls Tryd.prog 77 #[.pointer (some ⟨br, 0, none⟩)] w (IntK B w br p 4 fun r => -999 ≤ r ∧ r ≤ 999) := by
  have HR := Lib.hid hr
  have hlt := hr.lt
  clear hr
  go_enter Tryd.func77, Tryd.ntmps77
  go_wp2_with fail
  refine (pick_any br p 6 _ HR.out (by omega) (by omega)).mono ?_
  rintro e w1 ⟨r1, rfl, a0, a1, hk1, hr1⟩
  have b1 := a1 (by omega)
  have HK1 := Lib.hid hk1
  have HR1 := Lib.hid hr1
  have s1 := hk1.size
  clear hk1 hr1 a1
  go_wp2_with fail
  refine (pick_any br (p + 1) 6 _ HR1.out (by omega) (by omega)).mono ?_
  rintro e w2 ⟨r2, rfl, a2, a3, hk2, hr2⟩
  have b2 := a3 (by omega)
  have HK2 := Lib.hid hk2
  have HR2 := Lib.hid hr2
  have s2 := hk2.size
  clear hk2 hr2 a3
  go_wp2_with fail
  refine (pick_any br (p + 1 + 1) 40 _ HR2.out (by omega) (by omega)).mono ?_
  rintro e w3 ⟨r3, rfl, a4, a5, hk3, hr3⟩
  have b3 := a5 (by omega)
  have HK3 := Lib.hid hk3
  have HR3 := Lib.hid hr3
  have s3 := hk3.size
  clear hk3 hr3 a5
  go_wp2_with fail
  refine (one_any (G := [br]) (l := [r1, r2, 0, 1, 2, -1, 3, r3, 999, -998]) br (p + 1 + 1 + 1) _ _ (HR3.out.keep0 ((Keep.refl _ _).alloc _)) (by simp) (by omega)
    (ints_new [r1, r2, 0, 1, 2, -1, 3, r3, 999, -998] (fun g hg => by simp at hg; omega) (by simp)) (by simp) (by simp)).mono ?_
  rintro e w4 ⟨r4, rfl, hm4, hk4, hr4⟩
  have HK4 := Lib.hid hk4
  have HR4 := Lib.hid hr4
  have HM := Lib.hid hm4
  clear hk4 hr4 hm4
  go_wp2
  go_ret
  refine ⟨r4, _, rfl, ?_, ((((HK1.out.then HK2.out).then HK3.out).alloc _).then HK4.out), HR4.out, by omega⟩
  have := HM.out
  simp at this
  omega

/- closable -/
set_option maxRecDepth 100000 in
set_option maxHeartbeats 1000000 in
theorem closable_any {G : List Nat} (dv fv : Value) (l : List Dc) (fs : List Fn) (t : Int) (w : World) (hd : Rep G w (decls l) dv) (hf : Rep G w (funcsD fs) fv) (hn : fs.length ≤ 1000) (hG : ∀ g, g ∈ G → g < w.heap.size) :
    Calls Tryd.prog 87 #[.agg #[dv, fv], .int .i64 t] w (OwnK G w 3 1 (intsE (closF l (sgs fs) t))) := by
  have HD := Lib.hid hd
  have HF := Lib.hid hf
  have HG := Lib.hid hG
  obtain ⟨da, dc, rfl, _⟩ := decls_form hd
  obtain ⟨fa, fc, rfl, _⟩ := funcs_form hf
  clear hd hf hG
  have HK0 := Lib.hid (show Keep [] w (w.alloc (.cells #[.slice da l.length dc, .slice fa fs.length fc] 50)) from (Keep.refl _ _).alloc _)
  have own0 := Own.made G (w.heap.size + 1) (w.alloc (.cells #[.slice da l.length dc, .slice fa fs.length fc] 50)) 3 1 (by simp) (fun g hg => by have := HG.out g hg; simp; omega)
  rw [World.size_alloc] at own0
  have own0 := Lib.hid own0
  go_enter Tryd.func87, Tryd.ntmps87
  go_wp2
  go_loopw [5, 6] (fun s i' wr => ∃ k : Nat, k ≤ fs.length ∧ i' = .int .i64 k ∧ Keep [] (w.alloc (.cells #[.slice da l.length dc, .slice fa fs.length fc] 50)) wr ∧ Own G (w.heap.size + 1) wr 3 1 s (intsE (closK l (sgs fs) t k))) (fun _ i' _ => fs.length - (intOf i').toNat)
  case atStart => exact ⟨0, Nat.zero_le _, rfl, (Keep.refl _ _).alloc _, own0.out⟩
  case round =>
    obtain ⟨k, hk, rfl, hkp, ho⟩ := hrel
    have HK := Lib.hid hkp
    have HO := Lib.hid ho
    have hsz := hkp.size
    simp at hsz
    have d0 : wr.cell? ⟨w.heap.size, 0, none⟩ = some (.slice da l.length dc) := (hkp.cell (p := ⟨w.heap.size, 0, none⟩) (by simp) (by simp)).trans (by go_simp)
    have d1 : wr.cell? ⟨w.heap.size, 1, none⟩ = some (.slice fa fs.length fc) := (hkp.cell (p := ⟨w.heap.size, 1, none⟩) (by simp) (by simp)).trans (by go_simp)
    clear hkp ho
    by_cases hlt : k < fs.length
    · obtain ⟨b, off, pa, pc, ka, kc, rfl, hb, c0, c1, _, _, _, rp, _⟩ := funcs_at ((HF.out.keep0 HK0.out).keep0 HK.out) hlt
      have RP := Lib.hid rp
      have HDw := Lib.hid ((HD.out.keep0 HK0.out).keep0 HK.out)
      have hkl := closK_len l (sgs fs) t k
      have hce : closB l (sgs fs) t k = (decide (0 < fs[k].sig.params.length) && aof l (fs[k].sig.params.getD (fs[k].sig.params.length - 1) 0) fs[k].sig.result == t) := by rw [closB, sgs_at hlt]
      clear rp
      generalize fs[k].sig.params = ps at *
      generalize fs[k].sig.result = rs at *
      rcases List.eq_nil_or_concat ps with hm | ⟨ini, x, hm⟩
      · subst hm
        have hno := Lib.hid (show closB l (sgs fs) t k = false by rw [hce]; rfl)
        clear hce
        have g0 : decide ((0 : Int) < ((0 : Nat) : Int)) = false := by decide
        go_wp2
        go_quiet (fail)
        go_wp2
        go_roundw
        case rel => exact ⟨k + 1, by omega, by go_num, HK.out.drewN _, by rw [closK_no hno.out]; exact HO.out.keep0 ((Keep.refl _ _).drewN _)⟩
        case measure => simp [intOf]; omega
      · rw [List.concat_eq_append] at hm
        subst hm
        obtain ⟨b2, off2, rfl, _, hb2, cq⟩ := ints_at RP.out (show ini.length < (ini ++ [x]).length by simp)
        rw [show (ini ++ [x])[ini.length]'(by simp) = x by simp] at cq
        obtain ⟨_, pcc, _, hpl, hpc⟩ := ints_form RP.out
        rw [show (ini ++ [x]).length = ini.length + 1 by simp] at hpl
        have hce2 : closB l (sgs fs) t k = (aof l x rs == t) := by rw [hce]; simp
        rw [show (ini ++ [x]).length = ini.length + 1 by simp] at c0 
        have RC := Lib.hid hce2
        generalize ini.length = q at *
        clear hce hce2 RP
        have g0 : decide ((0 : Int) < ((q + 1 : Nat) : Int)) = true := by simp <;> omega
        have g1 : decide ((0 : Int) < (q : Int) + 1) = true := by simp <;> omega
        have e0 : IntKind.i64.wrap (q : Int) = q := IntWalk.i64_in _ (by omega)
        have e1 : IntKind.i64.wrap ((q : Int) + 1 - 1) = q := by rw [show (q : Int) + 1 - 1 = q by omega]; exact e0
        cases hat : (aof l x rs == t)
        · go_wp2
          go_quiet ((go_at_call 90; exact quiet_left (arrowOf_any _ l _ _ _ (HDw.out.drewN _))))
          clear e0 e1 g0 g1
          go_wp2
          go_roundw
          case rel => exact ⟨k + 1, by omega, by go_num, HK.out.drewN _, by rw [closK_no (by rw [RC.out, hat])]; exact HO.out.keep0 ((Keep.refl _ _).drewN _)⟩
          case measure => simp [intOf]; omega
        · go_wp2
          go_quiet ((go_at_call 90; exact quiet_left (arrowOf_any _ l _ _ _ (HDw.out.drewN _))))
          clear e0 e1 g0 g1
          have HO1 := Lib.hid (HO.out.keep0 ((Keep.refl _ wr).drewN nq))
          go_wp2_with (first
            | (at_builtin
               refine wpl_append rfl _ _ 22 rfl G (w.heap.size + 1) 3 (.int .i64 0) 1 8 Tryd.underlying22 infoInt rfl (by decide) u5 _ rfl (HO1.out.alloc _) (.slice (some ⟨wr.heap.size, 0, none⟩) 1 1) (intsE [(k : Int)]) rfl
                 (ints_new [(k : Int)] (ob_fresh HO1.out fun g hg => by have := HG.out g hg; simp; omega) (by simp)) (intsE_size _) (by simp [intsE]; omega) (by simp [intsE]; omega) (by simp; omega) (fun g hg => by have := HG.out g hg; simp; omega) ?_
               intro v' w' ho hgr
               have HO2 := Lib.hid ho
               have HR := Lib.hid hgr
               clear ho hgr))
          go_roundw
          case rel => exact ⟨k + 1, by omega, by go_num, ((HK.out.drewN _).alloc _).trans HR.out.keep fun m hm => .inr (by have := (HO.out.lt m hm).1; simp; omega), by rw [closK_yes (by rw [RC.out, hat]), ← intsE_app]; exact HO2.out⟩
          case measure => simp [intOf]; omega
    · have hkm : k = fs.length := by omega
      subst hkm
      go_wp2
      go_ret
      exact ⟨_, rfl, HK0.out.then0 HK.out, by have := HO.out.base (Nat.le_succ _); rwa [show closK l (sgs fs) t fs.length = closF l (sgs fs) t by rw [closK, closF, sgs_len]] at this⟩

set_option maxHeartbeats 1000000 in
theorem canMake_any {G : List Nat} (dv fv vv : Value) (l : List Dc) (fs : List Fn) (vs : List Int) (t : Int) (w : World) (hd : Rep G w (decls l) dv) (hf : Rep G w (funcsD fs) fv) (hv : Rep G w (ints vs) vv) (hn : fs.length ≤ 1000) (hG : ∀ g, g ∈ G → g < w.heap.size) :
    Calls Tryd.prog 79 #[.agg #[dv, fv], vv, .int .i64 t] w fun e w' => e = .returned (.bool (canB l (sgs fs) vs t)) ∧ Keep [] w w' := by
  have HD := Lib.hid hd
  have HF := Lib.hid hf
  have HV := Lib.hid hv
  have HG := Lib.hid hG
  obtain ⟨da, dc, rfl, _⟩ := decls_form hd
  obtain ⟨fa, fc, rfl, _⟩ := funcs_form hf
  obtain ⟨va, vc, rfl, _⟩ := ints_form hv
  clear hd hf hG hv
  have HK0 := Lib.hid (show Keep [] w (w.alloc (.cells #[.slice da l.length dc, .slice fa fs.length fc] 50)) from (Keep.refl _ _).alloc _)
  cases ha : isArr l t
  · have hf := Lib.hid (show canB l (sgs fs) vs t = true by rw [canB, ha]; rfl)
    go_enter Tryd.func79, Tryd.ntmps79
    go_wp2_with (go_at_call 84; refine (isArrow_any _ l _ _ (HD.out.keep0 HK0.out)).mono ?_; rintro e w' ⟨rfl, rfl⟩)
    go_ret
    exact ⟨ret_bool hf.out.symm, HK0.out⟩
  · have hb : canB l (sgs fs) vs t = (decide (0 < (closF l (sgs fs) t).length) || hasI vs t) := by rw [canB, ha]; rfl
    rcases Nat.eq_zero_or_pos (closF l (sgs fs) t).length with hz | hz
    · have hb2 := Lib.hid (show canB l (sgs fs) vs t = hasI vs t by rw [hb, hz]; rfl)
      have hcz : closF l (sgs fs) t = [] := List.eq_nil_of_length_eq_zero hz
      clear hb hz
      go_enter Tryd.func79, Tryd.ntmps79
      go_wp2_with (first
        | (go_at_call 84; refine (isArrow_any _ l _ _ (HD.out.keep0 HK0.out)).mono ?_; rintro e w' ⟨rfl, rfl⟩)
        | (go_at_call 87
           refine (closable_any _ _ l fs t _ (HD.out.keep0 HK0.out) (HF.out.keep0 HK0.out) hn (fun g hg => by have := HG.out g hg; simp; omega)).mono ?_
           rintro e w1 ⟨r, rfl, hk1, ho1⟩
           rw [hcz] at ho1
           obtain ⟨ra, rc, rfl⟩ := ho1.form
           have HK1 := Lib.hid hk1
           clear hk1 ho1)
        | (go_at_call 88; refine (isIn_any _ vs t _ ((HV.out.keep0 HK0.out).keep0 HK1.out)).mono ?_; rintro e w' ⟨rfl, rfl⟩))
      go_ret
      exact ⟨ret_bool hb2.out.symm, HK0.out.then0 HK1.out⟩
    · have hb2 := Lib.hid (show canB l (sgs fs) vs t = true by rw [hb]; simp [hz])
      obtain ⟨n, hln⟩ : ∃ n, (intsE (closF l (sgs fs) t)).length = n + 1 := ⟨(closF l (sgs fs) t).length - 1, by rw [intsE_length]; omega⟩
      have HLN := Lib.hid hln
      clear hb hz hln
      go_enter Tryd.func79, Tryd.ntmps79
      go_wp2_with (first
        | (go_at_call 84; refine (isArrow_any _ l _ _ (HD.out.keep0 HK0.out)).mono ?_; rintro e w' ⟨rfl, rfl⟩)
        | (go_at_call 87
           refine (closable_any _ _ l fs t _ (HD.out.keep0 HK0.out) (HF.out.keep0 HK0.out) hn (fun g hg => by have := HG.out g hg; simp; omega)).mono ?_
           rintro e w1 ⟨r, rfl, hk1, ho1⟩
           obtain ⟨ra, rc, rfl⟩ := ho1.form
           rw [HLN.out]
           have HK1 := Lib.hid hk1
           clear hk1 ho1))
      go_ret
      exact ⟨ret_bool hb2.out.symm, HK0.out.then0 HK1.out⟩
end Go.Proofs.YtnjincgemmgllaaDoor
