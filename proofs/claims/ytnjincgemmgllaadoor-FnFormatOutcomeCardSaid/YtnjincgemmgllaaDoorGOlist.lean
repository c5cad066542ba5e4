/- The walk of the generator's overList. -/
import Derived.Test.YtnjincgemmgllaaDoorGDown
namespace Go.Proofs.YtnjincgemmgllaaDoor
open Go.RowKit
attribute [local go_sem ↓] Go.wp_at_zero Go.wp_at_succ

theorem put3_size (w : World) (k : Nat) (c0 c1 c2 : Value) : (put3 w k c0 c1 c2).heap.size = w.heap.size := by simp [put3, World.setCell]
theorem ty_var {l : List Dc} {sg : List Sg} {vars : List Int} {i : Nat} {t : Int} (h : vars[i]? = some t) : HasTy l sg vars (.mk 12 (i : Int) []) t := by
  obtain ⟨h1, rfl⟩ := List.getElem?_eq_some_iff.1 h
  exact .var h1
theorem ty_match1 {l : List Dc} (hl : GD l) {sg : List Sg} {vars : List Int} {a x y : Ex} {t : Int} (ha : HasTy l sg vars a 1) (hx : HasTy l sg vars x t) (hy : HasTy l sg (vars ++ [0, 1]) y t) : HasTy l sg vars (.mk 8 1 [a, x, y]) t := by
  refine .matc (by rw [hl.c1]; simp) ha (by rw [hl.c1]; rfl) (fun i h1 h2 => ?_)
  have hi : i = 0 ∨ i = 1 := by simp at h1; omega
  rcases hi with rfl | rfl
  · simpa [hl.c1, hl.f0] using hx
  · simpa [hl.c1, hl.f1] using hy
theorem ty_match3 {l : List Dc} (hl : GD l) {sg : List Sg} {vars : List Int} {a x y : Ex} {t : Int} (ha : HasTy l sg vars a 3) (hx : HasTy l sg vars x t) (hy : HasTy l sg (vars ++ [3, 0, 3]) y t) : HasTy l sg vars (.mk 8 3 [a, x, y]) t := by
  refine .matc (by rw [hl.c3]; simp) ha (by rw [hl.c3]; rfl) (fun i h1 h2 => ?_)
  have hi : i = 0 ∨ i = 1 := by simp at h1; omega
  rcases hi with rfl | rfl
  · simpa [hl.c3, hl.f2] using hx
  · simpa [hl.c3, hl.f3] using hy
theorem ty_apply2 {l : List Dc} (hl : GD l) {sg : List Sg} {vars : List Int} {a x : Ex} (ha : HasTy l sg vars a 2) (hx : HasTy l sg vars x 0) : HasTy l sg vars (.mk 11 0 [a, x]) 0 := by
  have h := HasTy.apply (l := l) (sg := sg) (vars := vars) (a := a) (b := x) (t := 2) hl.a2 ha (by rw [show ((2 : Int) - 1).toNat = 1 from rfl, hl.r2.1]; exact hx)
  rwa [show ((2 : Int) - 1).toNat = 1 from rfl, hl.r2.2] at h
set_option maxRecDepth 100000 in
set_option maxHeartbeats 8000000 in
theorem overList_any {G : List Nat} {B br : Nat} {l : List Dc} {fs : List Fn} {dv fv : Value} {w : World} (hx : Cx G B br l fs dv fv w) (p : Nat) (hr : RdAt B w br p) (hl : GD l) (hs : GS l (sgs fs)) (f a : Nat) (ps : List Int) (rs : Int) (hF : FnAt fs f ps rs) (ha : ps[a]? = some 1) (hrs : rs = 0 ∨ rs = 1) (hp : p + 60000 ≤ 1125899906842624) :
    Calls Tryd.prog 42 #[.pointer (some ⟨br, 0, none⟩), .agg #[dv, fv], .int .i64 (f : Int), .int .i64 (a : Int)] w (GenK B w br p 60000 (fun x => HasTy l (sgs fs) ps x rs)) := by
  have hn4 : fs.length ≤ 4 := by have := hs.len; rw [sgs_len] at this; omega
  have hn1 : 1 ≤ fs.length := by have := hs.len; rw [sgs_len] at this; omega
  obtain ⟨da, dc, fa, fc, rfl, rfl⟩ := hx.forms
  have X0 := Lib.hid (Sx.start hx hr)
  have hfb := hl.bound
  have HL := Lib.hid hl
  have HS := Lib.hid hs
  have hbr : br ∈ G := hx.hbr
  have hbl := X0.out.brlt
  obtain ⟨bf, of, pa, pc, rfl, hbn, hbf, cp, cr, rp⟩ := hF.cells (br := br) hx.hf hx.hbr
  have RP := Lib.hid rp
  have HF := Lib.hid hF
  have hfl := hF.lt
  have hps : ps.length ≤ 3 := by have h := hs.plen f (by rw [sgs_len]; exact hF.lt); simp only [sgs, List.getElem_map, hF.ps_] at h; exact h
  have HPT := Lib.hid (show ∀ u ∈ ps, 0 ≤ u ∧ u ≤ l.length ∧ canB l (sgs fs) ps u = true from fun u hu => by
    have h1 := hs.ptys f (by rw [sgs_len]; exact hF.lt) u (by simp only [sgs, List.getElem_map, hF.ps_]; exact hu)
    have := hl.len
    exact ⟨by omega, by omega, canB_self hu⟩)
  have hf0 : (0 : Int) ≤ (f : Int) := by omega
  have hf1 : (f : Int) < (fs.length : Int) := by omega
  have hbm2 : br ∈ List.range (w.heap.size + 2) := by simp; omega
  have GA4 := Lib.hid (gen_all hl hs 4 (by omega) (by omega))
  have HB0 := Lib.hid (fun vs => (base_can (sg := sgs fs) hl (u := 0) vs (.inl rfl)))
  have HRC := Lib.hid (show ∀ vs, canB l (sgs fs) vs rs = true from fun vs => (base_can (sg := sgs fs) hl (u := rs) vs (by unfold base; omega)).2.2)
  have hrl : rs ≤ l.length := by have := hl.len; omega
  have TVA := Lib.hid (show HasTy l (sgs fs) ps (.mk 12 (a : Int) []) 1 from ty_var ha)
  have hal : a < ps.length := (List.getElem?_eq_some_iff.1 ha).1
  obtain ⟨inn, hinn⟩ : ∃ inn, inn = ps ++ [0, 1] := ⟨_, rfl⟩
  have hin5 : inn.length ≤ 5 := by rw [hinn]; simp; omega
  have TV := Lib.hid (show ∀ i (h : i < ps.length), HasTy l (sgs fs) inn (.mk 12 (i : Int) []) ps[i] from fun i h => ty_var (by rw [hinn, List.getElem?_append_left h, List.getElem?_eq_getElem h]))
  have TN := Lib.hid (show HasTy l (sgs fs) inn (.mk 12 (ps.length : Int) []) 0 from ty_var (by rw [hinn]; simp))
  have TN1 := Lib.hid (show HasTy l (sgs fs) inn (.mk 12 ((ps.length : Int) + 1) []) 1 from by have h := ty_var (l := l) (sg := sgs fs) (vars := inn) (i := ps.length + 1) (t := 1) (by rw [hinn]; simp); simpa using h)
  have TA1 := Lib.hid (show ∀ i (h : i < ps.length), i = a → ps[i] = 1 from fun i h e => by subst e; rw [List.getElem?_eq_getElem h] at ha; simpa using ha)
  have INN := Lib.hid hinn
  have cp0 : ((w.alloc (.cells #[.slice da l.length dc, .slice (some ⟨bf, of, none⟩) fs.length fc] 50)).alloc (.cells #[.int .i64 0, .int .i64 0, .slice none 0 0] 55)).cell? ⟨bf, of + f * 5, none⟩ = some (.slice pa ps.length pc) := X0.out.old cp hbn
  clear hx hr hl hs hF ha rp
  go_enter Tryd.func42, Tryd.ntmps42
  go_wp2_with fail
  refine (extend_sx _ _ ps [0, 1] X0.out (by repeat (first | exact Keep.refl _ _ | refine Keep.drew ?_ | refine Keep.alloc ?_ _ | fail)) (by exact (X0.out.rep0 RP.out).keep0 (by repeat (first | exact Keep.refl _ _ | refine Keep.drew ?_ | refine Keep.alloc ?_ _ | fail))) (by (repeat (first | with_reducible refine Rep.drew ?_ | ((refine ints_newAt [0, 1] ?_ ?_ (by simp)) <;> (first | (simp; done) | (intro g hg; have := X0.out.c0.hG g hg; (try simp); omega) | fail)) | with_reducible refine Rep.alloc ?_ _ | fail))) (by omega) (by simp)).mono ?_
  rintro e w1 ⟨ia, ic, rfl, hX, hk, hr1⟩
  rw [← hinn] at hr1
  rw [← hinn]
  have X1 := Lib.hid hX
  have RI := Lib.hid hr1
  have s1 := hX.size
  have HO5 := Lib.hid (KSt.start (br := br) (n0 := w1.heap.size) (w0 := w1) (Keep.refl [br] w1) rfl)
  clear hX hk hr1 cp0 hinn
  go_wp2
  go_loopw [12, 13] (fun s i' wr => ∃ (k p' : Nat) (ks : List Ex), k ≤ ps.length ∧ i' = .int .i64 k ∧ KidsAt (fun t x => HasTy l (sgs fs) inn x t) ps k ks ∧ KSt br w1.heap.size w1 wr s ks ∧ Sx G B br l fs da dc (some ⟨bf, of, none⟩) fc w wr p' ∧ p' ≤ p + k) (fun _ i' _ => ps.length - (intOf i').toNat)
  case atStart => exact ⟨0, p, [], Nat.zero_le _, rfl, KidsAt.nil _ _, HO5.out, X1.out.new _, by omega⟩
  case round =>
    obtain ⟨k, p', ks, hk, rfl, hks, ho, hX, hp'⟩ := hrel
    have HKS := Lib.hid hks
    have HO := Lib.hid ho
    have X5 := Lib.hid hX
    have sz := ho.keep.size
    obtain ⟨q5, r5⟩ := hX.cells
    have cr5 := hX.old cr hbn
    clear hks ho hX
    by_cases hlt : k < ps.length
    · obtain ⟨bp, op, rfl, hbG, hbp, hcl⟩ := ints_at RP.out hlt
      have hbpn : bp ≠ br := fun e => hbG (e ▸ hbr)
      have hcl5 := X5.out.old hcl hbpn
      have k0 : (0 : Int) ≤ (k : Int) := by omega
      have k1 : (k : Int) < (ps.length : Int) := by omega
      clear hbG
      by_cases hka : k = a
      · have g1 : ((k : Int) == (a : Int)) = true := by simp; omega
        have TK := Lib.hid (show HasTy l (sgs fs) inn (.mk 12 ((ps.length : Int) + 1) []) ps[k] from by rw [TA1.out k hlt hka]; exact TN1.out)
        clear hka
        go_wp2_with fail
        refine (variable_sx ((ps.length : Int) + 1) X5.out (by repeat (first | with_reducible exact Keep.refl _ _ | with_reducible refine Keep.drew ?_ | with_reducible refine Keep.alloc ?_ _ | exact Keep.refl _ _ | fail))).mono ?_
        rintro e w6 ⟨a6, c6, rfl, hX, hk, hr6⟩
        have X6 := Lib.hid hX
        have HK6 := Lib.hid (hk.of0 (M := [br]))
        have R6 := Lib.hid hr6
        clear hX hk hr6
        go_wp2_with (first
          | (at_builtin
             refine wpl_kst rfl _ _ rfl (.mk 12 ((ps.length : Int) + 1) []) HO.out (by omega) HK6.out rfl rfl R6.out (by have := HKS.out.1; omega) ?_
             intro v' w' ho hkw hob
             have HO7 := Lib.hid ho
             have X7 := Lib.hid (X6.out.wr hkw (fun m hm => by have := hob m hm; omega))
             clear ho hkw hob))
        go_roundw
        case rel => exact ⟨k + 1, p', _, by omega, by go_num, HKS.out.snoc hlt TK.out, HO7.out, X7.out, by omega⟩
        case measure => simp [intOf]; omega
      · have g1 : ((k : Int) == (a : Int)) = false := by simp; omega
        clear hka
        cases h0 : (ps[k] == 0)
        · skip
          go_wp2_with fail
          refine (variable_sx (k : Int) X5.out (by repeat (first | with_reducible exact Keep.refl _ _ | with_reducible refine Keep.drew ?_ | with_reducible refine Keep.alloc ?_ _ | exact Keep.refl _ _ | fail))).mono ?_
          rintro e w6 ⟨a6, c6, rfl, hX, hk, hr6⟩
          have X6 := Lib.hid hX
          have HK6 := Lib.hid (hk.of0 (M := [br]))
          have R6 := Lib.hid hr6
          clear hX hk hr6
          go_wp2_with (first
            | (at_builtin
               refine wpl_kst rfl _ _ rfl (.mk 12 (k : Int) []) HO.out (by omega) HK6.out rfl rfl R6.out (by have := HKS.out.1; omega) ?_
               intro v' w' ho hkw hob
               have HO7 := Lib.hid ho
               have X7 := Lib.hid (X6.out.wr hkw (fun m hm => by have := hob m hm; omega))
               clear ho hkw hob))
          go_roundw
          case rel => exact ⟨k + 1, p', _, by omega, by go_num, HKS.out.snoc hlt (TV.out k hlt), HO7.out, X7.out, by omega⟩
          case measure => simp [intOf]; omega
        · have HZ := Lib.hid (show ps[k] = 0 by simpa using h0)
          go_wp2_with fail
          refine (pick_sx 2 X5.out (by repeat (first | with_reducible exact Keep.refl _ _ | with_reducible refine Keep.drew ?_ | with_reducible refine Keep.alloc ?_ _ | exact Keep.refl _ _ | fail)) (by omega) (by omega)).mono ?_
          rintro e w5 ⟨k2, rfl, k2a, k2b, hX, hk⟩
          have X5' := Lib.hid hX
          have HK5 := Lib.hid hk
          have s5 := hk.size
          clear hX hk k2b q5 r5 cr5 hcl5
          by_cases hk2 : k2 = 0
          · subst hk2
            go_wp2_with fail
            refine (variable_sx (k : Int) X5'.out (by repeat (first | with_reducible exact Keep.refl _ _ | with_reducible refine Keep.drew ?_ | with_reducible refine Keep.alloc ?_ _ | exact Keep.refl _ _ | fail))).mono ?_
            rintro e w6 ⟨a6, c6, rfl, hX, hk, hr6⟩
            have X6 := Lib.hid hX
            have HK6 := Lib.hid (HK5.out.then0 hk)
            have hc6 := kids_cap hr6
            clear hX hk hr6
            go_wp2_with fail
            refine (variable_sx (ps.length : Int) X6.out (by repeat (first | with_reducible exact Keep.refl _ _ | with_reducible refine Keep.drew ?_ | with_reducible refine Keep.alloc ?_ _ | exact Keep.refl _ _ | fail))).mono ?_
            rintro e w7 ⟨a7, c7, rfl, hX, hk, hr7⟩
            have X7 := Lib.hid hX
            have HK7 := Lib.hid (HK6.out.then0 hk)
            have hc7 := kids_cap hr7
            have s7 := HK7.out.size
            clear hX hk hr7
            go_wp2_with fail
            refine (node_ex 1 0 _ 2 2 _).mono ?_
            rintro e w8 ⟨rfl, hk'⟩
            have X8 := Lib.hid (X7.out.keep0 (Keep.then0 (by repeat (first | with_reducible exact Keep.refl _ _ | with_reducible refine Keep.drew ?_ | with_reducible refine Keep.alloc ?_ _ | exact Keep.refl _ _ | fail)) hk'))
            have HK8 := Lib.hid (HK7.out.then0 (Keep.then0 (by repeat (first | with_reducible exact Keep.refl _ _ | with_reducible refine Keep.drew ?_ | with_reducible refine Keep.alloc ?_ _ | exact Keep.refl _ _ | fail)) hk'))
            have R8 := Lib.hid (show Rep (List.range wr.heap.size) w8 (kidsD [.mk 12 (k : Int) [], .mk 12 (ps.length : Int) []]) (.slice (some ⟨w7.heap.size, 0, none⟩) 2 2) from Rep.keep0 (kids_new2 (x := .mk 12 (k : Int) []) (y := .mk 12 (ps.length : Int) []) (kids0 hc6) (kids0 hc7) (fun g hg => by simp at hg; omega)) hk')
            clear hk'
            go_wp2_with (first
              | (at_builtin
                 refine wpl_kst rfl _ _ rfl (.mk 1 0 [.mk 12 (k : Int) [], .mk 12 (ps.length : Int) []]) HO.out (by omega) HK8.out rfl rfl R8.out (by have := HKS.out.1; omega) ?_
                 intro v' w' ho hkw hob
                 have HO9 := Lib.hid ho
                 have X9 := Lib.hid (X8.out.wr hkw (fun m hm => by have := hob m hm; omega))
                 clear ho hkw hob))
            go_roundw
            case rel => exact ⟨k + 1, p' + 1, _, by omega, by go_num, HKS.out.snoc hlt (by rw [HZ.out]; exact .prim (by omega) (by have h := TV.out k hlt; rwa [HZ.out] at h) TN.out), HO9.out, X9.out, by omega⟩
            case measure => simp [intOf]; omega
          · have g2 : (k2 == 0) = false := by simpa using hk2
            have HOb := HO
            have HO := Lib.hid (HOb.out.keepB (by omega) HK5.out)
            have X5 := X5'
            go_wp2_with fail
            refine (variable_sx (k : Int) X5.out (by repeat (first | with_reducible exact Keep.refl _ _ | with_reducible refine Keep.drew ?_ | with_reducible refine Keep.alloc ?_ _ | exact Keep.refl _ _ | fail))).mono ?_
            rintro e w6 ⟨a6, c6, rfl, hX, hk, hr6⟩
            have X6 := Lib.hid hX
            have HK6 := Lib.hid (hk.of0 (M := [br]))
            have R6 := Lib.hid hr6
            clear hX hk hr6
            go_wp2_with (first
              | (at_builtin
                 refine wpl_kst rfl _ _ rfl (.mk 12 (k : Int) []) HO.out (by omega) HK6.out rfl rfl R6.out (by have := HKS.out.1; omega) ?_
                 intro v' w' ho hkw hob
                 have HO7 := Lib.hid ho
                 have X7 := Lib.hid (X6.out.wr hkw (fun m hm => by have := hob m hm; omega))
                 clear ho hkw hob))
            go_roundw
            case rel => exact ⟨k + 1, p' + 1, _, by omega, by go_num, HKS.out.snoc hlt (TV.out k hlt), HO7.out, X7.out, by omega⟩
            case measure => simp [intOf]; omega
    · have hke : k = ps.length := by omega
      subst hke
      have TC := Lib.hid (HF.out.call HKS.out)
      go_wp2_with fail
      refine (node_sx 9 (f : Int) _ ks X5.out (by repeat (first | with_reducible exact Keep.refl _ _ | with_reducible refine Keep.drew ?_ | with_reducible refine Keep.alloc ?_ _ | exact Keep.refl _ _ | fail)) (HO.out.own.rep.sub (range_sub s1))).mono ?_
      rintro e w4 ⟨a4, c4, rfl, hX, hk, hr4⟩
      have RI4 := Lib.hid (RI.out.keep (HO.out.keep.then0 hk) X1.out.mem)
      obtain ⟨O4, hO4⟩ : ∃ O, O = Obj.cells #[.int .i64 9, .int .i64 (f : Int), .slice a4 ks.length c4] 55 := ⟨_, rfl⟩
      have R4 : Rep ((w4.heap.size + 1) :: w4.heap.size :: List.range (w.heap.size + 2)) ((w4.alloc O4).alloc O4) (kidsD ks) (.slice a4 ks.length c4) := by have h := (Rep.other_new hr4 O4).other_new O4; rwa [World.size_alloc] at h
      have C4 : C3 ((w4.alloc O4).alloc O4) w4.heap.size (.int .i64 9) (.int .i64 (f : Int)) (.slice a4 ks.length c4) := C3.keep0 (W := w4.alloc O4) (by rw [hO4]; exact (blk3 (heap_alloc_new w4 _)).1) ((Keep.refl _ _).alloc _)
      have B4 : Bx ((w4.heap.size + 1) :: w4.heap.size :: List.range (w.heap.size + 2)) ((w4.alloc O4).alloc O4) (w4.heap.size + 1) (.mk 9 (f : Int) ks) := by have h := Bx.new (W := w4.alloc O4) (x := .mk 9 (f : Int) ks) (Rep.other_new hr4 O4); rw [World.size_alloc] at h; rw [hO4] at h ⊢; exact h
      have X4 : Sx G B br l fs da dc (some ⟨bf, of, none⟩) fc w ((w4.alloc O4).alloc O4) p' := (hX.new O4).new O4
      have s4 := hX.size
      have cr4 := X4.old cr hbn
      obtain ⟨q4, r4⟩ := X4.cells
      have RI4 := RI4.out.alloc O4 |>.alloc O4
      subst hO4
      have R4 := Lib.hid R4
      have C4 := Lib.hid C4
      have B4 := Lib.hid B4
      have X4 := Lib.hid X4
      have RI4 := Lib.hid RI4
      have hbm : br ∈ (w4.heap.size + 1) :: w4.heap.size :: List.range (w.heap.size + 2) := by simp; omega
      clear hX hk hr4 q5 r5 cr5
      have HBR4 := Lib.hid (fun g (hg : g ∈ [br]) => show g < w4.heap.size by simp at hg; omega)
      rcases hrs with rfl | rfl
      · skip
        obtain ⟨cc0, cc1, cc2⟩ := C4.out
        go_wp2
        go_region_held3 (fun w' => w'.cell? ⟨w.heap.size, 0, none⟩ = some (.slice da l.length dc) ∧ w'.cell? ⟨w.heap.size, 1, none⟩ = some (.slice (some ⟨bf, of, none⟩) fs.length fc) ∧ w'.cell? ⟨bf, of + f * 5 + 1, none⟩ = some (.int .i64 0) ∧ w'.cell? ⟨w4.heap.size, 0, none⟩ = some (.int .i64 9) ∧ w'.cell? ⟨w4.heap.size, 1, none⟩ = some (.int .i64 (f : Int)) ∧ w'.cell? ⟨w4.heap.size, 2, none⟩ = some (.slice a4 ks.length c4))
          (first | (refine Sx.hold1 (Sx.keep0 X4.out ?_) cr hbn (C3.keep0 C4.out ?_) <;> ((repeat (first | with_reducible exact Keep.refl _ _ | with_reducible refine Keep.drew ?_ | with_reducible refine Keep.alloc ?_ _ | exact Keep.refl _ _ | fail)); done)) | (refine Sx.hold1 (Sx.keep0 X61.out ?_) cr hbn (C3.keep0 C61.out ?_) <;> ((repeat (first | with_reducible exact Keep.refl _ _ | with_reducible refine Keep.drew ?_ | with_reducible refine Keep.alloc ?_ _ | exact Keep.refl _ _ | fail)); done)) | (refine Sx.hold1 (Sx.keep0 X62.out ?_) cr hbn (C3.keep0 C62.out ?_) <;> ((repeat (first | with_reducible exact Keep.refl _ _ | with_reducible refine Keep.drew ?_ | with_reducible refine Keep.alloc ?_ _ | exact Keep.refl _ _ | fail)); done)) | (refine Sx.hold1 (Sx.keep0 X63.out ?_) cr hbn (C3.keep0 C63.out ?_) <;> ((repeat (first | with_reducible exact Keep.refl _ _ | with_reducible refine Keep.drew ?_ | with_reducible refine Keep.alloc ?_ _ | exact Keep.refl _ _ | fail)); done)) | (refine Sx.hold1p X63.out cr hbn C63.out ?_ ?_ _ _ _ <;> omega) | go_keep)
          (first
          | (go_at_call 58
             have hq := X62.out
             clear hq
             refine (node_ex o61 0 _ 2 2 _).mono ?_
             rintro e w63 ⟨rfl, hk'⟩
             have X63 := Lib.hid (X62.out.keep0 (Keep.then0 (by repeat (first | with_reducible exact Keep.refl _ _ | with_reducible refine Keep.drew ?_ | with_reducible refine Keep.alloc ?_ _ | exact Keep.refl _ _ | fail)) hk'))
             have B63 := Lib.hid (B62.out.keep0 (Keep.then0 (by repeat (first | with_reducible exact Keep.refl _ _ | with_reducible refine Keep.drew ?_ | with_reducible refine Keep.alloc ?_ _ | exact Keep.refl _ _ | fail)) hk'))
             have C63 := Lib.hid (C62.out.keep0 (Keep.then0 (by repeat (first | with_reducible exact Keep.refl _ _ | with_reducible refine Keep.drew ?_ | with_reducible refine Keep.alloc ?_ _ | exact Keep.refl _ _ | fail)) hk'))
             have R63 := Lib.hid (Rep.keep0 (kids_new2 (y := .mk 9 (f : Int) ks) RY.out R62.out (fun g hg => by simp at hg; omega)) hk')
             have s63 := hk'.size
             simp at s63
             obtain ⟨_, _, ⟨y0, y1, y2⟩, ⟨g0, g1, g2⟩, _⟩ := B63.out.cells
             clear hk')
          | (go_at_call 57
             have hq := X61.out
             clear hq
             refine (gen_sx GA4.out _ inn 0 X61.out (by repeat (first | with_reducible exact Keep.refl _ _ | with_reducible refine Keep.drew ?_ | with_reducible refine Keep.alloc ?_ _ | exact Keep.refl _ _ | fail)) RI61.out (by simp; omega) (by omega) (by omega) (HB0.out inn).2.2 (by rw [show (4 : Int).toNat = 4 from rfl, cst4]; omega)).mono ?_
             rintro e w62 ⟨y, p62, ay, cy, rfl, hy, hX, hk, _, hp62, hr62⟩
             rw [show (4 : Int).toNat = 4 from rfl, cst4] at hp62
             have X62 := Lib.hid hX
             have TY := Lib.hid hy.1
             have s62 := hk.size
             have B62 := Lib.hid (B61.out.call X61.out hk hbm (by omega))
             have C62 := Lib.hid (C61.out.keepM hk (by simp; omega))
             have RY := Lib.hid (show Rep ((w4.heap.size + 1) :: w4.heap.size :: List.range (w.heap.size + 2)) w62 (kidsD y.kids) (.slice ay y.kids.length cy) from hr62.sub (fun g hg => .inl (by simp at hg ⊢; omega)))
             have R62 := Lib.hid (R61.out.keep hk (fun m hm => by simp at hm; subst hm; exact .inl hbm))
             clear hX hk hy hr62)
          | (go_at_call 24
             refine (one_sx (G' := [br]) _ [1, 2] X4.out (by repeat (first | with_reducible exact Keep.refl _ _ | with_reducible refine Keep.drew ?_ | with_reducible refine Keep.alloc ?_ _ | exact Keep.refl _ _ | fail)) (by omega) (by simp) (by (repeat (first | with_reducible refine Rep.drew ?_ | ((refine ints_newAt [1, 2] ?_ ?_ (by simp)) <;> (first | (simp; done) | (intro g hg; have := HBR4.out g hg; (try simp); omega) | fail)) | with_reducible refine Rep.alloc ?_ _ | fail))) (by simp) (by simp)).mono ?_
             rintro e w61 ⟨o61, rfl, ho61, hX, hk, hk'⟩
             have OP := Lib.hid (show 1 ≤ o61 ∧ o61 ≤ 4 by simp at ho61; omega)
             have X61 := Lib.hid hX
             have s61 := hk.size
             simp at s61
             have B61 := Lib.hid (B4.out.call X4.out hk hbm (by omega))
             have C61 := Lib.hid (C4.out.keepM hk (by simp; omega))
             have R61 := Lib.hid (R4.out.keep hk (fun m hm => by simp at hm; subst hm; exact .inl hbm))
             have RI61 := Lib.hid (RI4.out.keep hk X4.out.mem)
             clear ho61 hX hk hk'))
        all_goals
          have XS := Lib.hid (X63.out.set (j := w4.heap.size + 1) (by omega) (.int .i64 o61) (.int .i64 0) (.slice (some ⟨w62.heap.size, 0, none⟩) 2 2))
          obtain ⟨xa, hxa⟩ : ∃ xa, xa = Ex.mk o61 0 [y, .mk 9 (f : Int) ks] := ⟨_, rfl⟩
          have TXA := Lib.hid (show HasTy l (sgs fs) (ps ++ [0, 1]) xa 0 from by rw [← INN.out, hxa]; exact .prim OP.out TY.out TC.out)
          have BS := Lib.hid (show Bx ((w4.heap.size + 1) :: w4.heap.size :: List.range (w.heap.size + 2)) (put3 w63 (w4.heap.size + 1) (.int .i64 o61) (.int .i64 0) (.slice (some ⟨w62.heap.size, 0, none⟩) 2 2)) (w4.heap.size + 1) xa from by rw [hxa]; exact B63.out.set (x := .mk o61 0 [y, .mk 9 (f : Int) ks]) (by simp) R63.out)
          clear hxa
          clear q4 r4 cr4 cc0 cc1 cc2 y0 y1 y2 g0 g1 g2
          have hKs := BS.out.lt
          have hXz := XS.out.size
          obtain ⟨aA, cA, hCA, hRA⟩ := BS.out.c3
          have CA := Lib.hid hCA
          have RA := Lib.hid (show Rep (List.range (w.heap.size + 2)) _ (kidsD xa.kids) (.slice aA xa.kids.length cA) from hRA.sub (fun g hg => .inl (by simp at hg ⊢; omega)))
          clear hRA
          have XC := XS.out.old cr hbn
          obtain ⟨qB, rB⟩ := XS.out.cells
          obtain ⟨cA0, cA1, cA2⟩ := hCA
          go_wp2
          go_region_held3 (fun w' => w'.cell? ⟨w.heap.size, 0, none⟩ = some (.slice da l.length dc) ∧ w'.cell? ⟨w.heap.size, 1, none⟩ = some (.slice (some ⟨bf, of, none⟩) fs.length fc) ∧ w'.cell? ⟨bf, of + f * 5 + 1, none⟩ = some (.int .i64 0) ∧ w'.cell? ⟨w4.heap.size + 1, 0, none⟩ = some (.int .i64 xa.op) ∧ w'.cell? ⟨w4.heap.size + 1, 1, none⟩ = some (.int .i64 xa.num) ∧ w'.cell? ⟨w4.heap.size + 1, 2, none⟩ = some (.slice aA xa.kids.length cA))
            (first | (refine Sx.hold1 (Sx.keep0 XS.out ?_) cr hbn (C3.keep0 CA.out ?_) <;> ((repeat (first | with_reducible exact Keep.refl _ _ | with_reducible refine Keep.drew ?_ | with_reducible refine Keep.alloc ?_ _ | exact Keep.refl _ _ | fail)); done)) | (refine Sx.hold1 (Sx.keep0 X50.out ?_) cr hbn (C3.keep0 CA0.out ?_) <;> ((repeat (first | with_reducible exact Keep.refl _ _ | with_reducible refine Keep.drew ?_ | with_reducible refine Keep.alloc ?_ _ | exact Keep.refl _ _ | fail)); done)) | (refine Sx.hold1 (Sx.keep0 X51.out ?_) cr hbn (C3.keep0 CA1.out ?_) <;> ((repeat (first | with_reducible exact Keep.refl _ _ | with_reducible refine Keep.drew ?_ | with_reducible refine Keep.alloc ?_ _ | exact Keep.refl _ _ | fail)); done)) | (refine Sx.hold1 (Sx.keep0 X99.out ?_) cr hbn (C3.keep0 CA9.out ?_) <;> ((repeat (first | with_reducible exact Keep.refl _ _ | with_reducible refine Keep.drew ?_ | with_reducible refine Keep.alloc ?_ _ | exact Keep.refl _ _ | fail)); done)) | (refine Sx.hold1p X99.out cr hbn CA9.out ?_ ?_ _ _ _ <;> omega) | go_keep)
            (first
            | (go_at_call 58
               have hq := X51.out
               clear hq
               refine (node_sx 8 1 _ [.mk 12 (a : Int) [], y, xa] X51.out (by repeat (first | with_reducible exact Keep.refl _ _ | with_reducible refine Keep.drew ?_ | with_reducible refine Keep.alloc ?_ _ | exact Keep.refl _ _ | fail)) (by exact (Rep.keep0 (kids_new3 (x := .mk 12 (a : Int) []) (kids0 hc50) RY.out RA1.out (fun g hg => by simp at hg; omega)) (by repeat (first | exact Keep.refl _ _ | refine Keep.drew ?_ | refine Keep.alloc ?_ _ | fail))))).mono ?_
               rintro e w99 ⟨a99, cap99, rfl, hX, hk, hv99⟩
               have X99 := Lib.hid hX
               have V99 := Lib.hid hv99
               have CA9 := Lib.hid (CA1.out.keep0 hk)
               obtain ⟨⟨y0, y1, y2⟩, g0, g1, g2⟩ := hX.out
               clear hX hk hv99)
            | (go_at_call 57
               have hq := X50.out
               clear hq
               refine (gen_sx GA4.out _ ps 0 X50.out (by repeat (first | with_reducible exact Keep.refl _ _ | with_reducible refine Keep.drew ?_ | with_reducible refine Keep.alloc ?_ _ | exact Keep.refl _ _ | fail)) (X50.out.rep0 RP.out) (by simp; omega) (by omega) (by omega) (HRC.out ps) (by rw [show (4 : Int).toNat = 4 from rfl, cst4]; omega)).mono ?_
               rintro e w51 ⟨y, p51, ay, cy, rfl, hy, hX, hk, _, hp51, hr51⟩
               rw [show (4 : Int).toNat = 4 from rfl, cst4] at hp51
               have X51 := Lib.hid hX
               have TY := Lib.hid hy.1
               have s51 := hX.size
               have CA1 := Lib.hid (CA0.out.keepM hk (by simp; omega))
               have RY := Lib.hid (hr51.sub (G' := List.range (w.heap.size + 2)) (range_sub X50.out.size))
               have RA1 := Lib.hid (RA0.out.keep hk (X50.out.rmem (by omega)))
               clear hX hk hy hr51)
            | (go_at_call 61
               refine (variable_sx (a : Int) XS.out (by repeat (first | with_reducible exact Keep.refl _ _ | with_reducible refine Keep.drew ?_ | with_reducible refine Keep.alloc ?_ _ | exact Keep.refl _ _ | fail))).mono ?_
               rintro e w50 ⟨a50, c50, rfl, hX, hk, hr50⟩
               have X50 := Lib.hid hX
               have CA0 := Lib.hid (CA.out.keep0 hk)
               have RA0 := Lib.hid (RA.out.keep0 hk)
               have hc50 := kids_cap hr50
               clear hX hk hr50))
          all_goals
            go_wp2
            refine bodyPost_ret (v := .agg #[.int .i64 8, .int .i64 1, .slice a99 3 cap99]) (by simp [results, Tryd.results42, go_sem, y0, y1, y2]) rfl (X99.out.post (x := .mk 8 1 [.mk 12 (a : Int) [], y, xa]) V99.out (ty_match1 HL.out TVA.out TY.out TXA.out) (by omega))
      · skip
        go_wp2_with fail
        refine (pick_sx 5 X4.out (by repeat (first | with_reducible exact Keep.refl _ _ | with_reducible refine Keep.drew ?_ | with_reducible refine Keep.alloc ?_ _ | exact Keep.refl _ _ | fail)) (by omega) (by omega)).mono ?_
        rintro e w55 ⟨k5, rfl, k5a, k5b, hX, hk⟩
        have X55 := Lib.hid hX
        have s55 := hk.size
        simp at s55
        have B55 := Lib.hid (B4.out.call X4.out hk hbm (by omega))
        have C55 := Lib.hid (C4.out.keepM hk (by simp; omega))
        have R55 := Lib.hid (R4.out.keep hk (fun m hm => by simp at hm; subst hm; exact .inl hbm))
        have RI55 := Lib.hid (RI4.out.keep hk X4.out.mem)
        have cr55 := hX.old cr hbn
        obtain ⟨q55, r55⟩ := hX.cells
        clear hX hk k5b q4 r4 cr4
        by_cases hk5 : 0 < k5
        · skip
          go_wp2_with fail
          refine (gen_sx GA4.out _ inn 0 X55.out (by repeat (first | with_reducible exact Keep.refl _ _ | with_reducible refine Keep.drew ?_ | with_reducible refine Keep.alloc ?_ _ | exact Keep.refl _ _ | fail)) RI55.out (by simp; omega) (by omega) (by omega) (HB0.out inn).2.2 (by rw [show (4 : Int).toNat = 4 from rfl, cst4]; omega)).mono ?_
          rintro e w56 ⟨y, p56, ay, cy, rfl, hy, hX, hk, _, hp56, hr56⟩
          rw [show (4 : Int).toNat = 4 from rfl, cst4] at hp56
          have TY := Lib.hid hy.1
          have s56 := hk.size
          have B56 := Lib.hid (B55.out.call X55.out hk hbm (by omega))
          have C56 := Lib.hid (C55.out.keepM hk (by simp; omega))
          have R56 := Lib.hid (R55.out.keep hk (fun m hm => by simp at hm; subst hm; exact .inl hbm))
          have RY := Lib.hid (show Rep ((w4.heap.size + 1) :: w4.heap.size :: List.range (w.heap.size + 2)) w56 (kidsD y.kids) (.slice ay y.kids.length cy) from hr56.sub (fun g hg => .inl (by simp at hg ⊢; omega)))
          have X57 := Lib.hid (hX.new (.cells #[.int .i64 y.op, .int .i64 y.num, .slice ay y.kids.length cy] 55))
          have BK := Lib.hid (Bx.new RY.out)
          have CH := Lib.hid (show C3 (w56.alloc (.cells #[.int .i64 y.op, .int .i64 y.num, .slice ay y.kids.length cy] 55)) w56.heap.size (.int .i64 y.op) (.int .i64 y.num) (.slice ay y.kids.length cy) from (blk3 (heap_alloc_new w56 _)).1)
          have cr57 := X57.out.old cr hbn
          clear hX hk hy hr56 q55 r55 cr55
          by_cases hn1 : 1 < ps.length
          · obtain ⟨bp, op, rfl, hbG, hbp, hcl⟩ := ints_at RP.out (show 0 < ps.length by omega)
            have hbpn : bp ≠ br := fun e => hbG (e ▸ hbr)
            rw [Nat.add_zero] at hcl
            have hcl5 := X57.out.old hcl hbpn
            clear hbG
            cases h2 : (ps[0] == 2)
            · skip
              have XH := X57
              have BH := Lib.hid (B56.out.alloc (.cells #[.int .i64 y.op, .int .i64 y.num, .slice ay y.kids.length cy] 55))
              have CG := Lib.hid (C56.out.keep0 ((Keep.refl _ _).alloc (.cells #[.int .i64 y.op, .int .i64 y.num, .slice ay y.kids.length cy] 55)))
              have RG := Lib.hid (R56.out.alloc (.cells #[.int .i64 y.op, .int .i64 y.num, .slice ay y.kids.length cy] 55))
              have RH := Lib.hid (RY.out.alloc (.cells #[.int .i64 y.op, .int .i64 y.num, .slice ay y.kids.length cy] 55))
              have TH := TY
              have HGL := Lib.hid (show ∀ g, g ∈ ((w4.heap.size + 1) :: w4.heap.size :: List.range (w.heap.size + 2)) → g < (w56.alloc (.cells #[.int .i64 y.op, .int .i64 y.num, .slice ay y.kids.length cy] 55)).heap.size from fun g hg => by simp at hg; simp; omega)
              have HCH := CH.out
              obtain ⟨ch0, ch1, ch2⟩ := HCH
              have HCC := CG.out
              obtain ⟨cc0, cc1, cc2⟩ := HCC
              go_wp2_with fail
              refine (node_ex 6 1 _ 2 2 _).mono ?_
              rintro e w59 ⟨rfl, hk'⟩
              have X59 := Lib.hid (XH.out.keep0 (Keep.then0 (by repeat (first | with_reducible exact Keep.refl _ _ | with_reducible refine Keep.drew ?_ | with_reducible refine Keep.alloc ?_ _ | exact Keep.refl _ _ | fail)) hk'))
              have B59 := Lib.hid (BH.out.keep0 (Keep.then0 (by repeat (first | with_reducible exact Keep.refl _ _ | with_reducible refine Keep.drew ?_ | with_reducible refine Keep.alloc ?_ _ | exact Keep.refl _ _ | fail)) hk'))
              have R59 := Rep.keep0 (kids_new2 (x := y) (y := .mk 9 (f : Int) ks) RH.out RG.out HGL.out) hk'
              rw [World.size_alloc] at R59
              have R59 := Lib.hid R59
              have s59 := hk'.size
              simp at s59
              obtain ⟨_, _, ⟨y0, y1, y2⟩, ⟨g0, g1, g2⟩, _⟩ := B59.out.cells
              clear hk' ch0 ch1 ch2 cc0 cc1 cc2
              have XS := Lib.hid (X59.out.set (j := w4.heap.size + 1) (by omega) (.int .i64 6) (.int .i64 1) (.slice (some ⟨w56.heap.size + 1, 0, none⟩) 2 2))
              obtain ⟨xa, hxa⟩ : ∃ xa, xa = Ex.mk 6 1 [y, .mk 9 (f : Int) ks] := ⟨_, rfl⟩
              have TXA := Lib.hid (show HasTy l (sgs fs) (ps ++ [0, 1]) xa 1 from by rw [← INN.out, hxa]; exact ty_cons HL.out TH.out TC.out)
              have BS := Lib.hid (show Bx ((w4.heap.size + 1) :: w4.heap.size :: List.range (w.heap.size + 2)) (put3 w59 (w4.heap.size + 1) (.int .i64 6) (.int .i64 1) (.slice (some ⟨w56.heap.size + 1, 0, none⟩) 2 2)) (w4.heap.size + 1) xa from by rw [hxa]; exact B59.out.set (x := .mk 6 1 [y, .mk 9 (f : Int) ks]) (by simp) R59.out)
              clear hxa
              have g59 := X59.out.old cr hbn
              go_wp2_with fail
              clear y0 y1 y2 g0 g1 g2
              have hKs := BS.out.lt
              have hXz := XS.out.size
              obtain ⟨aA, cA, hCA, hRA⟩ := BS.out.c3
              have CA := Lib.hid hCA
              have RA := Lib.hid (show Rep (List.range (w.heap.size + 2)) _ (kidsD xa.kids) (.slice aA xa.kids.length cA) from hRA.sub (fun g hg => .inl (by simp at hg ⊢; omega)))
              clear hRA
              have XC := XS.out.old cr hbn
              obtain ⟨qB, rB⟩ := XS.out.cells
              obtain ⟨cA0, cA1, cA2⟩ := hCA
              try go_wp2
              go_region_held3 (fun w' => w'.cell? ⟨w.heap.size, 0, none⟩ = some (.slice da l.length dc) ∧ w'.cell? ⟨w.heap.size, 1, none⟩ = some (.slice (some ⟨bf, of, none⟩) fs.length fc) ∧ w'.cell? ⟨bf, of + f * 5 + 1, none⟩ = some (.int .i64 1) ∧ w'.cell? ⟨w4.heap.size + 1, 0, none⟩ = some (.int .i64 xa.op) ∧ w'.cell? ⟨w4.heap.size + 1, 1, none⟩ = some (.int .i64 xa.num) ∧ w'.cell? ⟨w4.heap.size + 1, 2, none⟩ = some (.slice aA xa.kids.length cA))
                (first | (refine Sx.hold1 (Sx.keep0 XS.out ?_) cr hbn (C3.keep0 CA.out ?_) <;> ((repeat (first | with_reducible exact Keep.refl _ _ | with_reducible refine Keep.drew ?_ | with_reducible refine Keep.alloc ?_ _ | exact Keep.refl _ _ | fail)); done)) | (refine Sx.hold1 (Sx.keep0 X50.out ?_) cr hbn (C3.keep0 CA0.out ?_) <;> ((repeat (first | with_reducible exact Keep.refl _ _ | with_reducible refine Keep.drew ?_ | with_reducible refine Keep.alloc ?_ _ | exact Keep.refl _ _ | fail)); done)) | (refine Sx.hold1 (Sx.keep0 X51.out ?_) cr hbn (C3.keep0 CA1.out ?_) <;> ((repeat (first | with_reducible exact Keep.refl _ _ | with_reducible refine Keep.drew ?_ | with_reducible refine Keep.alloc ?_ _ | exact Keep.refl _ _ | fail)); done)) | (refine Sx.hold1 (Sx.keep0 X99.out ?_) cr hbn (C3.keep0 CA9.out ?_) <;> ((repeat (first | with_reducible exact Keep.refl _ _ | with_reducible refine Keep.drew ?_ | with_reducible refine Keep.alloc ?_ _ | exact Keep.refl _ _ | fail)); done)) | (refine Sx.hold1p X99.out cr hbn CA9.out ?_ ?_ _ _ _ <;> omega) | go_keep)
                (first
                | (go_at_call 58
                   have hq := X51.out
                   clear hq
                   refine (node_sx 8 1 _ [.mk 12 (a : Int) [], y, xa] X51.out (by repeat (first | with_reducible exact Keep.refl _ _ | with_reducible refine Keep.drew ?_ | with_reducible refine Keep.alloc ?_ _ | exact Keep.refl _ _ | fail)) (by exact (Rep.keep0 (kids_new3 (x := .mk 12 (a : Int) []) (kids0 hc50) RY.out RA1.out (fun g hg => by simp at hg; omega)) (by repeat (first | exact Keep.refl _ _ | refine Keep.drew ?_ | refine Keep.alloc ?_ _ | fail))))).mono ?_
                   rintro e w99 ⟨a99, cap99, rfl, hX, hk, hv99⟩
                   have X99 := Lib.hid hX
                   have V99 := Lib.hid hv99
                   have CA9 := Lib.hid (CA1.out.keep0 hk)
                   obtain ⟨⟨y0, y1, y2⟩, g0, g1, g2⟩ := hX.out
                   clear hX hk hv99)
                | (go_at_call 57
                   have hq := X50.out
                   clear hq
                   refine (gen_sx GA4.out _ ps 1 X50.out (by repeat (first | with_reducible exact Keep.refl _ _ | with_reducible refine Keep.drew ?_ | with_reducible refine Keep.alloc ?_ _ | exact Keep.refl _ _ | fail)) (X50.out.rep0 RP.out) (by simp; omega) (by omega) (by omega) (HRC.out ps) (by rw [show (4 : Int).toNat = 4 from rfl, cst4]; omega)).mono ?_
                   rintro e w51 ⟨y, p51, ay, cy, rfl, hy, hX, hk, _, hp51, hr51⟩
                   rw [show (4 : Int).toNat = 4 from rfl, cst4] at hp51
                   have X51 := Lib.hid hX
                   have TY := Lib.hid hy.1
                   have s51 := hX.size
                   have CA1 := Lib.hid (CA0.out.keepM hk (by simp; omega))
                   have RY := Lib.hid (hr51.sub (G' := List.range (w.heap.size + 2)) (range_sub X50.out.size))
                   have RA1 := Lib.hid (RA0.out.keep hk (X50.out.rmem (by omega)))
                   clear hX hk hy hr51)
                | (go_at_call 61
                   refine (variable_sx (a : Int) XS.out (by repeat (first | with_reducible exact Keep.refl _ _ | with_reducible refine Keep.drew ?_ | with_reducible refine Keep.alloc ?_ _ | exact Keep.refl _ _ | fail))).mono ?_
                   rintro e w50 ⟨a50, c50, rfl, hX, hk, hr50⟩
                   have X50 := Lib.hid hX
                   have CA0 := Lib.hid (CA.out.keep0 hk)
                   have RA0 := Lib.hid (RA.out.keep0 hk)
                   have hc50 := kids_cap hr50
                   clear hX hk hr50))
              all_goals
                go_wp2
                refine bodyPost_ret (v := .agg #[.int .i64 8, .int .i64 1, .slice a99 3 cap99]) (by simp [results, Tryd.results42, go_sem, y0, y1, y2]) rfl (X99.out.post (x := .mk 8 1 [.mk 12 (a : Int) [], y, xa]) V99.out (ty_match1 HL.out TVA.out TY.out TXA.out) (by omega))
            · have H02 := Lib.hid (show ps[0] = 2 by simpa using h2)
              go_wp2_with fail
              refine (variable_sx 0 X57.out (by repeat (first | with_reducible exact Keep.refl _ _ | with_reducible refine Keep.drew ?_ | with_reducible refine Keep.alloc ?_ _ | exact Keep.refl _ _ | fail))).mono ?_
              rintro e v1 ⟨a71, c71, rfl, hX, hk, hr71⟩
              have X71 := Lib.hid hX
              have KV1 := Lib.hid hk
              have hc71 := kids_cap hr71
              clear hX hk hr71
              go_wp2_with fail
              refine (variable_sx (ps.length : Int) X71.out (by repeat (first | with_reducible exact Keep.refl _ _ | with_reducible refine Keep.drew ?_ | with_reducible refine Keep.alloc ?_ _ | exact Keep.refl _ _ | fail))).mono ?_
              rintro e v2 ⟨a72, c72, rfl, hX, hk, hr72⟩
              have X72 := Lib.hid hX
              have KV2 := Lib.hid (KV1.out.then0 hk)
              have hc72 := kids_cap hr72
              have s72 := hX.size
              have k72 := KV2.out.size
              simp at k72
              clear hX hk hr72
              go_wp2_with fail
              refine (node_ex 11 0 _ 2 2 _).mono ?_
              rintro e v3 ⟨rfl, hk'⟩
              have X73 := Lib.hid (X72.out.keep0 (Keep.then0 (by repeat (first | with_reducible exact Keep.refl _ _ | with_reducible refine Keep.drew ?_ | with_reducible refine Keep.alloc ?_ _ | exact Keep.refl _ _ | fail)) hk'))
              have KV3 := Lib.hid (KV2.out.then0 (Keep.then0 (by repeat (first | with_reducible exact Keep.refl _ _ | with_reducible refine Keep.drew ?_ | with_reducible refine Keep.alloc ?_ _ | exact Keep.refl _ _ | fail)) hk'))
              have k73 := hk'.size
              simp at k73
              have BK3 := Lib.hid (BK.out.keep0 KV3.out)
              have RV3 := Lib.hid (show Rep (w56.heap.size :: ((w4.heap.size + 1) :: w4.heap.size :: List.range (w.heap.size + 2))) v3 (kidsD [.mk 12 0 [], .mk 12 (ps.length : Int) []]) (.slice (some ⟨v2.heap.size, 0, none⟩) 2 2) from Rep.keep0 (kids_new2 (x := .mk 12 0 []) (y := .mk 12 (ps.length : Int) []) (kids0 hc71) (kids0 hc72) (fun g hg => by simp at hg; omega)) hk')
              have K56 := Lib.hid (show Keep [] w56 (put3 v3 w56.heap.size (.int .i64 11) (.int .i64 0) (.slice (some ⟨v2.heap.size, 0, none⟩) 2 2)) from (((Keep.refl [] w56).alloc (.cells #[.int .i64 y.op, .int .i64 y.num, .slice ay y.kids.length cy] 55)).then0 KV3.out).put3 (Nat.le_refl _) _ _ _)
              have XH := Lib.hid (X73.out.set (j := w56.heap.size) (by omega) (.int .i64 11) (.int .i64 0) (.slice (some ⟨v2.heap.size, 0, none⟩) 2 2))
              have BH := Lib.hid (B56.out.keep0 K56.out)
              have CG := Lib.hid (C56.out.keep0 K56.out)
              have RG := Lib.hid (R56.out.keep0 K56.out)
              have RH := Lib.hid (RV3.out.other_set (j := w56.heap.size) (by simp) (.int .i64 11) (.int .i64 0) (.slice (some ⟨v2.heap.size, 0, none⟩) 2 2)).tail
              have CHo := CH
              have CH := Lib.hid (show C3 (put3 v3 w56.heap.size (.int .i64 11) (.int .i64 0) (.slice (some ⟨v2.heap.size, 0, none⟩) 2 2)) w56.heap.size (.int .i64 11) (.int .i64 0) (.slice (some ⟨v2.heap.size, 0, none⟩) 2 2) from by obtain ⟨a, c, h1, _⟩ := BK3.out.ex; exact (blk3 (put3_block h1)).1)
              obtain ⟨_, _, ⟨e0, e1, e2⟩, ⟨i0, i1, i2⟩, _⟩ := BK3.out.cells
              have TH := Lib.hid (show HasTy l (sgs fs) inn (.mk 11 0 [.mk 12 0 [], .mk 12 (ps.length : Int) []]) 0 from ty_apply2 HL.out (by have h := TV.out 0 (by omega); rwa [H02.out] at h) TN.out)
              have HGL := Lib.hid (show ∀ g, g ∈ ((w4.heap.size + 1) :: w4.heap.size :: List.range (w.heap.size + 2)) → g < (put3 v3 w56.heap.size (.int .i64 11) (.int .i64 0) (.slice (some ⟨v2.heap.size, 0, none⟩) 2 2)).heap.size from fun g hg => by have := XH.out.size; have := K56.out.size; simp at hg; omega)
              clear hk' CHo
              have HCH := CH.out
              obtain ⟨ch0, ch1, ch2⟩ := HCH
              have HCC := CG.out
              obtain ⟨cc0, cc1, cc2⟩ := HCC
              unfold put3 at cc0 cc1 cc2 ch0 ch1 ch2
              go_wp2_with fail
              refine (node_ex 6 1 _ 2 2 _).mono ?_
              rintro e w59 ⟨rfl, hk'⟩
              have X59 := Lib.hid (XH.out.keep0 (Keep.then0 (by repeat (first | with_reducible exact Keep.refl _ _ | with_reducible refine Keep.drew ?_ | with_reducible refine Keep.alloc ?_ _ | exact Keep.refl _ _ | fail)) hk'))
              have B59 := Lib.hid (BH.out.keep0 (Keep.then0 (by repeat (first | with_reducible exact Keep.refl _ _ | with_reducible refine Keep.drew ?_ | with_reducible refine Keep.alloc ?_ _ | exact Keep.refl _ _ | fail)) hk'))
              have R59 := Rep.keep0 (kids_new2 (x := (.mk 11 0 [.mk 12 0 [], .mk 12 (ps.length : Int) []])) (y := .mk 9 (f : Int) ks) RH.out RG.out HGL.out) hk'
              rw [put3_size] at R59
              have R59 := Lib.hid R59
              have s59 := hk'.size
              simp at s59
              obtain ⟨_, _, ⟨y0, y1, y2⟩, ⟨g0, g1, g2⟩, _⟩ := B59.out.cells
              clear hk' ch0 ch1 ch2 cc0 cc1 cc2
              have XS := Lib.hid (X59.out.set (j := w4.heap.size + 1) (by omega) (.int .i64 6) (.int .i64 1) (.slice (some ⟨v3.heap.size, 0, none⟩) 2 2))
              obtain ⟨xa, hxa⟩ : ∃ xa, xa = Ex.mk 6 1 [(.mk 11 0 [.mk 12 0 [], .mk 12 (ps.length : Int) []]), .mk 9 (f : Int) ks] := ⟨_, rfl⟩
              have TXA := Lib.hid (show HasTy l (sgs fs) (ps ++ [0, 1]) xa 1 from by rw [← INN.out, hxa]; exact ty_cons HL.out TH.out TC.out)
              have BS := Lib.hid (show Bx ((w4.heap.size + 1) :: w4.heap.size :: List.range (w.heap.size + 2)) (put3 w59 (w4.heap.size + 1) (.int .i64 6) (.int .i64 1) (.slice (some ⟨v3.heap.size, 0, none⟩) 2 2)) (w4.heap.size + 1) xa from by rw [hxa]; exact B59.out.set (x := .mk 6 1 [(.mk 11 0 [.mk 12 0 [], .mk 12 (ps.length : Int) []]), .mk 9 (f : Int) ks]) (by simp) R59.out)
              clear hxa
              have g59 := X59.out.old cr hbn
              go_wp2_with fail
              clear y0 y1 y2 g0 g1 g2
              have hKs := BS.out.lt
              have hXz := XS.out.size
              obtain ⟨aA, cA, hCA, hRA⟩ := BS.out.c3
              have CA := Lib.hid hCA
              have RA := Lib.hid (show Rep (List.range (w.heap.size + 2)) _ (kidsD xa.kids) (.slice aA xa.kids.length cA) from hRA.sub (fun g hg => .inl (by simp at hg ⊢; omega)))
              clear hRA
              have XC := XS.out.old cr hbn
              obtain ⟨qB, rB⟩ := XS.out.cells
              obtain ⟨cA0, cA1, cA2⟩ := hCA
              try go_wp2
              go_region_held3 (fun w' => w'.cell? ⟨w.heap.size, 0, none⟩ = some (.slice da l.length dc) ∧ w'.cell? ⟨w.heap.size, 1, none⟩ = some (.slice (some ⟨bf, of, none⟩) fs.length fc) ∧ w'.cell? ⟨bf, of + f * 5 + 1, none⟩ = some (.int .i64 1) ∧ w'.cell? ⟨w4.heap.size + 1, 0, none⟩ = some (.int .i64 xa.op) ∧ w'.cell? ⟨w4.heap.size + 1, 1, none⟩ = some (.int .i64 xa.num) ∧ w'.cell? ⟨w4.heap.size + 1, 2, none⟩ = some (.slice aA xa.kids.length cA))
                (first | (refine Sx.hold1 (Sx.keep0 XS.out ?_) cr hbn (C3.keep0 CA.out ?_) <;> ((repeat (first | with_reducible exact Keep.refl _ _ | with_reducible refine Keep.drew ?_ | with_reducible refine Keep.alloc ?_ _ | exact Keep.refl _ _ | fail)); done)) | (refine Sx.hold1 (Sx.keep0 X50.out ?_) cr hbn (C3.keep0 CA0.out ?_) <;> ((repeat (first | with_reducible exact Keep.refl _ _ | with_reducible refine Keep.drew ?_ | with_reducible refine Keep.alloc ?_ _ | exact Keep.refl _ _ | fail)); done)) | (refine Sx.hold1 (Sx.keep0 X51.out ?_) cr hbn (C3.keep0 CA1.out ?_) <;> ((repeat (first | with_reducible exact Keep.refl _ _ | with_reducible refine Keep.drew ?_ | with_reducible refine Keep.alloc ?_ _ | exact Keep.refl _ _ | fail)); done)) | (refine Sx.hold1 (Sx.keep0 X99.out ?_) cr hbn (C3.keep0 CA9.out ?_) <;> ((repeat (first | with_reducible exact Keep.refl _ _ | with_reducible refine Keep.drew ?_ | with_reducible refine Keep.alloc ?_ _ | exact Keep.refl _ _ | fail)); done)) | (refine Sx.hold1p X99.out cr hbn CA9.out ?_ ?_ _ _ _ <;> omega) | go_keep)
                (first
                | (go_at_call 58
                   have hq := X51.out
                   clear hq
                   refine (node_sx 8 1 _ [.mk 12 (a : Int) [], y, xa] X51.out (by repeat (first | with_reducible exact Keep.refl _ _ | with_reducible refine Keep.drew ?_ | with_reducible refine Keep.alloc ?_ _ | exact Keep.refl _ _ | fail)) (by exact (Rep.keep0 (kids_new3 (x := .mk 12 (a : Int) []) (kids0 hc50) RY.out RA1.out (fun g hg => by simp at hg; omega)) (by repeat (first | exact Keep.refl _ _ | refine Keep.drew ?_ | refine Keep.alloc ?_ _ | fail))))).mono ?_
                   rintro e w99 ⟨a99, cap99, rfl, hX, hk, hv99⟩
                   have X99 := Lib.hid hX
                   have V99 := Lib.hid hv99
                   have CA9 := Lib.hid (CA1.out.keep0 hk)
                   obtain ⟨⟨y0, y1, y2⟩, g0, g1, g2⟩ := hX.out
                   clear hX hk hv99)
                | (go_at_call 57
                   have hq := X50.out
                   clear hq
                   refine (gen_sx GA4.out _ ps 1 X50.out (by repeat (first | with_reducible exact Keep.refl _ _ | with_reducible refine Keep.drew ?_ | with_reducible refine Keep.alloc ?_ _ | exact Keep.refl _ _ | fail)) (X50.out.rep0 RP.out) (by simp; omega) (by omega) (by omega) (HRC.out ps) (by rw [show (4 : Int).toNat = 4 from rfl, cst4]; omega)).mono ?_
                   rintro e w51 ⟨y, p51, ay, cy, rfl, hy, hX, hk, _, hp51, hr51⟩
                   rw [show (4 : Int).toNat = 4 from rfl, cst4] at hp51
                   have X51 := Lib.hid hX
                   have TY := Lib.hid hy.1
                   have s51 := hX.size
                   have CA1 := Lib.hid (CA0.out.keepM hk (by simp; omega))
                   have RY := Lib.hid (hr51.sub (G' := List.range (w.heap.size + 2)) (range_sub X50.out.size))
                   have RA1 := Lib.hid (RA0.out.keep hk (X50.out.rmem (by omega)))
                   clear hX hk hy hr51)
                | (go_at_call 61
                   refine (variable_sx (a : Int) XS.out (by repeat (first | with_reducible exact Keep.refl _ _ | with_reducible refine Keep.drew ?_ | with_reducible refine Keep.alloc ?_ _ | exact Keep.refl _ _ | fail))).mono ?_
                   rintro e w50 ⟨a50, c50, rfl, hX, hk, hr50⟩
                   have X50 := Lib.hid hX
                   have CA0 := Lib.hid (CA.out.keep0 hk)
                   have RA0 := Lib.hid (RA.out.keep0 hk)
                   have hc50 := kids_cap hr50
                   clear hX hk hr50))
              all_goals
                go_wp2
                refine bodyPost_ret (v := .agg #[.int .i64 8, .int .i64 1, .slice a99 3 cap99]) (by simp [results, Tryd.results42, go_sem, y0, y1, y2]) rfl (X99.out.post (x := .mk 8 1 [.mk 12 (a : Int) [], y, xa]) V99.out (ty_match1 HL.out TVA.out TY.out TXA.out) (by omega))
          · skip
            have XH := X57
            have BH := Lib.hid (B56.out.alloc (.cells #[.int .i64 y.op, .int .i64 y.num, .slice ay y.kids.length cy] 55))
            have CG := Lib.hid (C56.out.keep0 ((Keep.refl _ _).alloc (.cells #[.int .i64 y.op, .int .i64 y.num, .slice ay y.kids.length cy] 55)))
            have RG := Lib.hid (R56.out.alloc (.cells #[.int .i64 y.op, .int .i64 y.num, .slice ay y.kids.length cy] 55))
            have RH := Lib.hid (RY.out.alloc (.cells #[.int .i64 y.op, .int .i64 y.num, .slice ay y.kids.length cy] 55))
            have TH := TY
            have HGL := Lib.hid (show ∀ g, g ∈ ((w4.heap.size + 1) :: w4.heap.size :: List.range (w.heap.size + 2)) → g < (w56.alloc (.cells #[.int .i64 y.op, .int .i64 y.num, .slice ay y.kids.length cy] 55)).heap.size from fun g hg => by simp at hg; simp; omega)
            have HCH := CH.out
            obtain ⟨ch0, ch1, ch2⟩ := HCH
            have HCC := CG.out
            obtain ⟨cc0, cc1, cc2⟩ := HCC
            go_wp2_with fail
            refine (node_ex 6 1 _ 2 2 _).mono ?_
            rintro e w59 ⟨rfl, hk'⟩
            have X59 := Lib.hid (XH.out.keep0 (Keep.then0 (by repeat (first | with_reducible exact Keep.refl _ _ | with_reducible refine Keep.drew ?_ | with_reducible refine Keep.alloc ?_ _ | exact Keep.refl _ _ | fail)) hk'))
            have B59 := Lib.hid (BH.out.keep0 (Keep.then0 (by repeat (first | with_reducible exact Keep.refl _ _ | with_reducible refine Keep.drew ?_ | with_reducible refine Keep.alloc ?_ _ | exact Keep.refl _ _ | fail)) hk'))
            have R59 := Rep.keep0 (kids_new2 (x := y) (y := .mk 9 (f : Int) ks) RH.out RG.out HGL.out) hk'
            rw [World.size_alloc] at R59
            have R59 := Lib.hid R59
            have s59 := hk'.size
            simp at s59
            obtain ⟨_, _, ⟨y0, y1, y2⟩, ⟨g0, g1, g2⟩, _⟩ := B59.out.cells
            clear hk' ch0 ch1 ch2 cc0 cc1 cc2
            have XS := Lib.hid (X59.out.set (j := w4.heap.size + 1) (by omega) (.int .i64 6) (.int .i64 1) (.slice (some ⟨w56.heap.size + 1, 0, none⟩) 2 2))
            obtain ⟨xa, hxa⟩ : ∃ xa, xa = Ex.mk 6 1 [y, .mk 9 (f : Int) ks] := ⟨_, rfl⟩
            have TXA := Lib.hid (show HasTy l (sgs fs) (ps ++ [0, 1]) xa 1 from by rw [← INN.out, hxa]; exact ty_cons HL.out TH.out TC.out)
            have BS := Lib.hid (show Bx ((w4.heap.size + 1) :: w4.heap.size :: List.range (w.heap.size + 2)) (put3 w59 (w4.heap.size + 1) (.int .i64 6) (.int .i64 1) (.slice (some ⟨w56.heap.size + 1, 0, none⟩) 2 2)) (w4.heap.size + 1) xa from by rw [hxa]; exact B59.out.set (x := .mk 6 1 [y, .mk 9 (f : Int) ks]) (by simp) R59.out)
            clear hxa
            have g59 := X59.out.old cr hbn
            go_wp2_with fail
            clear y0 y1 y2 g0 g1 g2
            have hKs := BS.out.lt
            have hXz := XS.out.size
            obtain ⟨aA, cA, hCA, hRA⟩ := BS.out.c3
            have CA := Lib.hid hCA
            have RA := Lib.hid (show Rep (List.range (w.heap.size + 2)) _ (kidsD xa.kids) (.slice aA xa.kids.length cA) from hRA.sub (fun g hg => .inl (by simp at hg ⊢; omega)))
            clear hRA
            have XC := XS.out.old cr hbn
            obtain ⟨qB, rB⟩ := XS.out.cells
            obtain ⟨cA0, cA1, cA2⟩ := hCA
            try go_wp2
            go_region_held3 (fun w' => w'.cell? ⟨w.heap.size, 0, none⟩ = some (.slice da l.length dc) ∧ w'.cell? ⟨w.heap.size, 1, none⟩ = some (.slice (some ⟨bf, of, none⟩) fs.length fc) ∧ w'.cell? ⟨bf, of + f * 5 + 1, none⟩ = some (.int .i64 1) ∧ w'.cell? ⟨w4.heap.size + 1, 0, none⟩ = some (.int .i64 xa.op) ∧ w'.cell? ⟨w4.heap.size + 1, 1, none⟩ = some (.int .i64 xa.num) ∧ w'.cell? ⟨w4.heap.size + 1, 2, none⟩ = some (.slice aA xa.kids.length cA))
              (first | (refine Sx.hold1 (Sx.keep0 XS.out ?_) cr hbn (C3.keep0 CA.out ?_) <;> ((repeat (first | with_reducible exact Keep.refl _ _ | with_reducible refine Keep.drew ?_ | with_reducible refine Keep.alloc ?_ _ | exact Keep.refl _ _ | fail)); done)) | (refine Sx.hold1 (Sx.keep0 X50.out ?_) cr hbn (C3.keep0 CA0.out ?_) <;> ((repeat (first | with_reducible exact Keep.refl _ _ | with_reducible refine Keep.drew ?_ | with_reducible refine Keep.alloc ?_ _ | exact Keep.refl _ _ | fail)); done)) | (refine Sx.hold1 (Sx.keep0 X51.out ?_) cr hbn (C3.keep0 CA1.out ?_) <;> ((repeat (first | with_reducible exact Keep.refl _ _ | with_reducible refine Keep.drew ?_ | with_reducible refine Keep.alloc ?_ _ | exact Keep.refl _ _ | fail)); done)) | (refine Sx.hold1 (Sx.keep0 X99.out ?_) cr hbn (C3.keep0 CA9.out ?_) <;> ((repeat (first | with_reducible exact Keep.refl _ _ | with_reducible refine Keep.drew ?_ | with_reducible refine Keep.alloc ?_ _ | exact Keep.refl _ _ | fail)); done)) | (refine Sx.hold1p X99.out cr hbn CA9.out ?_ ?_ _ _ _ <;> omega) | go_keep)
              (first
              | (go_at_call 58
                 have hq := X51.out
                 clear hq
                 refine (node_sx 8 1 _ [.mk 12 (a : Int) [], y, xa] X51.out (by repeat (first | with_reducible exact Keep.refl _ _ | with_reducible refine Keep.drew ?_ | with_reducible refine Keep.alloc ?_ _ | exact Keep.refl _ _ | fail)) (by exact (Rep.keep0 (kids_new3 (x := .mk 12 (a : Int) []) (kids0 hc50) RY.out RA1.out (fun g hg => by simp at hg; omega)) (by repeat (first | exact Keep.refl _ _ | refine Keep.drew ?_ | refine Keep.alloc ?_ _ | fail))))).mono ?_
                 rintro e w99 ⟨a99, cap99, rfl, hX, hk, hv99⟩
                 have X99 := Lib.hid hX
                 have V99 := Lib.hid hv99
                 have CA9 := Lib.hid (CA1.out.keep0 hk)
                 obtain ⟨⟨y0, y1, y2⟩, g0, g1, g2⟩ := hX.out
                 clear hX hk hv99)
              | (go_at_call 57
                 have hq := X50.out
                 clear hq
                 refine (gen_sx GA4.out _ ps 1 X50.out (by repeat (first | with_reducible exact Keep.refl _ _ | with_reducible refine Keep.drew ?_ | with_reducible refine Keep.alloc ?_ _ | exact Keep.refl _ _ | fail)) (X50.out.rep0 RP.out) (by simp; omega) (by omega) (by omega) (HRC.out ps) (by rw [show (4 : Int).toNat = 4 from rfl, cst4]; omega)).mono ?_
                 rintro e w51 ⟨y, p51, ay, cy, rfl, hy, hX, hk, _, hp51, hr51⟩
                 rw [show (4 : Int).toNat = 4 from rfl, cst4] at hp51
                 have X51 := Lib.hid hX
                 have TY := Lib.hid hy.1
                 have s51 := hX.size
                 have CA1 := Lib.hid (CA0.out.keepM hk (by simp; omega))
                 have RY := Lib.hid (hr51.sub (G' := List.range (w.heap.size + 2)) (range_sub X50.out.size))
                 have RA1 := Lib.hid (RA0.out.keep hk (X50.out.rmem (by omega)))
                 clear hX hk hy hr51)
              | (go_at_call 61
                 refine (variable_sx (a : Int) XS.out (by repeat (first | with_reducible exact Keep.refl _ _ | with_reducible refine Keep.drew ?_ | with_reducible refine Keep.alloc ?_ _ | exact Keep.refl _ _ | fail))).mono ?_
                 rintro e w50 ⟨a50, c50, rfl, hX, hk, hr50⟩
                 have X50 := Lib.hid hX
                 have CA0 := Lib.hid (CA.out.keep0 hk)
                 have RA0 := Lib.hid (RA.out.keep0 hk)
                 have hc50 := kids_cap hr50
                 clear hX hk hr50))
            all_goals
              go_wp2
              refine bodyPost_ret (v := .agg #[.int .i64 8, .int .i64 1, .slice a99 3 cap99]) (by simp [results, Tryd.results42, go_sem, y0, y1, y2]) rfl (X99.out.post (x := .mk 8 1 [.mk 12 (a : Int) [], y, xa]) V99.out (ty_match1 HL.out TVA.out TY.out TXA.out) (by omega))
        · skip
          have XS := X55
          obtain ⟨xa, hxa⟩ : ∃ xa, xa = Ex.mk 9 (f : Int) ks := ⟨_, rfl⟩
          have TXA := Lib.hid (show HasTy l (sgs fs) (ps ++ [0, 1]) xa 1 from by rw [← INN.out, hxa]; exact TC.out)
          have BS := Lib.hid (show Bx ((w4.heap.size + 1) :: w4.heap.size :: List.range (w.heap.size + 2)) w55 (w4.heap.size + 1) xa from by rw [hxa]; exact B55.out)
          clear hxa
          have hKs := BS.out.lt
          have hXz := XS.out.size
          obtain ⟨aA, cA, hCA, hRA⟩ := BS.out.c3
          have CA := Lib.hid hCA
          have RA := Lib.hid (show Rep (List.range (w.heap.size + 2)) _ (kidsD xa.kids) (.slice aA xa.kids.length cA) from hRA.sub (fun g hg => .inl (by simp at hg ⊢; omega)))
          clear hRA
          have XC := XS.out.old cr hbn
          obtain ⟨qB, rB⟩ := XS.out.cells
          obtain ⟨cA0, cA1, cA2⟩ := hCA
          go_wp2
          go_region_held3 (fun w' => w'.cell? ⟨w.heap.size, 0, none⟩ = some (.slice da l.length dc) ∧ w'.cell? ⟨w.heap.size, 1, none⟩ = some (.slice (some ⟨bf, of, none⟩) fs.length fc) ∧ w'.cell? ⟨bf, of + f * 5 + 1, none⟩ = some (.int .i64 1) ∧ w'.cell? ⟨w4.heap.size + 1, 0, none⟩ = some (.int .i64 xa.op) ∧ w'.cell? ⟨w4.heap.size + 1, 1, none⟩ = some (.int .i64 xa.num) ∧ w'.cell? ⟨w4.heap.size + 1, 2, none⟩ = some (.slice aA xa.kids.length cA))
            (first | (refine Sx.hold1 (Sx.keep0 XS.out ?_) cr hbn (C3.keep0 CA.out ?_) <;> ((repeat (first | with_reducible exact Keep.refl _ _ | with_reducible refine Keep.drew ?_ | with_reducible refine Keep.alloc ?_ _ | exact Keep.refl _ _ | fail)); done)) | (refine Sx.hold1 (Sx.keep0 X50.out ?_) cr hbn (C3.keep0 CA0.out ?_) <;> ((repeat (first | with_reducible exact Keep.refl _ _ | with_reducible refine Keep.drew ?_ | with_reducible refine Keep.alloc ?_ _ | exact Keep.refl _ _ | fail)); done)) | (refine Sx.hold1 (Sx.keep0 X51.out ?_) cr hbn (C3.keep0 CA1.out ?_) <;> ((repeat (first | with_reducible exact Keep.refl _ _ | with_reducible refine Keep.drew ?_ | with_reducible refine Keep.alloc ?_ _ | exact Keep.refl _ _ | fail)); done)) | (refine Sx.hold1 (Sx.keep0 X99.out ?_) cr hbn (C3.keep0 CA9.out ?_) <;> ((repeat (first | with_reducible exact Keep.refl _ _ | with_reducible refine Keep.drew ?_ | with_reducible refine Keep.alloc ?_ _ | exact Keep.refl _ _ | fail)); done)) | (refine Sx.hold1p X99.out cr hbn CA9.out ?_ ?_ _ _ _ <;> omega) | go_keep)
            (first
            | (go_at_call 58
               have hq := X51.out
               clear hq
               refine (node_sx 8 1 _ [.mk 12 (a : Int) [], y, xa] X51.out (by repeat (first | with_reducible exact Keep.refl _ _ | with_reducible refine Keep.drew ?_ | with_reducible refine Keep.alloc ?_ _ | exact Keep.refl _ _ | fail)) (by exact (Rep.keep0 (kids_new3 (x := .mk 12 (a : Int) []) (kids0 hc50) RY.out RA1.out (fun g hg => by simp at hg; omega)) (by repeat (first | exact Keep.refl _ _ | refine Keep.drew ?_ | refine Keep.alloc ?_ _ | fail))))).mono ?_
               rintro e w99 ⟨a99, cap99, rfl, hX, hk, hv99⟩
               have X99 := Lib.hid hX
               have V99 := Lib.hid hv99
               have CA9 := Lib.hid (CA1.out.keep0 hk)
               obtain ⟨⟨y0, y1, y2⟩, g0, g1, g2⟩ := hX.out
               clear hX hk hv99)
            | (go_at_call 57
               have hq := X50.out
               clear hq
               refine (gen_sx GA4.out _ ps 1 X50.out (by repeat (first | with_reducible exact Keep.refl _ _ | with_reducible refine Keep.drew ?_ | with_reducible refine Keep.alloc ?_ _ | exact Keep.refl _ _ | fail)) (X50.out.rep0 RP.out) (by simp; omega) (by omega) (by omega) (HRC.out ps) (by rw [show (4 : Int).toNat = 4 from rfl, cst4]; omega)).mono ?_
               rintro e w51 ⟨y, p51, ay, cy, rfl, hy, hX, hk, _, hp51, hr51⟩
               rw [show (4 : Int).toNat = 4 from rfl, cst4] at hp51
               have X51 := Lib.hid hX
               have TY := Lib.hid hy.1
               have s51 := hX.size
               have CA1 := Lib.hid (CA0.out.keepM hk (by simp; omega))
               have RY := Lib.hid (hr51.sub (G' := List.range (w.heap.size + 2)) (range_sub X50.out.size))
               have RA1 := Lib.hid (RA0.out.keep hk (X50.out.rmem (by omega)))
               clear hX hk hy hr51)
            | (go_at_call 61
               refine (variable_sx (a : Int) XS.out (by repeat (first | with_reducible exact Keep.refl _ _ | with_reducible refine Keep.drew ?_ | with_reducible refine Keep.alloc ?_ _ | exact Keep.refl _ _ | fail))).mono ?_
               rintro e w50 ⟨a50, c50, rfl, hX, hk, hr50⟩
               have X50 := Lib.hid hX
               have CA0 := Lib.hid (CA.out.keep0 hk)
               have RA0 := Lib.hid (RA.out.keep0 hk)
               have hc50 := kids_cap hr50
               clear hX hk hr50))
          all_goals
            go_wp2
            refine bodyPost_ret (v := .agg #[.int .i64 8, .int .i64 1, .slice a99 3 cap99]) (by simp [results, Tryd.results42, go_sem, y0, y1, y2]) rfl (X99.out.post (x := .mk 8 1 [.mk 12 (a : Int) [], y, xa]) V99.out (ty_match1 HL.out TVA.out TY.out TXA.out) (by omega))

end Go.Proofs.YtnjincgemmgllaaDoor
