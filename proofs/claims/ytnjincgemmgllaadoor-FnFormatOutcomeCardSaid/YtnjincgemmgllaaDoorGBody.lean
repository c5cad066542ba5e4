/- The walk of the generator's bodyOf. -/
import Derived.Test.YtnjincgemmgllaaDoorGOtree
namespace Go.Proofs.YtnjincgemmgllaaDoor
open Go.RowKit

/- which signatures a body is made for -/
structure BodyFn (fs : List Fn) (f : Nat) (ps : List Int) (rs : Int) : Prop where
  fn : FnAt fs f ps rs
  res : rs = 0 ∨ rs = 1 ∨ rs = 3
  main : f = 0 → ps = [] ∧ rs = 0
  flat : rs = 3 → ∀ i : Nat, ps[i]? ≠ some 1
  tree : ∀ h : 0 < ps.length, ps[0] = 3 → (rs = 0 ∨ rs = 3) → ps = [3] ∨ ps = [3, 0]
section
variable {G : List Nat} {B br : Nat} {l : List Dc} {fs : List Fn} {da : Option Addr} {dc : Nat} {fa : Option Addr} {fc : Nat} {w W W' : World} {p : Nat}
theorem mainBody_sx (hl : GD l) (hs : GS l (sgs fs)) (X : Sx G B br l fs da dc fa fc w W p) (hk : Keep [] W W') (hp : p + 429496729630 ≤ 1125899906842624) :
    Calls Tryd.prog 41 #[.pointer (some ⟨br, 0, none⟩), .agg #[.slice da l.length dc, .slice fa fs.length fc]] W' (GX G B br l fs da dc fa fc w W W' p 429496729630 (fun x => HasTy l (sgs fs) [] x 0)) :=
  (mainBody_any (X.keep0 hk).cx p (X.keep0 hk).rd hl hs hp).mono fun _ _ h => GX.of X hk h
theorem downFrom_sx (hl : GD l) (hs : GS l (sgs fs)) (f : Nat) (ps : List Int) (rs : Int) (hF : FnAt fs f ps rs) (h0 : ∃ tl, ps = 0 :: tl) (hrs : rs = 0 ∨ rs = 1) (X : Sx G B br l fs da dc fa fc w W p) (hk : Keep [] W W') (hp : p + 40000 ≤ 1125899906842624) :
    Calls Tryd.prog 44 #[.pointer (some ⟨br, 0, none⟩), .agg #[.slice da l.length dc, .slice fa fs.length fc], .int .i64 (f : Int)] W' (GX G B br l fs da dc fa fc w W W' p 40000 (fun x => HasTy l (sgs fs) ps x rs)) :=
  (downFrom_any (X.keep0 hk).cx p (X.keep0 hk).rd hl hs f ps rs hF h0 hrs hp).mono fun _ _ h => GX.of X hk h
theorem overList_sx (hl : GD l) (hs : GS l (sgs fs)) (f a : Nat) (ps : List Int) (rs : Int) (hF : FnAt fs f ps rs) (ha : ps[a]? = some 1) (hrs : rs = 0 ∨ rs = 1) (X : Sx G B br l fs da dc fa fc w W p) (hk : Keep [] W W') (hp : p + 60000 ≤ 1125899906842624) :
    Calls Tryd.prog 42 #[.pointer (some ⟨br, 0, none⟩), .agg #[.slice da l.length dc, .slice fa fs.length fc], .int .i64 (f : Int), .int .i64 (a : Int)] W' (GX G B br l fs da dc fa fc w W W' p 60000 (fun x => HasTy l (sgs fs) ps x rs)) :=
  (overList_any (X.keep0 hk).cx p (X.keep0 hk).rd hl hs f a ps rs hF ha hrs hp).mono fun _ _ h => GX.of X hk h
theorem overTree_sx (hl : GD l) (hs : GS l (sgs fs)) (f : Nat) (ps : List Int) (rs : Int) (hF : FnAt fs f ps rs) (hps2 : ps = [3] ∨ ps = [3, 0]) (hrs : rs = 0 ∨ rs = 3) (X : Sx G B br l fs da dc fa fc w W p) (hk : Keep [] W W') (hp : p + 80000 ≤ 1125899906842624) :
    Calls Tryd.prog 43 #[.pointer (some ⟨br, 0, none⟩), .agg #[.slice da l.length dc, .slice fa fs.length fc], .int .i64 (f : Int)] W' (GX G B br l fs da dc fa fc w W W' p 80000 (fun x => HasTy l (sgs fs) ps x rs)) :=
  (overTree_any (X.keep0 hk).cx p (X.keep0 hk).rd hl hs f ps rs hF hps2 hrs hp).mono fun _ _ h => GX.of X hk h
theorem fitting_sx (hl : GD l) (hs : GS l (sgs fs)) (vv : Value) (vars : List Int) (t b : Int) (X : Sx G B br l fs da dc fa fc w W p) (hk : Keep [] W W') (hv : Rep G W (ints vars) vv) (t0 : 0 ≤ t) (t1 : t ≤ l.length) (hc : canB l (sgs fs) vars t = true) (b0 : 0 ≤ b) (b1 : b ≤ 100) (hvb : vars.length + 3 * b.toNat ≤ 1000) (hp : p + 2 * cst b.toNat ≤ 1125899906842624) :
    Calls Tryd.prog 45 #[.pointer (some ⟨br, 0, none⟩), .agg #[.slice da l.length dc, .slice fa fs.length fc], vv, .int .i64 t, .int .i64 b] W' (GX G B br l fs da dc fa fc w W W' p (2 * cst b.toNat) (FtT l (sgs fs) vars t)) :=
  (fitting_any (X.keep0 hk).cx p (X.keep0 hk).rd vv vars (hv.keep0 hk) hl hs t t0 t1 hc b b0 b1 hvb hp).mono fun _ _ h => GX.of X hk h
end
theorem cst18 : cst 18 = 6871947673600 := by decide
theorem cst12 : cst 12 = 1677721600 := by decide
set_option maxRecDepth 100000 in
set_option maxHeartbeats 16000000 in
theorem bodyOf_any {G : List Nat} {B br : Nat} {l : List Dc} {fs : List Fn} {dv fv : Value} {w : World} (hx : Cx G B br l fs dv fv w) (p : Nat) (hr : RdAt B w br p) (hl : GD l) (hs : GS l (sgs fs)) (f : Nat) (ps : List Int) (rs : Int) (hBF : BodyFn fs f ps rs) (hp : p + 14000000000000 ≤ 1125899906842624) :
    Calls Tryd.prog 32 #[.pointer (some ⟨br, 0, none⟩), .agg #[dv, fv], .int .i64 (f : Int)] w (GenK B w br p 14000000000000 (fun x => HasTy l (sgs fs) ps x rs ∧ esz x ≤ 30)) := by
  have hF := hBF.fn
  have hn4 : fs.length ≤ 4 := by have := hs.len; rw [sgs_len] at this; omega
  have hn1 : 1 ≤ fs.length := by have := hs.len; rw [sgs_len] at this; omega
  obtain ⟨da, dc, fa, fc, rfl, rfl⟩ := hx.forms
  have X0 := Lib.hid (Sx.start hx hr)
  have hfb := hl.bound
  have HL := Lib.hid hl
  have HS := Lib.hid hs
  have hbr : br ∈ G := hx.hbr
  have hbl := X0.out.brlt
  obtain ⟨bf, of, pa, pc, rfl, hbn, hbf, cp, cr, rp⟩ := hF.cells (br := br) hx.hf hx.hbr
  have RP := Lib.hid rp
  have HF := Lib.hid hF
  have hfl := hF.lt
  have hps : ps.length ≤ 3 := by have h := hs.plen f (by rw [sgs_len]; exact hF.lt); simp only [sgs, List.getElem_map, hF.ps_] at h; exact h
  have HPT := Lib.hid (show ∀ u ∈ ps, 0 ≤ u ∧ u ≤ l.length ∧ canB l (sgs fs) ps u = true from fun u hu => by
    have h1 := hs.ptys f (by rw [sgs_len]; exact hF.lt) u (by simp only [sgs, List.getElem_map, hF.ps_]; exact hu)
    have := hl.len
    exact ⟨by omega, by omega, canB_self hu⟩)
  have hf0 : (0 : Int) ≤ (f : Int) := by omega
  have hf1 : (f : Int) < (fs.length : Int) := by omega
  have hbm2 : br ∈ List.range (w.heap.size + 2) := by simp; omega
  have HBF := Lib.hid hBF
  have hrs := hBF.res
  have HBS := Lib.hid (show base rs from hrs)
  have HRC := Lib.hid (show ∀ vs, canB l (sgs fs) vs rs = true from fun vs => (base_can (sg := sgs fs) hl (u := rs) vs hrs).2.2)
  have hrl : rs ≤ l.length := by have := hl.len; omega
  have hr0 : 0 ≤ rs := by omega
  have cp0 : ((w.alloc (.cells #[.slice da l.length dc, .slice (some ⟨bf, of, none⟩) fs.length fc] 50)).alloc (.cells #[.int .i64 0, .int .i64 0, .slice none 0 0] 55)).cell? ⟨bf, of + f * 5, none⟩ = some (.slice pa ps.length pc) := X0.out.old cp hbn
  have cr0 : ((w.alloc (.cells #[.slice da l.length dc, .slice (some ⟨bf, of, none⟩) fs.length fc] 50)).alloc (.cells #[.int .i64 0, .int .i64 0, .slice none 0 0] 55)).cell? ⟨bf, of + f * 5 + 1, none⟩ = some (.int .i64 rs) := X0.out.old cr hbn
  obtain ⟨at_, hat⟩ : ∃ a, a = plIn ps 1 := ⟨_, rfl⟩
  have HAT := Lib.hid (show at_ = -1 ∨ ∃ i : Nat, at_ = i ∧ ps[i]? = some 1 from by
    rcases plIn_cases ps 1 with h | ⟨i, hi, h, h1⟩
    · exact .inl (hat.trans h)
    · exact .inr ⟨i, hat.trans h, by rw [List.getElem?_eq_getElem hi, h1]⟩)
  have HATE := Lib.hid hat
  clear hx hr hl hs hF hBF rp hat
  go_enter Tryd.func32, Tryd.ntmps32
  go_wp2_with fail
  refine (placeIn_any _ ps 1 _ (by exact (X0.out.rep0 RP.out).keep0 (by repeat (first | exact Keep.refl _ _ | refine Keep.drew ?_ | refine Keep.alloc ?_ _ | fail)))).mono ?_
  rintro e w' ⟨rfl, rfl⟩
  rw [← HATE.out]
  clear cp0 cr0
  go_wp2_with fail
  refine (integer_sx 0 X0.out (by repeat (first | exact Keep.refl _ _ | refine Keep.drew ?_ | refine Keep.alloc ?_ _ | fail))).mono ?_
  rintro e w1 ⟨a1, c1, rfl, hX, hk, hr1⟩
  have s1 := hX.size
  have X1 := Lib.hid (hX.new (.cells #[.int .i64 0, .int .i64 0, .slice a1 0 c1] 55))
  have B1 := Lib.hid (Bx.new (Gb := List.range (w.heap.size + 2)) (W := w1) (x := .mk 0 0 []) (a := a1) (cap := c1) (kids0 (kids_cap hr1)))
  have hbm : br ∈ w1.heap.size :: List.range (w.heap.size + 2) := by simp; omega
  clear hX hk hr1
  go_wp2_with fail
  refine (pick_sx 4 X1.out (by repeat (first | with_reducible exact Keep.refl _ _ | with_reducible refine Keep.drew ?_ | with_reducible refine Keep.alloc ?_ _ | exact Keep.refl _ _ | fail)) (by omega) (by omega)).mono ?_
  rintro e w2 ⟨k, rfl, ka, kb, hX, hk⟩
  have kc := kb (by omega)
  have X2 := Lib.hid hX
  have s2 := hk.size
  simp at s2
  have B2 := Lib.hid (B1.out.call X1.out hk hbm (by omega))
  obtain ⟨q2, r2⟩ := hX.cells
  clear hX hk kb
  have FIT := Lib.hid (show True from trivial)
  by_cases hk3 : k < 3
  · have g0 : decide (k < 3) = true := by simpa using hk3
    by_cases hf : f = 0
    · have gf : ((f : Int) == 0) = true := by simp; omega
      have HPE := Lib.hid (HBF.out.main hf)
      clear hf
      go_wp2_with fail
      refine (mainBody_sx HL.out HS.out X2.out (by repeat (first | with_reducible exact Keep.refl _ _ | with_reducible refine Keep.drew ?_ | with_reducible refine Keep.alloc ?_ _ | exact Keep.refl _ _ | fail)) (by omega)).mono ?_
      rintro e w3 ⟨xe, p3, a3, c3, rfl, hxe, hX, hk, _, hp3, hr3⟩
      have TE := Lib.hid (show HasTy l (sgs fs) ps xe rs from by rw [HPE.out.1, HPE.out.2]; exact hxe)
      have X3 := Lib.hid hX
      have s3 := hk.size
      have B3 := Lib.hid (B2.out.call X2.out hk hbm (by omega))
      have R3 := Lib.hid (show Rep (w1.heap.size :: List.range (w.heap.size + 2)) w3 (kidsD xe.kids) (.slice a3 xe.kids.length c3) from hr3.sub (fun g hg => .inl (by simp at hg ⊢; omega)))
      obtain ⟨_, _, ⟨z0, z1, z2⟩, ⟨f0, f1, f2⟩, _⟩ := B3.out.cells
      have XS := Lib.hid (X3.out.set (j := w1.heap.size) (by omega) (.int .i64 xe.op) (.int .i64 xe.num) (.slice a3 xe.kids.length c3))
      have BS := Lib.hid (B3.out.set (by simp) R3.out)
      clear hX hk hr3 hxe q2 r2
      have hKs := BS.out.lt
      have hXz := XS.out.size
      have RE := Lib.hid (R3.out.other_set (j := w1.heap.size) (by simp) (.int .i64 xe.op) (.int .i64 xe.num) (.slice a3 xe.kids.length c3))
      by_cases hn : esz xe ≤ 30
      · have hnf : ¬ nodesF xe < 0 := by have := nodes_ok.2 hn; omega
        go_wp2_with fail
        refine (nodesOf_any (G := w1.heap.size :: List.range (w.heap.size + 2)) xe _ _ ⟨_, _, rfl, RE.out⟩).mono ?_
        rintro e w98 ⟨rfl, hk98⟩
        have X98 := Lib.hid (XS.out.keep0 hk98)
        have B98 := Lib.hid (BS.out.keep0 hk98)
        obtain ⟨a98, c98, ⟨z0, z1, z2⟩, _, rr⟩ := B98.out.cells
        have R98 := Lib.hid (show Rep (List.range (w.heap.size + 2)) w98 (kidsD xe.kids) (.slice a98 xe.kids.length c98) from rr.tail)
        obtain ⟨⟨y0, y1, y2⟩, g0, g1, g2⟩ := X98.out.out
        have T98 := Lib.hid (show HasTy l (sgs fs) ps xe rs ∧ esz xe ≤ 30 from ⟨TE.out, hn⟩)
        clear hk98 rr
        go_wp2
        refine bodyPost_ret (v := .agg #[.int .i64 xe.op, .int .i64 xe.num, .slice a98 xe.kids.length c98]) (by simp [results, Tryd.results32, go_sem, y0, y1, y2]) rfl (X98.out.post R98.out T98.out (by omega))
      · have hnf : nodesF xe < 0 := nodes_no hn
        go_wp2_with fail
        refine (nodesOf_any (G := w1.heap.size :: List.range (w.heap.size + 2)) xe _ _ ⟨_, _, rfl, RE.out⟩).mono ?_
        rintro e w98 ⟨rfl, hk98⟩
        have X98 := Lib.hid (XS.out.keep0 hk98)
        obtain ⟨q98, r98⟩ := X98.out.cells
        have s98 := X98.out.size
        clear hk98
        go_wp2_with fail
        refine (fitting_sx HL.out HS.out _ ps rs 12 X98.out (by repeat (first | with_reducible exact Keep.refl _ _ | with_reducible refine Keep.drew ?_ | with_reducible refine Keep.alloc ?_ _ | exact Keep.refl _ _ | fail)) (X98.out.rep0 RP.out) (by omega) (by omega) (HRC.out ps) (by omega) (by omega) (by simp <;> omega) (by rw [show (12 : Int).toNat = 12 from rfl, cst12]; omega)).mono ?_
        rintro e w99 ⟨x, p99, a99, cap99, rfl, hx99, hX, hk, _, hp99, hv99⟩
        rw [show (12 : Int).toNat = 12 from rfl, cst12] at hp99
        have X99 := Lib.hid hX
        have V99 := Lib.hid (show Rep (List.range (w.heap.size + 2)) w99 (kidsD x.kids) (.slice a99 x.kids.length cap99) from hv99.sub (range_sub (by omega)))
        have T99 := Lib.hid (show HasTy l (sgs fs) ps x rs ∧ esz x ≤ 30 from ⟨hx99.1, hx99.2 HBS.out⟩)
        obtain ⟨⟨y0, y1, y2⟩, g0, g1, g2⟩ := hX.out
        clear hX hk hv99 hx99 q98 r98
        go_wp2
        refine bodyPost_ret (v := .agg #[.int .i64 x.op, .int .i64 x.num, .slice a99 x.kids.length cap99]) (by simp [results, Tryd.results32, go_sem, y0, y1, y2]) rfl (X99.out.post V99.out T99.out (by omega))
    · have gf : ((f : Int) == 0) = false := by simp; omega
      clear hf
      rcases HAT.out with hneg | ⟨a, ha, ha1⟩
      · subst hneg
        rcases Nat.eq_zero_or_pos ps.length with hl0 | hl0
        · obtain rfl : ps = [] := List.eq_nil_of_length_eq_zero hl0
          clear hl0
          go_wp2_with fail
          refine (fitting_sx HL.out HS.out _ [] rs 18 X2.out (by repeat (first | with_reducible exact Keep.refl _ _ | with_reducible refine Keep.drew ?_ | with_reducible refine Keep.alloc ?_ _ | exact Keep.refl _ _ | fail)) (X2.out.rep0 RP.out) (by omega) (by omega) (HRC.out []) (by omega) (by omega) (by simp <;> omega) (by rw [show (18 : Int).toNat = 18 from rfl, cst18]; omega)).mono ?_
          rintro e w3 ⟨xe, p3, a3, c3, rfl, hxe, hX, hk, _, hp3, hr3⟩
          rw [show (18 : Int).toNat = 18 from rfl, cst18] at hp3
          have TE := Lib.hid (show HasTy l (sgs fs) [] xe rs from hxe.1)
          have X3 := Lib.hid hX
          have s3 := hk.size
          have B3 := Lib.hid (B2.out.call X2.out hk hbm (by omega))
          have R3 := Lib.hid (show Rep (w1.heap.size :: List.range (w.heap.size + 2)) w3 (kidsD xe.kids) (.slice a3 xe.kids.length c3) from hr3.sub (fun g hg => .inl (by simp at hg ⊢; omega)))
          obtain ⟨_, _, ⟨z0, z1, z2⟩, ⟨f0, f1, f2⟩, _⟩ := B3.out.cells
          have XS := Lib.hid (X3.out.set (j := w1.heap.size) (by omega) (.int .i64 xe.op) (.int .i64 xe.num) (.slice a3 xe.kids.length c3))
          have BS := Lib.hid (B3.out.set (by simp) R3.out)
          clear hX hk hr3 hxe q2 r2
          have hKs := BS.out.lt
          have hXz := XS.out.size
          have RE := Lib.hid (R3.out.other_set (j := w1.heap.size) (by simp) (.int .i64 xe.op) (.int .i64 xe.num) (.slice a3 xe.kids.length c3))
          by_cases hn : esz xe ≤ 30
          · have hnf : ¬ nodesF xe < 0 := by have := nodes_ok.2 hn; omega
            go_wp2_with fail
            refine (nodesOf_any (G := w1.heap.size :: List.range (w.heap.size + 2)) xe _ _ ⟨_, _, rfl, RE.out⟩).mono ?_
            rintro e w98 ⟨rfl, hk98⟩
            have X98 := Lib.hid (XS.out.keep0 hk98)
            have B98 := Lib.hid (BS.out.keep0 hk98)
            obtain ⟨a98, c98, ⟨z0, z1, z2⟩, _, rr⟩ := B98.out.cells
            have R98 := Lib.hid (show Rep (List.range (w.heap.size + 2)) w98 (kidsD xe.kids) (.slice a98 xe.kids.length c98) from rr.tail)
            obtain ⟨⟨y0, y1, y2⟩, g0, g1, g2⟩ := X98.out.out
            have T98 := Lib.hid (show HasTy l (sgs fs) [] xe rs ∧ esz xe ≤ 30 from ⟨TE.out, hn⟩)
            clear hk98 rr
            go_wp2
            refine bodyPost_ret (v := .agg #[.int .i64 xe.op, .int .i64 xe.num, .slice a98 xe.kids.length c98]) (by simp [results, Tryd.results32, go_sem, y0, y1, y2]) rfl (X98.out.post R98.out T98.out (by omega))
          · have hnf : nodesF xe < 0 := nodes_no hn
            go_wp2_with fail
            refine (nodesOf_any (G := w1.heap.size :: List.range (w.heap.size + 2)) xe _ _ ⟨_, _, rfl, RE.out⟩).mono ?_
            rintro e w98 ⟨rfl, hk98⟩
            have X98 := Lib.hid (XS.out.keep0 hk98)
            obtain ⟨q98, r98⟩ := X98.out.cells
            have s98 := X98.out.size
            clear hk98
            go_wp2_with fail
            refine (fitting_sx HL.out HS.out _ [] rs 12 X98.out (by repeat (first | with_reducible exact Keep.refl _ _ | with_reducible refine Keep.drew ?_ | with_reducible refine Keep.alloc ?_ _ | exact Keep.refl _ _ | fail)) (X98.out.rep0 RP.out) (by omega) (by omega) (HRC.out []) (by omega) (by omega) (by simp <;> omega) (by rw [show (12 : Int).toNat = 12 from rfl, cst12]; omega)).mono ?_
            rintro e w99 ⟨x, p99, a99, cap99, rfl, hx99, hX, hk, _, hp99, hv99⟩
            rw [show (12 : Int).toNat = 12 from rfl, cst12] at hp99
            have X99 := Lib.hid hX
            have V99 := Lib.hid (show Rep (List.range (w.heap.size + 2)) w99 (kidsD x.kids) (.slice a99 x.kids.length cap99) from hv99.sub (range_sub (by omega)))
            have T99 := Lib.hid (show HasTy l (sgs fs) [] x rs ∧ esz x ≤ 30 from ⟨hx99.1, hx99.2 HBS.out⟩)
            obtain ⟨⟨y0, y1, y2⟩, g0, g1, g2⟩ := hX.out
            clear hX hk hv99 hx99 q98 r98
            go_wp2
            refine bodyPost_ret (v := .agg #[.int .i64 x.op, .int .i64 x.num, .slice a99 x.kids.length cap99]) (by simp [results, Tryd.results32, go_sem, y0, y1, y2]) rfl (X99.out.post V99.out T99.out (by omega))
        · have gl : decide ((0 : Int) < (ps.length : Int)) = true := decide_eq_true (by omega)
          obtain ⟨bp, op, rfl, hbG, hbp, hcl⟩ := ints_at RP.out hl0
          have hbpn : bp ≠ br := fun e => hbG (e ▸ hbr)
          rw [Nat.add_zero] at hcl
          have hcl2 := X2.out.old hcl hbpn
          clear hbG
          by_cases h3 : ps[0] = 3
          · have g3 : (ps[0] == 3) = true := by simp [h3]
            have g30 : (ps[0] == 0) = false := by simp [h3]
            by_cases hr03 : rs = 0 ∨ rs = 3
            · have HP2 := Lib.hid (HBF.out.tree hl0 h3 hr03)
              have g1 : (rs == 0) = true ∨ (rs == 0) = false ∧ (rs == 3) = true := by rcases hr03 with h | h <;> subst h <;> simp
              rw [h3] at hcl2
              clear h3 g3 g30
              rcases g1 with g1 | ⟨g1, g2⟩
              · skip
                go_wp2_with fail
                refine (overTree_sx HL.out HS.out f ps rs HBF.out.fn HP2.out hr03 X2.out (by repeat (first | with_reducible exact Keep.refl _ _ | with_reducible refine Keep.drew ?_ | with_reducible refine Keep.alloc ?_ _ | exact Keep.refl _ _ | fail)) (by omega)).mono ?_
                rintro e w3 ⟨xe, p3, a3, c3, rfl, hxe, hX, hk, _, hp3, hr3⟩
                have TE := Lib.hid (show HasTy l (sgs fs) ps xe rs from hxe)
                have X3 := Lib.hid hX
                have s3 := hk.size
                have B3 := Lib.hid (B2.out.call X2.out hk hbm (by omega))
                have R3 := Lib.hid (show Rep (w1.heap.size :: List.range (w.heap.size + 2)) w3 (kidsD xe.kids) (.slice a3 xe.kids.length c3) from hr3.sub (fun g hg => .inl (by simp at hg ⊢; omega)))
                obtain ⟨_, _, ⟨z0, z1, z2⟩, ⟨f0, f1, f2⟩, _⟩ := B3.out.cells
                have XS := Lib.hid (X3.out.set (j := w1.heap.size) (by omega) (.int .i64 xe.op) (.int .i64 xe.num) (.slice a3 xe.kids.length c3))
                have BS := Lib.hid (B3.out.set (by simp) R3.out)
                clear hX hk hr3 hxe q2 r2
                have hKs := BS.out.lt
                have hXz := XS.out.size
                have RE := Lib.hid (R3.out.other_set (j := w1.heap.size) (by simp) (.int .i64 xe.op) (.int .i64 xe.num) (.slice a3 xe.kids.length c3))
                by_cases hn : esz xe ≤ 30
                · have hnf : ¬ nodesF xe < 0 := by have := nodes_ok.2 hn; omega
                  go_wp2_with fail
                  refine (nodesOf_any (G := w1.heap.size :: List.range (w.heap.size + 2)) xe _ _ ⟨_, _, rfl, RE.out⟩).mono ?_
                  rintro e w98 ⟨rfl, hk98⟩
                  have X98 := Lib.hid (XS.out.keep0 hk98)
                  have B98 := Lib.hid (BS.out.keep0 hk98)
                  obtain ⟨a98, c98, ⟨z0, z1, z2⟩, _, rr⟩ := B98.out.cells
                  have R98 := Lib.hid (show Rep (List.range (w.heap.size + 2)) w98 (kidsD xe.kids) (.slice a98 xe.kids.length c98) from rr.tail)
                  obtain ⟨⟨y0, y1, y2⟩, g0, g1, g2⟩ := X98.out.out
                  have T98 := Lib.hid (show HasTy l (sgs fs) ps xe rs ∧ esz xe ≤ 30 from ⟨TE.out, hn⟩)
                  clear hk98 rr
                  go_wp2
                  refine bodyPost_ret (v := .agg #[.int .i64 xe.op, .int .i64 xe.num, .slice a98 xe.kids.length c98]) (by simp [results, Tryd.results32, go_sem, y0, y1, y2]) rfl (X98.out.post R98.out T98.out (by omega))
                · have hnf : nodesF xe < 0 := nodes_no hn
                  go_wp2_with fail
                  refine (nodesOf_any (G := w1.heap.size :: List.range (w.heap.size + 2)) xe _ _ ⟨_, _, rfl, RE.out⟩).mono ?_
                  rintro e w98 ⟨rfl, hk98⟩
                  have X98 := Lib.hid (XS.out.keep0 hk98)
                  obtain ⟨q98, r98⟩ := X98.out.cells
                  have s98 := X98.out.size
                  clear hk98
                  go_wp2_with fail
                  refine (fitting_sx HL.out HS.out _ ps rs 12 X98.out (by repeat (first | with_reducible exact Keep.refl _ _ | with_reducible refine Keep.drew ?_ | with_reducible refine Keep.alloc ?_ _ | exact Keep.refl _ _ | fail)) (X98.out.rep0 RP.out) (by omega) (by omega) (HRC.out ps) (by omega) (by omega) (by simp <;> omega) (by rw [show (12 : Int).toNat = 12 from rfl, cst12]; omega)).mono ?_
                  rintro e w99 ⟨x, p99, a99, cap99, rfl, hx99, hX, hk, _, hp99, hv99⟩
                  rw [show (12 : Int).toNat = 12 from rfl, cst12] at hp99
                  have X99 := Lib.hid hX
                  have V99 := Lib.hid (show Rep (List.range (w.heap.size + 2)) w99 (kidsD x.kids) (.slice a99 x.kids.length cap99) from hv99.sub (range_sub (by omega)))
                  have T99 := Lib.hid (show HasTy l (sgs fs) ps x rs ∧ esz x ≤ 30 from ⟨hx99.1, hx99.2 HBS.out⟩)
                  obtain ⟨⟨y0, y1, y2⟩, g0, g1, g2⟩ := hX.out
                  clear hX hk hv99 hx99 q98 r98
                  go_wp2
                  refine bodyPost_ret (v := .agg #[.int .i64 x.op, .int .i64 x.num, .slice a99 x.kids.length cap99]) (by simp [results, Tryd.results32, go_sem, y0, y1, y2]) rfl (X99.out.post V99.out T99.out (by omega))
              · skip
                go_wp2_with fail
                refine (overTree_sx HL.out HS.out f ps rs HBF.out.fn HP2.out hr03 X2.out (by repeat (first | with_reducible exact Keep.refl _ _ | with_reducible refine Keep.drew ?_ | with_reducible refine Keep.alloc ?_ _ | exact Keep.refl _ _ | fail)) (by omega)).mono ?_
                rintro e w3 ⟨xe, p3, a3, c3, rfl, hxe, hX, hk, _, hp3, hr3⟩
                have TE := Lib.hid (show HasTy l (sgs fs) ps xe rs from hxe)
                have X3 := Lib.hid hX
                have s3 := hk.size
                have B3 := Lib.hid (B2.out.call X2.out hk hbm (by omega))
                have R3 := Lib.hid (show Rep (w1.heap.size :: List.range (w.heap.size + 2)) w3 (kidsD xe.kids) (.slice a3 xe.kids.length c3) from hr3.sub (fun g hg => .inl (by simp at hg ⊢; omega)))
                obtain ⟨_, _, ⟨z0, z1, z2⟩, ⟨f0, f1, f2⟩, _⟩ := B3.out.cells
                have XS := Lib.hid (X3.out.set (j := w1.heap.size) (by omega) (.int .i64 xe.op) (.int .i64 xe.num) (.slice a3 xe.kids.length c3))
                have BS := Lib.hid (B3.out.set (by simp) R3.out)
                clear hX hk hr3 hxe q2 r2
                have hKs := BS.out.lt
                have hXz := XS.out.size
                have RE := Lib.hid (R3.out.other_set (j := w1.heap.size) (by simp) (.int .i64 xe.op) (.int .i64 xe.num) (.slice a3 xe.kids.length c3))
                by_cases hn : esz xe ≤ 30
                · have hnf : ¬ nodesF xe < 0 := by have := nodes_ok.2 hn; omega
                  go_wp2_with fail
                  refine (nodesOf_any (G := w1.heap.size :: List.range (w.heap.size + 2)) xe _ _ ⟨_, _, rfl, RE.out⟩).mono ?_
                  rintro e w98 ⟨rfl, hk98⟩
                  have X98 := Lib.hid (XS.out.keep0 hk98)
                  have B98 := Lib.hid (BS.out.keep0 hk98)
                  obtain ⟨a98, c98, ⟨z0, z1, z2⟩, _, rr⟩ := B98.out.cells
                  have R98 := Lib.hid (show Rep (List.range (w.heap.size + 2)) w98 (kidsD xe.kids) (.slice a98 xe.kids.length c98) from rr.tail)
                  obtain ⟨⟨y0, y1, y2⟩, g0, g1, g2⟩ := X98.out.out
                  have T98 := Lib.hid (show HasTy l (sgs fs) ps xe rs ∧ esz xe ≤ 30 from ⟨TE.out, hn⟩)
                  clear hk98 rr
                  go_wp2
                  refine bodyPost_ret (v := .agg #[.int .i64 xe.op, .int .i64 xe.num, .slice a98 xe.kids.length c98]) (by simp [results, Tryd.results32, go_sem, y0, y1, y2]) rfl (X98.out.post R98.out T98.out (by omega))
                · have hnf : nodesF xe < 0 := nodes_no hn
                  go_wp2_with fail
                  refine (nodesOf_any (G := w1.heap.size :: List.range (w.heap.size + 2)) xe _ _ ⟨_, _, rfl, RE.out⟩).mono ?_
                  rintro e w98 ⟨rfl, hk98⟩
                  have X98 := Lib.hid (XS.out.keep0 hk98)
                  obtain ⟨q98, r98⟩ := X98.out.cells
                  have s98 := X98.out.size
                  clear hk98
                  go_wp2_with fail
                  refine (fitting_sx HL.out HS.out _ ps rs 12 X98.out (by repeat (first | with_reducible exact Keep.refl _ _ | with_reducible refine Keep.drew ?_ | with_reducible refine Keep.alloc ?_ _ | exact Keep.refl _ _ | fail)) (X98.out.rep0 RP.out) (by omega) (by omega) (HRC.out ps) (by omega) (by omega) (by simp <;> omega) (by rw [show (12 : Int).toNat = 12 from rfl, cst12]; omega)).mono ?_
                  rintro e w99 ⟨x, p99, a99, cap99, rfl, hx99, hX, hk, _, hp99, hv99⟩
                  rw [show (12 : Int).toNat = 12 from rfl, cst12] at hp99
                  have X99 := Lib.hid hX
                  have V99 := Lib.hid (show Rep (List.range (w.heap.size + 2)) w99 (kidsD x.kids) (.slice a99 x.kids.length cap99) from hv99.sub (range_sub (by omega)))
                  have T99 := Lib.hid (show HasTy l (sgs fs) ps x rs ∧ esz x ≤ 30 from ⟨hx99.1, hx99.2 HBS.out⟩)
                  obtain ⟨⟨y0, y1, y2⟩, g0, g1, g2⟩ := hX.out
                  clear hX hk hv99 hx99 q98 r98
                  go_wp2
                  refine bodyPost_ret (v := .agg #[.int .i64 x.op, .int .i64 x.num, .slice a99 x.kids.length cap99]) (by simp [results, Tryd.results32, go_sem, y0, y1, y2]) rfl (X99.out.post V99.out T99.out (by omega))
            · have g1 : (rs == 0) = false := by simp; omega
              have g2 : (rs == 3) = false := by simp; omega
              rw [h3] at hcl2
              clear h3 g3 g30
              go_wp2_with fail
              refine (fitting_sx HL.out HS.out _ ps rs 18 X2.out (by repeat (first | with_reducible exact Keep.refl _ _ | with_reducible refine Keep.drew ?_ | with_reducible refine Keep.alloc ?_ _ | exact Keep.refl _ _ | fail)) (X2.out.rep0 RP.out) (by omega) (by omega) (HRC.out ps) (by omega) (by omega) (by simp <;> omega) (by rw [show (18 : Int).toNat = 18 from rfl, cst18]; omega)).mono ?_
              rintro e w3 ⟨xe, p3, a3, c3, rfl, hxe, hX, hk, _, hp3, hr3⟩
              rw [show (18 : Int).toNat = 18 from rfl, cst18] at hp3
              have TE := Lib.hid (show HasTy l (sgs fs) ps xe rs from hxe.1)
              have X3 := Lib.hid hX
              have s3 := hk.size
              have B3 := Lib.hid (B2.out.call X2.out hk hbm (by omega))
              have R3 := Lib.hid (show Rep (w1.heap.size :: List.range (w.heap.size + 2)) w3 (kidsD xe.kids) (.slice a3 xe.kids.length c3) from hr3.sub (fun g hg => .inl (by simp at hg ⊢; omega)))
              obtain ⟨_, _, ⟨z0, z1, z2⟩, ⟨f0, f1, f2⟩, _⟩ := B3.out.cells
              have XS := Lib.hid (X3.out.set (j := w1.heap.size) (by omega) (.int .i64 xe.op) (.int .i64 xe.num) (.slice a3 xe.kids.length c3))
              have BS := Lib.hid (B3.out.set (by simp) R3.out)
              clear hX hk hr3 hxe q2 r2
              have hKs := BS.out.lt
              have hXz := XS.out.size
              have RE := Lib.hid (R3.out.other_set (j := w1.heap.size) (by simp) (.int .i64 xe.op) (.int .i64 xe.num) (.slice a3 xe.kids.length c3))
              by_cases hn : esz xe ≤ 30
              · have hnf : ¬ nodesF xe < 0 := by have := nodes_ok.2 hn; omega
                go_wp2_with fail
                refine (nodesOf_any (G := w1.heap.size :: List.range (w.heap.size + 2)) xe _ _ ⟨_, _, rfl, RE.out⟩).mono ?_
                rintro e w98 ⟨rfl, hk98⟩
                have X98 := Lib.hid (XS.out.keep0 hk98)
                have B98 := Lib.hid (BS.out.keep0 hk98)
                obtain ⟨a98, c98, ⟨z0, z1, z2⟩, _, rr⟩ := B98.out.cells
                have R98 := Lib.hid (show Rep (List.range (w.heap.size + 2)) w98 (kidsD xe.kids) (.slice a98 xe.kids.length c98) from rr.tail)
                obtain ⟨⟨y0, y1, y2⟩, g0, g1, g2⟩ := X98.out.out
                have T98 := Lib.hid (show HasTy l (sgs fs) ps xe rs ∧ esz xe ≤ 30 from ⟨TE.out, hn⟩)
                clear hk98 rr
                go_wp2
                refine bodyPost_ret (v := .agg #[.int .i64 xe.op, .int .i64 xe.num, .slice a98 xe.kids.length c98]) (by simp [results, Tryd.results32, go_sem, y0, y1, y2]) rfl (X98.out.post R98.out T98.out (by omega))
              · have hnf : nodesF xe < 0 := nodes_no hn
                go_wp2_with fail
                refine (nodesOf_any (G := w1.heap.size :: List.range (w.heap.size + 2)) xe _ _ ⟨_, _, rfl, RE.out⟩).mono ?_
                rintro e w98 ⟨rfl, hk98⟩
                have X98 := Lib.hid (XS.out.keep0 hk98)
                obtain ⟨q98, r98⟩ := X98.out.cells
                have s98 := X98.out.size
                clear hk98
                go_wp2_with fail
                refine (fitting_sx HL.out HS.out _ ps rs 12 X98.out (by repeat (first | with_reducible exact Keep.refl _ _ | with_reducible refine Keep.drew ?_ | with_reducible refine Keep.alloc ?_ _ | exact Keep.refl _ _ | fail)) (X98.out.rep0 RP.out) (by omega) (by omega) (HRC.out ps) (by omega) (by omega) (by simp <;> omega) (by rw [show (12 : Int).toNat = 12 from rfl, cst12]; omega)).mono ?_
                rintro e w99 ⟨x, p99, a99, cap99, rfl, hx99, hX, hk, _, hp99, hv99⟩
                rw [show (12 : Int).toNat = 12 from rfl, cst12] at hp99
                have X99 := Lib.hid hX
                have V99 := Lib.hid (show Rep (List.range (w.heap.size + 2)) w99 (kidsD x.kids) (.slice a99 x.kids.length cap99) from hv99.sub (range_sub (by omega)))
                have T99 := Lib.hid (show HasTy l (sgs fs) ps x rs ∧ esz x ≤ 30 from ⟨hx99.1, hx99.2 HBS.out⟩)
                obtain ⟨⟨y0, y1, y2⟩, g0, g1, g2⟩ := hX.out
                clear hX hk hv99 hx99 q98 r98
                go_wp2
                refine bodyPost_ret (v := .agg #[.int .i64 x.op, .int .i64 x.num, .slice a99 x.kids.length cap99]) (by simp [results, Tryd.results32, go_sem, y0, y1, y2]) rfl (X99.out.post V99.out T99.out (by omega))
          · have g3 : (ps[0] == 3) = false := by simpa using h3
            by_cases h0 : ps[0] = 0
            · have HP0 := Lib.hid (show ∃ tl, ps = 0 :: tl from by
                match ps, hl0, h0 with
                | a :: tl, _, h => exact ⟨tl, by simpa using h⟩)
              rw [h0] at hcl2
              clear h3 g3 h0
              by_cases hr01b : rs = 0 ∨ rs = 1
              · have g1 : (rs == 0) = true ∨ (rs == 0) = false ∧ (rs == 1) = true := by rcases hr01b with h | h <;> subst h <;> simp
                rcases g1 with g1 | ⟨g1, g2⟩
                · skip
                  go_wp2_with fail
                  refine (downFrom_sx HL.out HS.out f ps rs HBF.out.fn HP0.out hr01b X2.out (by repeat (first | with_reducible exact Keep.refl _ _ | with_reducible refine Keep.drew ?_ | with_reducible refine Keep.alloc ?_ _ | exact Keep.refl _ _ | fail)) (by omega)).mono ?_
                  rintro e w3 ⟨xe, p3, a3, c3, rfl, hxe, hX, hk, _, hp3, hr3⟩
                  have TE := Lib.hid (show HasTy l (sgs fs) ps xe rs from hxe)
                  have X3 := Lib.hid hX
                  have s3 := hk.size
                  have B3 := Lib.hid (B2.out.call X2.out hk hbm (by omega))
                  have R3 := Lib.hid (show Rep (w1.heap.size :: List.range (w.heap.size + 2)) w3 (kidsD xe.kids) (.slice a3 xe.kids.length c3) from hr3.sub (fun g hg => .inl (by simp at hg ⊢; omega)))
                  obtain ⟨_, _, ⟨z0, z1, z2⟩, ⟨f0, f1, f2⟩, _⟩ := B3.out.cells
                  have XS := Lib.hid (X3.out.set (j := w1.heap.size) (by omega) (.int .i64 xe.op) (.int .i64 xe.num) (.slice a3 xe.kids.length c3))
                  have BS := Lib.hid (B3.out.set (by simp) R3.out)
                  clear hX hk hr3 hxe q2 r2
                  have hKs := BS.out.lt
                  have hXz := XS.out.size
                  have RE := Lib.hid (R3.out.other_set (j := w1.heap.size) (by simp) (.int .i64 xe.op) (.int .i64 xe.num) (.slice a3 xe.kids.length c3))
                  by_cases hn : esz xe ≤ 30
                  · have hnf : ¬ nodesF xe < 0 := by have := nodes_ok.2 hn; omega
                    go_wp2_with fail
                    refine (nodesOf_any (G := w1.heap.size :: List.range (w.heap.size + 2)) xe _ _ ⟨_, _, rfl, RE.out⟩).mono ?_
                    rintro e w98 ⟨rfl, hk98⟩
                    have X98 := Lib.hid (XS.out.keep0 hk98)
                    have B98 := Lib.hid (BS.out.keep0 hk98)
                    obtain ⟨a98, c98, ⟨z0, z1, z2⟩, _, rr⟩ := B98.out.cells
                    have R98 := Lib.hid (show Rep (List.range (w.heap.size + 2)) w98 (kidsD xe.kids) (.slice a98 xe.kids.length c98) from rr.tail)
                    obtain ⟨⟨y0, y1, y2⟩, g0, g1, g2⟩ := X98.out.out
                    have T98 := Lib.hid (show HasTy l (sgs fs) ps xe rs ∧ esz xe ≤ 30 from ⟨TE.out, hn⟩)
                    clear hk98 rr
                    go_wp2
                    refine bodyPost_ret (v := .agg #[.int .i64 xe.op, .int .i64 xe.num, .slice a98 xe.kids.length c98]) (by simp [results, Tryd.results32, go_sem, y0, y1, y2]) rfl (X98.out.post R98.out T98.out (by omega))
                  · have hnf : nodesF xe < 0 := nodes_no hn
                    go_wp2_with fail
                    refine (nodesOf_any (G := w1.heap.size :: List.range (w.heap.size + 2)) xe _ _ ⟨_, _, rfl, RE.out⟩).mono ?_
                    rintro e w98 ⟨rfl, hk98⟩
                    have X98 := Lib.hid (XS.out.keep0 hk98)
                    obtain ⟨q98, r98⟩ := X98.out.cells
                    have s98 := X98.out.size
                    clear hk98
                    go_wp2_with fail
                    refine (fitting_sx HL.out HS.out _ ps rs 12 X98.out (by repeat (first | with_reducible exact Keep.refl _ _ | with_reducible refine Keep.drew ?_ | with_reducible refine Keep.alloc ?_ _ | exact Keep.refl _ _ | fail)) (X98.out.rep0 RP.out) (by omega) (by omega) (HRC.out ps) (by omega) (by omega) (by simp <;> omega) (by rw [show (12 : Int).toNat = 12 from rfl, cst12]; omega)).mono ?_
                    rintro e w99 ⟨x, p99, a99, cap99, rfl, hx99, hX, hk, _, hp99, hv99⟩
                    rw [show (12 : Int).toNat = 12 from rfl, cst12] at hp99
                    have X99 := Lib.hid hX
                    have V99 := Lib.hid (show Rep (List.range (w.heap.size + 2)) w99 (kidsD x.kids) (.slice a99 x.kids.length cap99) from hv99.sub (range_sub (by omega)))
                    have T99 := Lib.hid (show HasTy l (sgs fs) ps x rs ∧ esz x ≤ 30 from ⟨hx99.1, hx99.2 HBS.out⟩)
                    obtain ⟨⟨y0, y1, y2⟩, g0, g1, g2⟩ := hX.out
                    clear hX hk hv99 hx99 q98 r98
                    go_wp2
                    refine bodyPost_ret (v := .agg #[.int .i64 x.op, .int .i64 x.num, .slice a99 x.kids.length cap99]) (by simp [results, Tryd.results32, go_sem, y0, y1, y2]) rfl (X99.out.post V99.out T99.out (by omega))
                · skip
                  go_wp2_with fail
                  refine (downFrom_sx HL.out HS.out f ps rs HBF.out.fn HP0.out hr01b X2.out (by repeat (first | with_reducible exact Keep.refl _ _ | with_reducible refine Keep.drew ?_ | with_reducible refine Keep.alloc ?_ _ | exact Keep.refl _ _ | fail)) (by omega)).mono ?_
                  rintro e w3 ⟨xe, p3, a3, c3, rfl, hxe, hX, hk, _, hp3, hr3⟩
                  have TE := Lib.hid (show HasTy l (sgs fs) ps xe rs from hxe)
                  have X3 := Lib.hid hX
                  have s3 := hk.size
                  have B3 := Lib.hid (B2.out.call X2.out hk hbm (by omega))
                  have R3 := Lib.hid (show Rep (w1.heap.size :: List.range (w.heap.size + 2)) w3 (kidsD xe.kids) (.slice a3 xe.kids.length c3) from hr3.sub (fun g hg => .inl (by simp at hg ⊢; omega)))
                  obtain ⟨_, _, ⟨z0, z1, z2⟩, ⟨f0, f1, f2⟩, _⟩ := B3.out.cells
                  have XS := Lib.hid (X3.out.set (j := w1.heap.size) (by omega) (.int .i64 xe.op) (.int .i64 xe.num) (.slice a3 xe.kids.length c3))
                  have BS := Lib.hid (B3.out.set (by simp) R3.out)
                  clear hX hk hr3 hxe q2 r2
                  have hKs := BS.out.lt
                  have hXz := XS.out.size
                  have RE := Lib.hid (R3.out.other_set (j := w1.heap.size) (by simp) (.int .i64 xe.op) (.int .i64 xe.num) (.slice a3 xe.kids.length c3))
                  by_cases hn : esz xe ≤ 30
                  · have hnf : ¬ nodesF xe < 0 := by have := nodes_ok.2 hn; omega
                    go_wp2_with fail
                    refine (nodesOf_any (G := w1.heap.size :: List.range (w.heap.size + 2)) xe _ _ ⟨_, _, rfl, RE.out⟩).mono ?_
                    rintro e w98 ⟨rfl, hk98⟩
                    have X98 := Lib.hid (XS.out.keep0 hk98)
                    have B98 := Lib.hid (BS.out.keep0 hk98)
                    obtain ⟨a98, c98, ⟨z0, z1, z2⟩, _, rr⟩ := B98.out.cells
                    have R98 := Lib.hid (show Rep (List.range (w.heap.size + 2)) w98 (kidsD xe.kids) (.slice a98 xe.kids.length c98) from rr.tail)
                    obtain ⟨⟨y0, y1, y2⟩, g0, g1, g2⟩ := X98.out.out
                    have T98 := Lib.hid (show HasTy l (sgs fs) ps xe rs ∧ esz xe ≤ 30 from ⟨TE.out, hn⟩)
                    clear hk98 rr
                    go_wp2
                    refine bodyPost_ret (v := .agg #[.int .i64 xe.op, .int .i64 xe.num, .slice a98 xe.kids.length c98]) (by simp [results, Tryd.results32, go_sem, y0, y1, y2]) rfl (X98.out.post R98.out T98.out (by omega))
                  · have hnf : nodesF xe < 0 := nodes_no hn
                    go_wp2_with fail
                    refine (nodesOf_any (G := w1.heap.size :: List.range (w.heap.size + 2)) xe _ _ ⟨_, _, rfl, RE.out⟩).mono ?_
                    rintro e w98 ⟨rfl, hk98⟩
                    have X98 := Lib.hid (XS.out.keep0 hk98)
                    obtain ⟨q98, r98⟩ := X98.out.cells
                    have s98 := X98.out.size
                    clear hk98
                    go_wp2_with fail
                    refine (fitting_sx HL.out HS.out _ ps rs 12 X98.out (by repeat (first | with_reducible exact Keep.refl _ _ | with_reducible refine Keep.drew ?_ | with_reducible refine Keep.alloc ?_ _ | exact Keep.refl _ _ | fail)) (X98.out.rep0 RP.out) (by omega) (by omega) (HRC.out ps) (by omega) (by omega) (by simp <;> omega) (by rw [show (12 : Int).toNat = 12 from rfl, cst12]; omega)).mono ?_
                    rintro e w99 ⟨x, p99, a99, cap99, rfl, hx99, hX, hk, _, hp99, hv99⟩
                    rw [show (12 : Int).toNat = 12 from rfl, cst12] at hp99
                    have X99 := Lib.hid hX
                    have V99 := Lib.hid (show Rep (List.range (w.heap.size + 2)) w99 (kidsD x.kids) (.slice a99 x.kids.length cap99) from hv99.sub (range_sub (by omega)))
                    have T99 := Lib.hid (show HasTy l (sgs fs) ps x rs ∧ esz x ≤ 30 from ⟨hx99.1, hx99.2 HBS.out⟩)
                    obtain ⟨⟨y0, y1, y2⟩, g0, g1, g2⟩ := hX.out
                    clear hX hk hv99 hx99 q98 r98
                    go_wp2
                    refine bodyPost_ret (v := .agg #[.int .i64 x.op, .int .i64 x.num, .slice a99 x.kids.length cap99]) (by simp [results, Tryd.results32, go_sem, y0, y1, y2]) rfl (X99.out.post V99.out T99.out (by omega))
              · have g1 : (rs == 0) = false := by simp; omega
                have g2 : (rs == 1) = false := by simp; omega
                go_wp2_with fail
                refine (fitting_sx HL.out HS.out _ ps rs 18 X2.out (by repeat (first | with_reducible exact Keep.refl _ _ | with_reducible refine Keep.drew ?_ | with_reducible refine Keep.alloc ?_ _ | exact Keep.refl _ _ | fail)) (X2.out.rep0 RP.out) (by omega) (by omega) (HRC.out ps) (by omega) (by omega) (by simp <;> omega) (by rw [show (18 : Int).toNat = 18 from rfl, cst18]; omega)).mono ?_
                rintro e w3 ⟨xe, p3, a3, c3, rfl, hxe, hX, hk, _, hp3, hr3⟩
                rw [show (18 : Int).toNat = 18 from rfl, cst18] at hp3
                have TE := Lib.hid (show HasTy l (sgs fs) ps xe rs from hxe.1)
                have X3 := Lib.hid hX
                have s3 := hk.size
                have B3 := Lib.hid (B2.out.call X2.out hk hbm (by omega))
                have R3 := Lib.hid (show Rep (w1.heap.size :: List.range (w.heap.size + 2)) w3 (kidsD xe.kids) (.slice a3 xe.kids.length c3) from hr3.sub (fun g hg => .inl (by simp at hg ⊢; omega)))
                obtain ⟨_, _, ⟨z0, z1, z2⟩, ⟨f0, f1, f2⟩, _⟩ := B3.out.cells
                have XS := Lib.hid (X3.out.set (j := w1.heap.size) (by omega) (.int .i64 xe.op) (.int .i64 xe.num) (.slice a3 xe.kids.length c3))
                have BS := Lib.hid (B3.out.set (by simp) R3.out)
                clear hX hk hr3 hxe q2 r2
                have hKs := BS.out.lt
                have hXz := XS.out.size
                have RE := Lib.hid (R3.out.other_set (j := w1.heap.size) (by simp) (.int .i64 xe.op) (.int .i64 xe.num) (.slice a3 xe.kids.length c3))
                by_cases hn : esz xe ≤ 30
                · have hnf : ¬ nodesF xe < 0 := by have := nodes_ok.2 hn; omega
                  go_wp2_with fail
                  refine (nodesOf_any (G := w1.heap.size :: List.range (w.heap.size + 2)) xe _ _ ⟨_, _, rfl, RE.out⟩).mono ?_
                  rintro e w98 ⟨rfl, hk98⟩
                  have X98 := Lib.hid (XS.out.keep0 hk98)
                  have B98 := Lib.hid (BS.out.keep0 hk98)
                  obtain ⟨a98, c98, ⟨z0, z1, z2⟩, _, rr⟩ := B98.out.cells
                  have R98 := Lib.hid (show Rep (List.range (w.heap.size + 2)) w98 (kidsD xe.kids) (.slice a98 xe.kids.length c98) from rr.tail)
                  obtain ⟨⟨y0, y1, y2⟩, g0, g1, g2⟩ := X98.out.out
                  have T98 := Lib.hid (show HasTy l (sgs fs) ps xe rs ∧ esz xe ≤ 30 from ⟨TE.out, hn⟩)
                  clear hk98 rr
                  go_wp2
                  refine bodyPost_ret (v := .agg #[.int .i64 xe.op, .int .i64 xe.num, .slice a98 xe.kids.length c98]) (by simp [results, Tryd.results32, go_sem, y0, y1, y2]) rfl (X98.out.post R98.out T98.out (by omega))
                · have hnf : nodesF xe < 0 := nodes_no hn
                  go_wp2_with fail
                  refine (nodesOf_any (G := w1.heap.size :: List.range (w.heap.size + 2)) xe _ _ ⟨_, _, rfl, RE.out⟩).mono ?_
                  rintro e w98 ⟨rfl, hk98⟩
                  have X98 := Lib.hid (XS.out.keep0 hk98)
                  obtain ⟨q98, r98⟩ := X98.out.cells
                  have s98 := X98.out.size
                  clear hk98
                  go_wp2_with fail
                  refine (fitting_sx HL.out HS.out _ ps rs 12 X98.out (by repeat (first | with_reducible exact Keep.refl _ _ | with_reducible refine Keep.drew ?_ | with_reducible refine Keep.alloc ?_ _ | exact Keep.refl _ _ | fail)) (X98.out.rep0 RP.out) (by omega) (by omega) (HRC.out ps) (by omega) (by omega) (by simp <;> omega) (by rw [show (12 : Int).toNat = 12 from rfl, cst12]; omega)).mono ?_
                  rintro e w99 ⟨x, p99, a99, cap99, rfl, hx99, hX, hk, _, hp99, hv99⟩
                  rw [show (12 : Int).toNat = 12 from rfl, cst12] at hp99
                  have X99 := Lib.hid hX
                  have V99 := Lib.hid (show Rep (List.range (w.heap.size + 2)) w99 (kidsD x.kids) (.slice a99 x.kids.length cap99) from hv99.sub (range_sub (by omega)))
                  have T99 := Lib.hid (show HasTy l (sgs fs) ps x rs ∧ esz x ≤ 30 from ⟨hx99.1, hx99.2 HBS.out⟩)
                  obtain ⟨⟨y0, y1, y2⟩, g0, g1, g2⟩ := hX.out
                  clear hX hk hv99 hx99 q98 r98
                  go_wp2
                  refine bodyPost_ret (v := .agg #[.int .i64 x.op, .int .i64 x.num, .slice a99 x.kids.length cap99]) (by simp [results, Tryd.results32, go_sem, y0, y1, y2]) rfl (X99.out.post V99.out T99.out (by omega))
            · have g4 : (ps[0] == 0) = false := by simpa using h0
              go_wp2_with fail
              refine (fitting_sx HL.out HS.out _ ps rs 18 X2.out (by repeat (first | with_reducible exact Keep.refl _ _ | with_reducible refine Keep.drew ?_ | with_reducible refine Keep.alloc ?_ _ | exact Keep.refl _ _ | fail)) (X2.out.rep0 RP.out) (by omega) (by omega) (HRC.out ps) (by omega) (by omega) (by simp <;> omega) (by rw [show (18 : Int).toNat = 18 from rfl, cst18]; omega)).mono ?_
              rintro e w3 ⟨xe, p3, a3, c3, rfl, hxe, hX, hk, _, hp3, hr3⟩
              rw [show (18 : Int).toNat = 18 from rfl, cst18] at hp3
              have TE := Lib.hid (show HasTy l (sgs fs) ps xe rs from hxe.1)
              have X3 := Lib.hid hX
              have s3 := hk.size
              have B3 := Lib.hid (B2.out.call X2.out hk hbm (by omega))
              have R3 := Lib.hid (show Rep (w1.heap.size :: List.range (w.heap.size + 2)) w3 (kidsD xe.kids) (.slice a3 xe.kids.length c3) from hr3.sub (fun g hg => .inl (by simp at hg ⊢; omega)))
              obtain ⟨_, _, ⟨z0, z1, z2⟩, ⟨f0, f1, f2⟩, _⟩ := B3.out.cells
              have XS := Lib.hid (X3.out.set (j := w1.heap.size) (by omega) (.int .i64 xe.op) (.int .i64 xe.num) (.slice a3 xe.kids.length c3))
              have BS := Lib.hid (B3.out.set (by simp) R3.out)
              clear hX hk hr3 hxe q2 r2
              have hKs := BS.out.lt
              have hXz := XS.out.size
              have RE := Lib.hid (R3.out.other_set (j := w1.heap.size) (by simp) (.int .i64 xe.op) (.int .i64 xe.num) (.slice a3 xe.kids.length c3))
              by_cases hn : esz xe ≤ 30
              · have hnf : ¬ nodesF xe < 0 := by have := nodes_ok.2 hn; omega
                go_wp2_with fail
                refine (nodesOf_any (G := w1.heap.size :: List.range (w.heap.size + 2)) xe _ _ ⟨_, _, rfl, RE.out⟩).mono ?_
                rintro e w98 ⟨rfl, hk98⟩
                have X98 := Lib.hid (XS.out.keep0 hk98)
                have B98 := Lib.hid (BS.out.keep0 hk98)
                obtain ⟨a98, c98, ⟨z0, z1, z2⟩, _, rr⟩ := B98.out.cells
                have R98 := Lib.hid (show Rep (List.range (w.heap.size + 2)) w98 (kidsD xe.kids) (.slice a98 xe.kids.length c98) from rr.tail)
                obtain ⟨⟨y0, y1, y2⟩, g0, g1, g2⟩ := X98.out.out
                have T98 := Lib.hid (show HasTy l (sgs fs) ps xe rs ∧ esz xe ≤ 30 from ⟨TE.out, hn⟩)
                clear hk98 rr
                go_wp2
                refine bodyPost_ret (v := .agg #[.int .i64 xe.op, .int .i64 xe.num, .slice a98 xe.kids.length c98]) (by simp [results, Tryd.results32, go_sem, y0, y1, y2]) rfl (X98.out.post R98.out T98.out (by omega))
              · have hnf : nodesF xe < 0 := nodes_no hn
                go_wp2_with fail
                refine (nodesOf_any (G := w1.heap.size :: List.range (w.heap.size + 2)) xe _ _ ⟨_, _, rfl, RE.out⟩).mono ?_
                rintro e w98 ⟨rfl, hk98⟩
                have X98 := Lib.hid (XS.out.keep0 hk98)
                obtain ⟨q98, r98⟩ := X98.out.cells
                have s98 := X98.out.size
                clear hk98
                go_wp2_with fail
                refine (fitting_sx HL.out HS.out _ ps rs 12 X98.out (by repeat (first | with_reducible exact Keep.refl _ _ | with_reducible refine Keep.drew ?_ | with_reducible refine Keep.alloc ?_ _ | exact Keep.refl _ _ | fail)) (X98.out.rep0 RP.out) (by omega) (by omega) (HRC.out ps) (by omega) (by omega) (by simp <;> omega) (by rw [show (12 : Int).toNat = 12 from rfl, cst12]; omega)).mono ?_
                rintro e w99 ⟨x, p99, a99, cap99, rfl, hx99, hX, hk, _, hp99, hv99⟩
                rw [show (12 : Int).toNat = 12 from rfl, cst12] at hp99
                have X99 := Lib.hid hX
                have V99 := Lib.hid (show Rep (List.range (w.heap.size + 2)) w99 (kidsD x.kids) (.slice a99 x.kids.length cap99) from hv99.sub (range_sub (by omega)))
                have T99 := Lib.hid (show HasTy l (sgs fs) ps x rs ∧ esz x ≤ 30 from ⟨hx99.1, hx99.2 HBS.out⟩)
                obtain ⟨⟨y0, y1, y2⟩, g0, g1, g2⟩ := hX.out
                clear hX hk hv99 hx99 q98 r98
                go_wp2
                refine bodyPost_ret (v := .agg #[.int .i64 x.op, .int .i64 x.num, .slice a99 x.kids.length cap99]) (by simp [results, Tryd.results32, go_sem, y0, y1, y2]) rfl (X99.out.post V99.out T99.out (by omega))
      · subst ha
        have ga : decide ((0 : Int) ≤ (a : Int)) = true := by simp
        by_cases hr01 : rs = 0 ∨ rs = 1
        · have g1 : (rs == 0) = true ∨ (rs == 0) = false ∧ (rs == 1) = true := by rcases hr01 with h | h <;> subst h <;> simp
          rcases g1 with g1 | ⟨g1, g2⟩
          · skip
            go_wp2_with fail
            refine (overList_sx HL.out HS.out f a ps rs HBF.out.fn ha1 hr01 X2.out (by repeat (first | with_reducible exact Keep.refl _ _ | with_reducible refine Keep.drew ?_ | with_reducible refine Keep.alloc ?_ _ | exact Keep.refl _ _ | fail)) (by omega)).mono ?_
            rintro e w3 ⟨xe, p3, a3, c3, rfl, hxe, hX, hk, _, hp3, hr3⟩
            have TE := Lib.hid (show HasTy l (sgs fs) ps xe rs from hxe)
            have X3 := Lib.hid hX
            have s3 := hk.size
            have B3 := Lib.hid (B2.out.call X2.out hk hbm (by omega))
            have R3 := Lib.hid (show Rep (w1.heap.size :: List.range (w.heap.size + 2)) w3 (kidsD xe.kids) (.slice a3 xe.kids.length c3) from hr3.sub (fun g hg => .inl (by simp at hg ⊢; omega)))
            obtain ⟨_, _, ⟨z0, z1, z2⟩, ⟨f0, f1, f2⟩, _⟩ := B3.out.cells
            have XS := Lib.hid (X3.out.set (j := w1.heap.size) (by omega) (.int .i64 xe.op) (.int .i64 xe.num) (.slice a3 xe.kids.length c3))
            have BS := Lib.hid (B3.out.set (by simp) R3.out)
            clear hX hk hr3 hxe q2 r2
            have hKs := BS.out.lt
            have hXz := XS.out.size
            have RE := Lib.hid (R3.out.other_set (j := w1.heap.size) (by simp) (.int .i64 xe.op) (.int .i64 xe.num) (.slice a3 xe.kids.length c3))
            by_cases hn : esz xe ≤ 30
            · have hnf : ¬ nodesF xe < 0 := by have := nodes_ok.2 hn; omega
              go_wp2_with fail
              refine (nodesOf_any (G := w1.heap.size :: List.range (w.heap.size + 2)) xe _ _ ⟨_, _, rfl, RE.out⟩).mono ?_
              rintro e w98 ⟨rfl, hk98⟩
              have X98 := Lib.hid (XS.out.keep0 hk98)
              have B98 := Lib.hid (BS.out.keep0 hk98)
              obtain ⟨a98, c98, ⟨z0, z1, z2⟩, _, rr⟩ := B98.out.cells
              have R98 := Lib.hid (show Rep (List.range (w.heap.size + 2)) w98 (kidsD xe.kids) (.slice a98 xe.kids.length c98) from rr.tail)
              obtain ⟨⟨y0, y1, y2⟩, g0, g1, g2⟩ := X98.out.out
              have T98 := Lib.hid (show HasTy l (sgs fs) ps xe rs ∧ esz xe ≤ 30 from ⟨TE.out, hn⟩)
              clear hk98 rr
              go_wp2
              refine bodyPost_ret (v := .agg #[.int .i64 xe.op, .int .i64 xe.num, .slice a98 xe.kids.length c98]) (by simp [results, Tryd.results32, go_sem, y0, y1, y2]) rfl (X98.out.post R98.out T98.out (by omega))
            · have hnf : nodesF xe < 0 := nodes_no hn
              go_wp2_with fail
              refine (nodesOf_any (G := w1.heap.size :: List.range (w.heap.size + 2)) xe _ _ ⟨_, _, rfl, RE.out⟩).mono ?_
              rintro e w98 ⟨rfl, hk98⟩
              have X98 := Lib.hid (XS.out.keep0 hk98)
              obtain ⟨q98, r98⟩ := X98.out.cells
              have s98 := X98.out.size
              clear hk98
              go_wp2_with fail
              refine (fitting_sx HL.out HS.out _ ps rs 12 X98.out (by repeat (first | with_reducible exact Keep.refl _ _ | with_reducible refine Keep.drew ?_ | with_reducible refine Keep.alloc ?_ _ | exact Keep.refl _ _ | fail)) (X98.out.rep0 RP.out) (by omega) (by omega) (HRC.out ps) (by omega) (by omega) (by simp <;> omega) (by rw [show (12 : Int).toNat = 12 from rfl, cst12]; omega)).mono ?_
              rintro e w99 ⟨x, p99, a99, cap99, rfl, hx99, hX, hk, _, hp99, hv99⟩
              rw [show (12 : Int).toNat = 12 from rfl, cst12] at hp99
              have X99 := Lib.hid hX
              have V99 := Lib.hid (show Rep (List.range (w.heap.size + 2)) w99 (kidsD x.kids) (.slice a99 x.kids.length cap99) from hv99.sub (range_sub (by omega)))
              have T99 := Lib.hid (show HasTy l (sgs fs) ps x rs ∧ esz x ≤ 30 from ⟨hx99.1, hx99.2 HBS.out⟩)
              obtain ⟨⟨y0, y1, y2⟩, g0, g1, g2⟩ := hX.out
              clear hX hk hv99 hx99 q98 r98
              go_wp2
              refine bodyPost_ret (v := .agg #[.int .i64 x.op, .int .i64 x.num, .slice a99 x.kids.length cap99]) (by simp [results, Tryd.results32, go_sem, y0, y1, y2]) rfl (X99.out.post V99.out T99.out (by omega))
          · skip
            go_wp2_with fail
            refine (overList_sx HL.out HS.out f a ps rs HBF.out.fn ha1 hr01 X2.out (by repeat (first | with_reducible exact Keep.refl _ _ | with_reducible refine Keep.drew ?_ | with_reducible refine Keep.alloc ?_ _ | exact Keep.refl _ _ | fail)) (by omega)).mono ?_
            rintro e w3 ⟨xe, p3, a3, c3, rfl, hxe, hX, hk, _, hp3, hr3⟩
            have TE := Lib.hid (show HasTy l (sgs fs) ps xe rs from hxe)
            have X3 := Lib.hid hX
            have s3 := hk.size
            have B3 := Lib.hid (B2.out.call X2.out hk hbm (by omega))
            have R3 := Lib.hid (show Rep (w1.heap.size :: List.range (w.heap.size + 2)) w3 (kidsD xe.kids) (.slice a3 xe.kids.length c3) from hr3.sub (fun g hg => .inl (by simp at hg ⊢; omega)))
            obtain ⟨_, _, ⟨z0, z1, z2⟩, ⟨f0, f1, f2⟩, _⟩ := B3.out.cells
            have XS := Lib.hid (X3.out.set (j := w1.heap.size) (by omega) (.int .i64 xe.op) (.int .i64 xe.num) (.slice a3 xe.kids.length c3))
            have BS := Lib.hid (B3.out.set (by simp) R3.out)
            clear hX hk hr3 hxe q2 r2
            have hKs := BS.out.lt
            have hXz := XS.out.size
            have RE := Lib.hid (R3.out.other_set (j := w1.heap.size) (by simp) (.int .i64 xe.op) (.int .i64 xe.num) (.slice a3 xe.kids.length c3))
            by_cases hn : esz xe ≤ 30
            · have hnf : ¬ nodesF xe < 0 := by have := nodes_ok.2 hn; omega
              go_wp2_with fail
              refine (nodesOf_any (G := w1.heap.size :: List.range (w.heap.size + 2)) xe _ _ ⟨_, _, rfl, RE.out⟩).mono ?_
              rintro e w98 ⟨rfl, hk98⟩
              have X98 := Lib.hid (XS.out.keep0 hk98)
              have B98 := Lib.hid (BS.out.keep0 hk98)
              obtain ⟨a98, c98, ⟨z0, z1, z2⟩, _, rr⟩ := B98.out.cells
              have R98 := Lib.hid (show Rep (List.range (w.heap.size + 2)) w98 (kidsD xe.kids) (.slice a98 xe.kids.length c98) from rr.tail)
              obtain ⟨⟨y0, y1, y2⟩, g0, g1, g2⟩ := X98.out.out
              have T98 := Lib.hid (show HasTy l (sgs fs) ps xe rs ∧ esz xe ≤ 30 from ⟨TE.out, hn⟩)
              clear hk98 rr
              go_wp2
              refine bodyPost_ret (v := .agg #[.int .i64 xe.op, .int .i64 xe.num, .slice a98 xe.kids.length c98]) (by simp [results, Tryd.results32, go_sem, y0, y1, y2]) rfl (X98.out.post R98.out T98.out (by omega))
            · have hnf : nodesF xe < 0 := nodes_no hn
              go_wp2_with fail
              refine (nodesOf_any (G := w1.heap.size :: List.range (w.heap.size + 2)) xe _ _ ⟨_, _, rfl, RE.out⟩).mono ?_
              rintro e w98 ⟨rfl, hk98⟩
              have X98 := Lib.hid (XS.out.keep0 hk98)
              obtain ⟨q98, r98⟩ := X98.out.cells
              have s98 := X98.out.size
              clear hk98
              go_wp2_with fail
              refine (fitting_sx HL.out HS.out _ ps rs 12 X98.out (by repeat (first | with_reducible exact Keep.refl _ _ | with_reducible refine Keep.drew ?_ | with_reducible refine Keep.alloc ?_ _ | exact Keep.refl _ _ | fail)) (X98.out.rep0 RP.out) (by omega) (by omega) (HRC.out ps) (by omega) (by omega) (by simp <;> omega) (by rw [show (12 : Int).toNat = 12 from rfl, cst12]; omega)).mono ?_
              rintro e w99 ⟨x, p99, a99, cap99, rfl, hx99, hX, hk, _, hp99, hv99⟩
              rw [show (12 : Int).toNat = 12 from rfl, cst12] at hp99
              have X99 := Lib.hid hX
              have V99 := Lib.hid (show Rep (List.range (w.heap.size + 2)) w99 (kidsD x.kids) (.slice a99 x.kids.length cap99) from hv99.sub (range_sub (by omega)))
              have T99 := Lib.hid (show HasTy l (sgs fs) ps x rs ∧ esz x ≤ 30 from ⟨hx99.1, hx99.2 HBS.out⟩)
              obtain ⟨⟨y0, y1, y2⟩, g0, g1, g2⟩ := hX.out
              clear hX hk hv99 hx99 q98 r98
              go_wp2
              refine bodyPost_ret (v := .agg #[.int .i64 x.op, .int .i64 x.num, .slice a99 x.kids.length cap99]) (by simp [results, Tryd.results32, go_sem, y0, y1, y2]) rfl (X99.out.post V99.out T99.out (by omega))
        · have g1 : (rs == 0) = false := by simp; omega
          have g2 : (rs == 1) = false := by simp; omega
          exact absurd ha1 (HBF.out.flat (by omega) a)
  · have g0 : decide (k < 3) = false := by simpa using hk3
    go_wp2_with fail
    refine (fitting_sx HL.out HS.out _ ps rs 18 X2.out (by repeat (first | with_reducible exact Keep.refl _ _ | with_reducible refine Keep.drew ?_ | with_reducible refine Keep.alloc ?_ _ | exact Keep.refl _ _ | fail)) (X2.out.rep0 RP.out) (by omega) (by omega) (HRC.out ps) (by omega) (by omega) (by simp <;> omega) (by rw [show (18 : Int).toNat = 18 from rfl, cst18]; omega)).mono ?_
    rintro e w3 ⟨xe, p3, a3, c3, rfl, hxe, hX, hk, _, hp3, hr3⟩
    rw [show (18 : Int).toNat = 18 from rfl, cst18] at hp3
    have TE := Lib.hid (show HasTy l (sgs fs) ps xe rs from hxe.1)
    have X3 := Lib.hid hX
    have s3 := hk.size
    have B3 := Lib.hid (B2.out.call X2.out hk hbm (by omega))
    have R3 := Lib.hid (show Rep (w1.heap.size :: List.range (w.heap.size + 2)) w3 (kidsD xe.kids) (.slice a3 xe.kids.length c3) from hr3.sub (fun g hg => .inl (by simp at hg ⊢; omega)))
    obtain ⟨_, _, ⟨z0, z1, z2⟩, ⟨f0, f1, f2⟩, _⟩ := B3.out.cells
    have XS := Lib.hid (X3.out.set (j := w1.heap.size) (by omega) (.int .i64 xe.op) (.int .i64 xe.num) (.slice a3 xe.kids.length c3))
    have BS := Lib.hid (B3.out.set (by simp) R3.out)
    clear hX hk hr3 hxe q2 r2
    have hKs := BS.out.lt
    have hXz := XS.out.size
    have RE := Lib.hid (R3.out.other_set (j := w1.heap.size) (by simp) (.int .i64 xe.op) (.int .i64 xe.num) (.slice a3 xe.kids.length c3))
    by_cases hn : esz xe ≤ 30
    · have hnf : ¬ nodesF xe < 0 := by have := nodes_ok.2 hn; omega
      go_wp2_with fail
      refine (nodesOf_any (G := w1.heap.size :: List.range (w.heap.size + 2)) xe _ _ ⟨_, _, rfl, RE.out⟩).mono ?_
      rintro e w98 ⟨rfl, hk98⟩
      have X98 := Lib.hid (XS.out.keep0 hk98)
      have B98 := Lib.hid (BS.out.keep0 hk98)
      obtain ⟨a98, c98, ⟨z0, z1, z2⟩, _, rr⟩ := B98.out.cells
      have R98 := Lib.hid (show Rep (List.range (w.heap.size + 2)) w98 (kidsD xe.kids) (.slice a98 xe.kids.length c98) from rr.tail)
      obtain ⟨⟨y0, y1, y2⟩, g0, g1, g2⟩ := X98.out.out
      have T98 := Lib.hid (show HasTy l (sgs fs) ps xe rs ∧ esz xe ≤ 30 from ⟨TE.out, hn⟩)
      clear hk98 rr
      go_wp2
      refine bodyPost_ret (v := .agg #[.int .i64 xe.op, .int .i64 xe.num, .slice a98 xe.kids.length c98]) (by simp [results, Tryd.results32, go_sem, y0, y1, y2]) rfl (X98.out.post R98.out T98.out (by omega))
    · have hnf : nodesF xe < 0 := nodes_no hn
      go_wp2_with fail
      refine (nodesOf_any (G := w1.heap.size :: List.range (w.heap.size + 2)) xe _ _ ⟨_, _, rfl, RE.out⟩).mono ?_
      rintro e w98 ⟨rfl, hk98⟩
      have X98 := Lib.hid (XS.out.keep0 hk98)
      obtain ⟨q98, r98⟩ := X98.out.cells
      have s98 := X98.out.size
      clear hk98
      go_wp2_with fail
      refine (fitting_sx HL.out HS.out _ ps rs 12 X98.out (by repeat (first | with_reducible exact Keep.refl _ _ | with_reducible refine Keep.drew ?_ | with_reducible refine Keep.alloc ?_ _ | exact Keep.refl _ _ | fail)) (X98.out.rep0 RP.out) (by omega) (by omega) (HRC.out ps) (by omega) (by omega) (by simp <;> omega) (by rw [show (12 : Int).toNat = 12 from rfl, cst12]; omega)).mono ?_
      rintro e w99 ⟨x, p99, a99, cap99, rfl, hx99, hX, hk, _, hp99, hv99⟩
      rw [show (12 : Int).toNat = 12 from rfl, cst12] at hp99
      have X99 := Lib.hid hX
      have V99 := Lib.hid (show Rep (List.range (w.heap.size + 2)) w99 (kidsD x.kids) (.slice a99 x.kids.length cap99) from hv99.sub (range_sub (by omega)))
      have T99 := Lib.hid (show HasTy l (sgs fs) ps x rs ∧ esz x ≤ 30 from ⟨hx99.1, hx99.2 HBS.out⟩)
      obtain ⟨⟨y0, y1, y2⟩, g0, g1, g2⟩ := hX.out
      clear hX hk hv99 hx99 q98 r98
      go_wp2
      refine bodyPost_ret (v := .agg #[.int .i64 x.op, .int .i64 x.num, .slice a99 x.kids.length cap99]) (by simp [results, Tryd.results32, go_sem, y0, y1, y2]) rfl (X99.out.post V99.out T99.out (by omega))

end Go.Proofs.YtnjincgemmgllaaDoor
