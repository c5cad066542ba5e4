/- The walk of the evaluation's operate, under the contract of eval. -/
import Derived.Test.YtnjincgemmgllaaDoorEvC
namespace Go.Proofs.YtnjincgemmgllaaDoor
open Go.RowKit
attribute [local go_sem ↓] Go.wp_at_zero Go.wp_at_succ

/- what operate finds -/
def OpC (op num : Int) (vs : List V) (l : List Dc) (fs : List Fn) (t : Int) (kk N : Nat) : Prop := ∀ (be Bd : Nat) (dv fv : Value) (G : List Nat) (w : World) (most c : Nat) (o : Value) (os : List Int), Ep be Bd l fs dv fv G w most c o os →
  ∀ (xk vv : Value), Rep (be :: (ob o ++ G)) w (valsD vs) vv → os.length + 1 + 31 * (most - c) ≤ 100000 → 31 * (most - c) ≤ N →
    Calls Tryd.prog 49 #[.pointer (some ⟨be, 0, none⟩), .agg #[dv, fv], .agg #[.int .i64 op, .int .i64 num, xk], vv] w (EvK l fs be Bd G most c os kk t o w)
section
variable {be Bd : Nat} {o o' o'' : Value} {w w' w'' : World} {most c : Nat} {sp : Bool} {os os' : List Int} {G : List Nat} {d : D} {v : Value}
theorem Ev.put (h : Ev be Bd w most c sp o os) (hk : Keep (ob o) w w') (how : Own [be] Bd w' 3 1 o' (intsE os')) (u : Value) (hu : u = o') : Ev be Bd (w'.setCell ⟨be, 3, none⟩ u) most c sp o' os' := by
  have h1 := h.blt
  have h2 : be ∉ ob o := fun hm => by have := (h.olt be hm).1; have := h.lt; omega
  subst hu
  refine ⟨?_, ?_, h.lt, ?_⟩
  · have := (hk.block be h1 h2).trans h.blk
    exact (setCell_blk this).trans rfl
  · exact how.keep (M := [be]) ((Keep.refl _ _).setCell (.inl (by simp)) _) fun m hm => .inl hm
  · have := hk.size; have := h.hB; simp [World.setCell]; omega
theorem Ep.keep0 {l : List Dc} {fs : List Fn} {dv fv : Value} (h : Ep be Bd l fs dv fv G w most c o os) (hk : Keep [] w w') : Ep be Bd l fs dv fv G w' most c o os :=
  ⟨h.ev.keep0 hk, h.hd.keep0 hk, h.hf.keep0 hk, fun g hg => Nat.lt_of_lt_of_le (h.hG g hg) hk.size, h.hm⟩
theorem Rep.tail1 {sz b off n cap cap' : Nat} {e : List D} {es : List (List D)} (h : Rep G w (.arr sz (e :: es)) (.slice (some ⟨b, off, none⟩) n cap)) (h1 : es.length ≤ cap') (h2 : cap' ≤ 9223372036854775807) : Rep G w (.arr sz es) (.slice (some ⟨b, off + sz, none⟩) es.length cap') := by
  simp only [Rep] at h ⊢
  obtain ⟨a, c, hv, _, _, hx⟩ := h
  obtain ⟨b', off', ha, hb, hlt, hr⟩ := hx (by simp)
  injection hv with e1 _ _
  rw [ha] at e1
  injection e1 with e1
  injection e1 with e2 e3
  subst e2 e3
  simp only [RepE] at hr
  exact ⟨_, _, rfl, h1, h2, fun _ => ⟨b, off + sz, rfl, hb, hlt, hr.2.2⟩⟩
theorem Ep.inn {l : List Dc} {fs : List Fn} {dv fv : Value} {k : Nat} (h : Ep be Bd l fs dv fv G w most c o os) (hk : Keep [] w w') (h0 : w.heap.size ≤ k) (h1 : k < w'.heap.size) : Ep be Bd l fs dv fv (k :: G) w' most c o os :=
  ⟨h.ev.keep0 hk, (rep_addG h.hd h0).keep0 hk, (rep_addG h.hf h0).keep0 hk, fun g hg => by
    rcases List.mem_cons.1 hg with rfl | hg
    · exact h1
    · have := h.hG g hg; have := hk.size; omega, h.hm⟩
theorem St.put (hk : Keep (ob o) w w') (hat : o'.ownBlock = o.ownBlock ∨ o'.ownBlock = some w.heap.size ∨ o'.ownBlock = some (w.heap.size + 1)) (u : Value) : St be o w o' (w'.setCell ⟨be, 3, none⟩ u) :=
  ⟨(hk.sub fun m hm => List.mem_cons_of_mem _ hm).setCell (.inl (by simp)) u, fun g hg => by
    rcases hat with e | e | e
    · exact .inl (by rw [ob, ← e]; exact hg)
    · simp [ob, e] at hg; exact .inr (by omega)
    · simp [ob, e] at hg; exact .inr (by omega)⟩
end
set_option maxRecDepth 100000 in
set_option maxHeartbeats 8000000 in
theorem op_int {l : List Dc} {fs : List Fn} {N : Nat} (hP : Pr l fs) {n : Int} (h0 : -999 ≤ n) (h1 : n ≤ 999) : OpC (0) (n) [] l fs (0) 1 N := by
  intro be Bd dv fv G w most c o os hep xk vv hvv hos hN
  have HP := Lib.hid hP
  have EP := Lib.hid hep
  have E0 := Lib.hid hep.ev
  have HD := Lib.hid hep.hd
  have HF := Lib.hid hep.hf
  have HG := Lib.hid hep.hG
  have hmm := hep.hm
  have HV := Lib.hid hvv
  have blt := hep.ev.blt
  obtain ⟨da, dc, rfl, _⟩ := decls_form hep.hd
  obtain ⟨fa, fc, rfl, _⟩ := funcs_form hep.hf
  obtain ⟨va, vc, rfl, hvl, hvc⟩ := vals_form hvv
  clear hP hep hvv 
  go_enter Tryd.func49, Tryd.ntmps49
  go_upto_region 0 with fail
  go_cut [5, 6, 8] (fun s5 s6 s8 wx => s5 = .pointer (some ⟨w.heap.size, 0, none⟩) ∧ s6 = .pointer (some ⟨w.heap.size + 1, 0, none⟩) ∧ s8 = .pointer (some ⟨w.heap.size + 2, 0, none⟩) ∧ Bo3 w wx #[.slice da l.length dc, .slice fa fs.length fc] #[.int .i64 0, .int .i64 n, xk] #[.int .i64 0, .slice none 0 0] 50 55 79)
  case first =>
    go_wp2_with fail
    go_meet
    exact ⟨rfl, rfl, rfl, Bo3.mk' _ _ _ _ _ _ _⟩
  case rest =>
    obtain ⟨rfl, rfl, rfl, hbo⟩ := hcut
    have BO := Lib.hid hbo
    have E1 := Lib.hid (E0.out.keep0 hbo.keep)
    have S1 := Lib.hid (St.of0 (be := be) (o := o) (Keep.refl [] wc))
    have hsz := hbo.size
    obtain ⟨⟨q0, q1⟩, _⟩ := blk2 hbo.b0
    obtain ⟨⟨x0, x1, x2⟩, _⟩ := blk3 hbo.b1
    obtain ⟨⟨z0, z1⟩, y0, y1⟩ := blk2 hbo.b2
    have HV1 := Lib.hid ((rep_addG HV.out (k := w.heap.size + 2) (by omega)).keep0 hbo.keep)
    clear hbo
    have HBZ := Lib.hid (show w.heap.size + 2 ∉ be :: ob o from fun hm => by have := E0.out.mlt _ hm; omega)
    have HBP := Lib.hid (show w.heap.size ∉ be :: ob o from fun hm => by have := E0.out.mlt _ hm; omega)
    have HBX := Lib.hid (show w.heap.size + 1 ∉ be :: ob o from fun hm => by have := E0.out.mlt _ hm; omega)
    go_wp2
    refine bodyPost_ret (v := .agg #[.int .i64 (n), .slice none 0 0]) (by simp [results, Tryd.results49, go_sem, z0, z1]) rfl (evk_post (w0 := wc) (W := wc) (k := w.heap.size + 2) (x := .mk n []) (a := none) (cap := 0) BO.out.keep (by omega) (by omega) E0.out S1.out E1.out (Rep.nil _ _ _ _ _ (by omega)) (fun _ => .int h0 h1) (by omega) (by omega) (by first | omega | (simp; done) | (simp; omega)))
set_option maxRecDepth 100000 in
set_option maxHeartbeats 8000000 in
theorem op_con {l : List Dc} {fs : List Fn} {N : Nat} (hP : Pr l fs) {cn : Int} {vs : List V} (hc : 0 < ctyp l cn) (hv : VTs l (sgs fs) vs (cflds l cn)) : OpC (6) (cn) vs l fs (ctyp l cn) 1 N := by
  intro be Bd dv fv G w most c o os hep xk vv hvv hos hN
  have HP := Lib.hid hP
  have EP := Lib.hid hep
  have E0 := Lib.hid hep.ev
  have HD := Lib.hid hep.hd
  have HF := Lib.hid hep.hf
  have HG := Lib.hid hep.hG
  have hmm := hep.hm
  have HV := Lib.hid hvv
  have blt := hep.ev.blt
  obtain ⟨da, dc, rfl, _⟩ := decls_form hep.hd
  obtain ⟨fa, fc, rfl, _⟩ := funcs_form hep.hf
  obtain ⟨va, vc, rfl, hvl, hvc⟩ := vals_form hvv
  have TYP := Lib.hid (show VT l (sgs fs) (.mk cn vs) (ctyp l cn) from .con hc hv.1 hv.2)
  clear hP hep hvv hc hv
  go_enter Tryd.func49, Tryd.ntmps49
  go_upto_region 0 with fail
  go_cut [5, 6, 8] (fun s5 s6 s8 wx => s5 = .pointer (some ⟨w.heap.size, 0, none⟩) ∧ s6 = .pointer (some ⟨w.heap.size + 1, 0, none⟩) ∧ s8 = .pointer (some ⟨w.heap.size + 2, 0, none⟩) ∧ Bo3 w wx #[.slice da l.length dc, .slice fa fs.length fc] #[.int .i64 6, .int .i64 cn, xk] #[.int .i64 0, .slice none 0 0] 50 55 79)
  case first =>
    go_wp2_with fail
    go_meet
    exact ⟨rfl, rfl, rfl, Bo3.mk' _ _ _ _ _ _ _⟩
  case rest =>
    obtain ⟨rfl, rfl, rfl, hbo⟩ := hcut
    have BO := Lib.hid hbo
    have E1 := Lib.hid (E0.out.keep0 hbo.keep)
    have S1 := Lib.hid (St.of0 (be := be) (o := o) (Keep.refl [] wc))
    have hsz := hbo.size
    obtain ⟨⟨q0, q1⟩, _⟩ := blk2 hbo.b0
    obtain ⟨⟨x0, x1, x2⟩, _⟩ := blk3 hbo.b1
    obtain ⟨⟨z0, z1⟩, y0, y1⟩ := blk2 hbo.b2
    have HV1 := Lib.hid ((rep_addG HV.out (k := w.heap.size + 2) (by omega)).keep0 hbo.keep)
    clear hbo
    have HBZ := Lib.hid (show w.heap.size + 2 ∉ be :: ob o from fun hm => by have := E0.out.mlt _ hm; omega)
    have HBP := Lib.hid (show w.heap.size ∉ be :: ob o from fun hm => by have := E0.out.mlt _ hm; omega)
    have HBX := Lib.hid (show w.heap.size + 1 ∉ be :: ob o from fun hm => by have := E0.out.mlt _ hm; omega)
    go_wp2
    refine bodyPost_ret (v := .agg #[.int .i64 (cn), .slice va vs.length vc]) (by simp [results, Tryd.results49, go_sem, z0, z1]) rfl (evk_post (w0 := wc) (W := wc) (k := w.heap.size + 2) (x := .mk cn vs) (a := va) (cap := vc) BO.out.keep (by omega) (by omega) E0.out S1.out E1.out HV1.out (fun _ => TYP.out) (by omega) (by omega) (by first | omega | (simp; done) | (simp; omega)))
set_option maxRecDepth 100000 in
set_option maxHeartbeats 8000000 in
theorem op_close {l : List Dc} {fs : List Fn} {N : Nat} (hP : Pr l fs) {f : Nat} {vs : List V} {t : Int} (hty : VT l (sgs fs) (.mk f vs) t) : OpC (10) ((f : Int)) vs l fs (t) 1 N := by
  intro be Bd dv fv G w most c o os hep xk vv hvv hos hN
  have HP := Lib.hid hP
  have EP := Lib.hid hep
  have E0 := Lib.hid hep.ev
  have HD := Lib.hid hep.hd
  have HF := Lib.hid hep.hf
  have HG := Lib.hid hep.hG
  have hmm := hep.hm
  have HV := Lib.hid hvv
  have blt := hep.ev.blt
  obtain ⟨da, dc, rfl, _⟩ := decls_form hep.hd
  obtain ⟨fa, fc, rfl, _⟩ := funcs_form hep.hf
  obtain ⟨va, vc, rfl, hvl, hvc⟩ := vals_form hvv
  have TYP := Lib.hid (hty)
  clear hP hep hvv hty
  go_enter Tryd.func49, Tryd.ntmps49
  go_upto_region 0 with fail
  go_cut [5, 6, 8] (fun s5 s6 s8 wx => s5 = .pointer (some ⟨w.heap.size, 0, none⟩) ∧ s6 = .pointer (some ⟨w.heap.size + 1, 0, none⟩) ∧ s8 = .pointer (some ⟨w.heap.size + 2, 0, none⟩) ∧ Bo3 w wx #[.slice da l.length dc, .slice fa fs.length fc] #[.int .i64 10, .int .i64 (f : Int), xk] #[.int .i64 0, .slice none 0 0] 50 55 79)
  case first =>
    go_wp2_with fail
    go_meet
    exact ⟨rfl, rfl, rfl, Bo3.mk' _ _ _ _ _ _ _⟩
  case rest =>
    obtain ⟨rfl, rfl, rfl, hbo⟩ := hcut
    have BO := Lib.hid hbo
    have E1 := Lib.hid (E0.out.keep0 hbo.keep)
    have S1 := Lib.hid (St.of0 (be := be) (o := o) (Keep.refl [] wc))
    have hsz := hbo.size
    obtain ⟨⟨q0, q1⟩, _⟩ := blk2 hbo.b0
    obtain ⟨⟨x0, x1, x2⟩, _⟩ := blk3 hbo.b1
    obtain ⟨⟨z0, z1⟩, y0, y1⟩ := blk2 hbo.b2
    have HV1 := Lib.hid ((rep_addG HV.out (k := w.heap.size + 2) (by omega)).keep0 hbo.keep)
    clear hbo
    have HBZ := Lib.hid (show w.heap.size + 2 ∉ be :: ob o from fun hm => by have := E0.out.mlt _ hm; omega)
    have HBP := Lib.hid (show w.heap.size ∉ be :: ob o from fun hm => by have := E0.out.mlt _ hm; omega)
    have HBX := Lib.hid (show w.heap.size + 1 ∉ be :: ob o from fun hm => by have := E0.out.mlt _ hm; omega)
    go_wp2
    refine bodyPost_ret (v := .agg #[.int .i64 ((f : Int)), .slice va vs.length vc]) (by simp [results, Tryd.results49, go_sem, z0, z1]) rfl (evk_post (w0 := wc) (W := wc) (k := w.heap.size + 2) (x := .mk f vs) (a := va) (cap := vc) BO.out.keep (by omega) (by omega) E0.out S1.out E1.out HV1.out (fun _ => TYP.out) (by omega) (by omega) (by first | omega | (simp; done) | (simp; omega)))
set_option maxRecDepth 100000 in
set_option maxHeartbeats 8000000 in
theorem op_call {l : List Dc} {fs : List Fn} {N : Nat} (hP : Pr l fs) {f : Nat} {vs : List V} (ih : EvalC l fs N) (hf : f < fs.length) (hv : VTs l (sgs fs) vs fs[f].sig.params) : OpC (9) ((f : Int)) vs l fs (fs[f].sig.result) 1 N := by
  intro be Bd dv fv G w most c o os hep xk vv hvv hos hN
  have HP := Lib.hid hP
  have EP := Lib.hid hep
  have E0 := Lib.hid hep.ev
  have HD := Lib.hid hep.hd
  have HF := Lib.hid hep.hf
  have HG := Lib.hid hep.hG
  have hmm := hep.hm
  have HV := Lib.hid hvv
  have blt := hep.ev.blt
  obtain ⟨da, dc, rfl, _⟩ := decls_form hep.hd
  obtain ⟨fa, fc, rfl, _⟩ := funcs_form hep.hf
  obtain ⟨va, vc, rfl, hvl, hvc⟩ := vals_form hvv
  have CC := Lib.hid (call_of hP ih)
  have HVT := Lib.hid hv
  clear hP hep hvv hv ih
  go_enter Tryd.func49, Tryd.ntmps49
  go_upto_region 0 with fail
  go_cut [5, 6, 8] (fun s5 s6 s8 wx => s5 = .pointer (some ⟨w.heap.size, 0, none⟩) ∧ s6 = .pointer (some ⟨w.heap.size + 1, 0, none⟩) ∧ s8 = .pointer (some ⟨w.heap.size + 2, 0, none⟩) ∧ Bo3 w wx #[.slice da l.length dc, .slice fa fs.length fc] #[.int .i64 9, .int .i64 (f : Int), xk] #[.int .i64 0, .slice none 0 0] 50 55 79)
  case first =>
    go_wp2_with fail
    go_meet
    exact ⟨rfl, rfl, rfl, Bo3.mk' _ _ _ _ _ _ _⟩
  case rest =>
    obtain ⟨rfl, rfl, rfl, hbo⟩ := hcut
    have BO := Lib.hid hbo
    have E1 := Lib.hid (E0.out.keep0 hbo.keep)
    have S1 := Lib.hid (St.of0 (be := be) (o := o) (Keep.refl [] wc))
    have hsz := hbo.size
    obtain ⟨⟨q0, q1⟩, _⟩ := blk2 hbo.b0
    obtain ⟨⟨x0, x1, x2⟩, _⟩ := blk3 hbo.b1
    obtain ⟨⟨z0, z1⟩, y0, y1⟩ := blk2 hbo.b2
    have HV1 := Lib.hid ((rep_addG HV.out (k := w.heap.size + 2) (by omega)).keep0 hbo.keep)
    clear hbo
    have HBZ := Lib.hid (show w.heap.size + 2 ∉ be :: ob o from fun hm => by have := E0.out.mlt _ hm; omega)
    have HBP := Lib.hid (show w.heap.size ∉ be :: ob o from fun hm => by have := E0.out.mlt _ hm; omega)
    have HBX := Lib.hid (show w.heap.size + 1 ∉ be :: ob o from fun hm => by have := E0.out.mlt _ hm; omega)
    have HEP := Lib.hid (EP.out.inn (k := w.heap.size + 2) BO.out.keep (by omega) (by omega))
    go_wp2_with fail
    refine (CC.out be Bd _ _ ((w.heap.size + 2) :: G) wc most c o os HEP.out vs _ HV1.out f hf HVT.out (by omega) (by omega)).mono ?_
    rintro e w5 ⟨v, av, cv, c5, sp5, o5, os5, rfl, hty, hst, hev, hc5, hm5, ho5, hrv⟩
    have S5 := Lib.hid (show St be o wc o5 w5 from hst)
    have E5 := Lib.hid hev
    have TY := Lib.hid hty
    have R5 := Lib.hid hrv
    clear x0 x1 x2 q0 q1 z0 z1 y0 y1
    obtain ⟨⟨z0, z1⟩, y0, y1⟩ := blk2 ((S5.out.keep.block (w.heap.size + 2) (by omega) HBZ.out).trans BO.out.b2)
    clear hst hev hty hrv
    go_wp2
    refine bodyPost_ret (v := .agg #[.int .i64 (v.num), .slice av v.kids.length cv]) (by simp [results, Tryd.results49, go_sem, z0, z1]) rfl (evk_post (w0 := wc) (W := w5) (k := w.heap.size + 2) (x := v) (a := av) (cap := cv) BO.out.keep (by omega) (by omega) E0.out S5.out E5.out R5.out TY.out (by omega) (by omega) (by first | omega | (simp; done) | (simp; omega)))
set_option maxRecDepth 100000 in
set_option maxHeartbeats 8000000 in
theorem op_prim1 {l : List Dc} {fs : List Fn} {N : Nat} (hP : Pr l fs) {x y : V} (hx : VT l (sgs fs) x 0) (hy : VT l (sgs fs) y 0) : OpC (1) (0) [x, y] l fs (0) 1 N := by
  intro be Bd dv fv G w most c o os hep xk vv hvv hos hN
  have HP := Lib.hid hP
  have EP := Lib.hid hep
  have E0 := Lib.hid hep.ev
  have HD := Lib.hid hep.hd
  have HF := Lib.hid hep.hf
  have HG := Lib.hid hep.hG
  have hmm := hep.hm
  have HV := Lib.hid hvv
  have blt := hep.ev.blt
  obtain ⟨da, dc, rfl, _⟩ := decls_form hep.hd
  obtain ⟨fa, fc, rfl, _⟩ := funcs_form hep.hf
  obtain ⟨va, vc, rfl, hvl, hvc⟩ := vals_form hvv
  obtain ⟨n0, n1, _⟩ := hx.num_in
  obtain ⟨m0, m1, _⟩ := hy.num_in
  clear hP hep hvv hx hy
  go_enter Tryd.func49, Tryd.ntmps49
  go_upto_region 0 with fail
  go_cut [5, 6, 8] (fun s5 s6 s8 wx => s5 = .pointer (some ⟨w.heap.size, 0, none⟩) ∧ s6 = .pointer (some ⟨w.heap.size + 1, 0, none⟩) ∧ s8 = .pointer (some ⟨w.heap.size + 2, 0, none⟩) ∧ Bo3 w wx #[.slice da l.length dc, .slice fa fs.length fc] #[.int .i64 1, .int .i64 0, xk] #[.int .i64 0, .slice none 0 0] 50 55 79)
  case first =>
    go_wp2_with fail
    go_meet
    exact ⟨rfl, rfl, rfl, Bo3.mk' _ _ _ _ _ _ _⟩
  case rest =>
    obtain ⟨rfl, rfl, rfl, hbo⟩ := hcut
    have BO := Lib.hid hbo
    have E1 := Lib.hid (E0.out.keep0 hbo.keep)
    have S1 := Lib.hid (St.of0 (be := be) (o := o) (Keep.refl [] wc))
    have hsz := hbo.size
    obtain ⟨⟨q0, q1⟩, _⟩ := blk2 hbo.b0
    obtain ⟨⟨x0, x1, x2⟩, _⟩ := blk3 hbo.b1
    obtain ⟨⟨z0, z1⟩, y0, y1⟩ := blk2 hbo.b2
    have HV1 := Lib.hid ((rep_addG HV.out (k := w.heap.size + 2) (by omega)).keep0 hbo.keep)
    clear hbo
    have HBZ := Lib.hid (show w.heap.size + 2 ∉ be :: ob o from fun hm => by have := E0.out.mlt _ hm; omega)
    have HBP := Lib.hid (show w.heap.size ∉ be :: ob o from fun hm => by have := E0.out.mlt _ hm; omega)
    have HBX := Lib.hid (show w.heap.size + 1 ∉ be :: ob o from fun hm => by have := E0.out.mlt _ hm; omega)
    obtain ⟨b, off, ca, cc, rfl, hbG, hbl, c0, _, _⟩ := vals_at HV1.out (i := 0) (by simp)
    obtain ⟨b', off', ca', cc', hbb, _, _, c1, _, _⟩ := vals_at HV1.out (i := 1) (by simp)
    injection hbb with hbb
    injection hbb with hb1 hb2
    subst hb1 hb2
    simp only [List.getElem_cons_zero, List.getElem_cons_succ, Nat.zero_mul, Nat.one_mul, Nat.add_zero] at c0 c1
    have HBG := Lib.hid hbG
    have hbn : b ≠ w.heap.size + 2 := fun h => HBG.out (by simp [h])
    clear hbG
    go_wp2
    go_region_held3 (fun w' => w'.cell? ⟨w.heap.size + 1, 0, none⟩ = some (.int .i64 1) ∧ w'.cell? ⟨b, off, none⟩ = some (.int .i64 x.num) ∧ w'.cell? ⟨b, off + 2, none⟩ = some (.int .i64 y.num))
      (first | exact ⟨x0, c0, c1⟩ | (have KS := (Keep.put2' wc (w.heap.size + 2) (.int .i64 (primF 1 x.num y.num)) (.slice none 0 0)).drew; exact ⟨KS.cellEq x0 (by simp), KS.cellEq c0 (by simpa using hbn), KS.cellEq c1 (by simpa using hbn)⟩) | go_keep)
      (first
      | (go_at_call 66
         refine (prim_any 1 x.num y.num _ (by omega) (by omega) (by omega) (by omega)).mono ?_
         rintro e w5 ⟨rfl, rfl⟩))
    all_goals
      go_wp2
      refine bodyPost_ret (v := .agg #[.int .i64 (primF 1 x.num y.num), .slice none 0 0]) (by simp [results, Tryd.results49, go_sem, z0, z1]) rfl (EvK.drew (evk_post (w0 := wc) (W := wc) (k := w.heap.size + 2) (x := .mk (primF 1 x.num y.num) []) (a := none) (cap := 0) BO.out.keep (by omega) (by omega) E0.out S1.out E1.out (Rep.nil _ _ _ _ _ (by omega)) (fun _ => .int (primF_range _ _ _).1 (primF_range _ _ _).2) (by omega) (by omega) (by first | omega | (simp; done) | (simp; omega))))
set_option maxRecDepth 100000 in
set_option maxHeartbeats 8000000 in
theorem op_prim2 {l : List Dc} {fs : List Fn} {N : Nat} (hP : Pr l fs) {x y : V} (hx : VT l (sgs fs) x 0) (hy : VT l (sgs fs) y 0) : OpC (2) (0) [x, y] l fs (0) 1 N := by
  intro be Bd dv fv G w most c o os hep xk vv hvv hos hN
  have HP := Lib.hid hP
  have EP := Lib.hid hep
  have E0 := Lib.hid hep.ev
  have HD := Lib.hid hep.hd
  have HF := Lib.hid hep.hf
  have HG := Lib.hid hep.hG
  have hmm := hep.hm
  have HV := Lib.hid hvv
  have blt := hep.ev.blt
  obtain ⟨da, dc, rfl, _⟩ := decls_form hep.hd
  obtain ⟨fa, fc, rfl, _⟩ := funcs_form hep.hf
  obtain ⟨va, vc, rfl, hvl, hvc⟩ := vals_form hvv
  obtain ⟨n0, n1, _⟩ := hx.num_in
  obtain ⟨m0, m1, _⟩ := hy.num_in
  clear hP hep hvv hx hy
  go_enter Tryd.func49, Tryd.ntmps49
  go_upto_region 0 with fail
  go_cut [5, 6, 8] (fun s5 s6 s8 wx => s5 = .pointer (some ⟨w.heap.size, 0, none⟩) ∧ s6 = .pointer (some ⟨w.heap.size + 1, 0, none⟩) ∧ s8 = .pointer (some ⟨w.heap.size + 2, 0, none⟩) ∧ Bo3 w wx #[.slice da l.length dc, .slice fa fs.length fc] #[.int .i64 2, .int .i64 0, xk] #[.int .i64 0, .slice none 0 0] 50 55 79)
  case first =>
    go_wp2_with fail
    go_meet
    exact ⟨rfl, rfl, rfl, Bo3.mk' _ _ _ _ _ _ _⟩
  case rest =>
    obtain ⟨rfl, rfl, rfl, hbo⟩ := hcut
    have BO := Lib.hid hbo
    have E1 := Lib.hid (E0.out.keep0 hbo.keep)
    have S1 := Lib.hid (St.of0 (be := be) (o := o) (Keep.refl [] wc))
    have hsz := hbo.size
    obtain ⟨⟨q0, q1⟩, _⟩ := blk2 hbo.b0
    obtain ⟨⟨x0, x1, x2⟩, _⟩ := blk3 hbo.b1
    obtain ⟨⟨z0, z1⟩, y0, y1⟩ := blk2 hbo.b2
    have HV1 := Lib.hid ((rep_addG HV.out (k := w.heap.size + 2) (by omega)).keep0 hbo.keep)
    clear hbo
    have HBZ := Lib.hid (show w.heap.size + 2 ∉ be :: ob o from fun hm => by have := E0.out.mlt _ hm; omega)
    have HBP := Lib.hid (show w.heap.size ∉ be :: ob o from fun hm => by have := E0.out.mlt _ hm; omega)
    have HBX := Lib.hid (show w.heap.size + 1 ∉ be :: ob o from fun hm => by have := E0.out.mlt _ hm; omega)
    obtain ⟨b, off, ca, cc, rfl, hbG, hbl, c0, _, _⟩ := vals_at HV1.out (i := 0) (by simp)
    obtain ⟨b', off', ca', cc', hbb, _, _, c1, _, _⟩ := vals_at HV1.out (i := 1) (by simp)
    injection hbb with hbb
    injection hbb with hb1 hb2
    subst hb1 hb2
    simp only [List.getElem_cons_zero, List.getElem_cons_succ, Nat.zero_mul, Nat.one_mul, Nat.add_zero] at c0 c1
    have HBG := Lib.hid hbG
    have hbn : b ≠ w.heap.size + 2 := fun h => HBG.out (by simp [h])
    clear hbG
    go_wp2
    go_region_held3 (fun w' => w'.cell? ⟨w.heap.size + 1, 0, none⟩ = some (.int .i64 2) ∧ w'.cell? ⟨b, off, none⟩ = some (.int .i64 x.num) ∧ w'.cell? ⟨b, off + 2, none⟩ = some (.int .i64 y.num))
      (first | exact ⟨x0, c0, c1⟩ | (have KS := (Keep.put2' wc (w.heap.size + 2) (.int .i64 (primF 2 x.num y.num)) (.slice none 0 0)).drew; exact ⟨KS.cellEq x0 (by simp), KS.cellEq c0 (by simpa using hbn), KS.cellEq c1 (by simpa using hbn)⟩) | go_keep)
      (first
      | (go_at_call 66
         refine (prim_any 2 x.num y.num _ (by omega) (by omega) (by omega) (by omega)).mono ?_
         rintro e w5 ⟨rfl, rfl⟩))
    all_goals
      go_wp2
      refine bodyPost_ret (v := .agg #[.int .i64 (primF 2 x.num y.num), .slice none 0 0]) (by simp [results, Tryd.results49, go_sem, z0, z1]) rfl (EvK.drew (evk_post (w0 := wc) (W := wc) (k := w.heap.size + 2) (x := .mk (primF 2 x.num y.num) []) (a := none) (cap := 0) BO.out.keep (by omega) (by omega) E0.out S1.out E1.out (Rep.nil _ _ _ _ _ (by omega)) (fun _ => .int (primF_range _ _ _).1 (primF_range _ _ _).2) (by omega) (by omega) (by first | omega | (simp; done) | (simp; omega))))
set_option maxRecDepth 100000 in
set_option maxHeartbeats 8000000 in
theorem op_prim3 {l : List Dc} {fs : List Fn} {N : Nat} (hP : Pr l fs) {x y : V} (hx : VT l (sgs fs) x 0) (hy : VT l (sgs fs) y 0) : OpC (3) (0) [x, y] l fs (0) 1 N := by
  intro be Bd dv fv G w most c o os hep xk vv hvv hos hN
  have HP := Lib.hid hP
  have EP := Lib.hid hep
  have E0 := Lib.hid hep.ev
  have HD := Lib.hid hep.hd
  have HF := Lib.hid hep.hf
  have HG := Lib.hid hep.hG
  have hmm := hep.hm
  have HV := Lib.hid hvv
  have blt := hep.ev.blt
  obtain ⟨da, dc, rfl, _⟩ := decls_form hep.hd
  obtain ⟨fa, fc, rfl, _⟩ := funcs_form hep.hf
  obtain ⟨va, vc, rfl, hvl, hvc⟩ := vals_form hvv
  obtain ⟨n0, n1, _⟩ := hx.num_in
  obtain ⟨m0, m1, _⟩ := hy.num_in
  clear hP hep hvv hx hy
  go_enter Tryd.func49, Tryd.ntmps49
  go_upto_region 0 with fail
  go_cut [5, 6, 8] (fun s5 s6 s8 wx => s5 = .pointer (some ⟨w.heap.size, 0, none⟩) ∧ s6 = .pointer (some ⟨w.heap.size + 1, 0, none⟩) ∧ s8 = .pointer (some ⟨w.heap.size + 2, 0, none⟩) ∧ Bo3 w wx #[.slice da l.length dc, .slice fa fs.length fc] #[.int .i64 3, .int .i64 0, xk] #[.int .i64 0, .slice none 0 0] 50 55 79)
  case first =>
    go_wp2_with fail
    go_meet
    exact ⟨rfl, rfl, rfl, Bo3.mk' _ _ _ _ _ _ _⟩
  case rest =>
    obtain ⟨rfl, rfl, rfl, hbo⟩ := hcut
    have BO := Lib.hid hbo
    have E1 := Lib.hid (E0.out.keep0 hbo.keep)
    have S1 := Lib.hid (St.of0 (be := be) (o := o) (Keep.refl [] wc))
    have hsz := hbo.size
    obtain ⟨⟨q0, q1⟩, _⟩ := blk2 hbo.b0
    obtain ⟨⟨x0, x1, x2⟩, _⟩ := blk3 hbo.b1
    obtain ⟨⟨z0, z1⟩, y0, y1⟩ := blk2 hbo.b2
    have HV1 := Lib.hid ((rep_addG HV.out (k := w.heap.size + 2) (by omega)).keep0 hbo.keep)
    clear hbo
    have HBZ := Lib.hid (show w.heap.size + 2 ∉ be :: ob o from fun hm => by have := E0.out.mlt _ hm; omega)
    have HBP := Lib.hid (show w.heap.size ∉ be :: ob o from fun hm => by have := E0.out.mlt _ hm; omega)
    have HBX := Lib.hid (show w.heap.size + 1 ∉ be :: ob o from fun hm => by have := E0.out.mlt _ hm; omega)
    obtain ⟨b, off, ca, cc, rfl, hbG, hbl, c0, _, _⟩ := vals_at HV1.out (i := 0) (by simp)
    obtain ⟨b', off', ca', cc', hbb, _, _, c1, _, _⟩ := vals_at HV1.out (i := 1) (by simp)
    injection hbb with hbb
    injection hbb with hb1 hb2
    subst hb1 hb2
    simp only [List.getElem_cons_zero, List.getElem_cons_succ, Nat.zero_mul, Nat.one_mul, Nat.add_zero] at c0 c1
    have HBG := Lib.hid hbG
    have hbn : b ≠ w.heap.size + 2 := fun h => HBG.out (by simp [h])
    clear hbG
    go_wp2
    go_region_held3 (fun w' => w'.cell? ⟨w.heap.size + 1, 0, none⟩ = some (.int .i64 3) ∧ w'.cell? ⟨b, off, none⟩ = some (.int .i64 x.num) ∧ w'.cell? ⟨b, off + 2, none⟩ = some (.int .i64 y.num))
      (first | exact ⟨x0, c0, c1⟩ | (have KS := (Keep.put2' wc (w.heap.size + 2) (.int .i64 (primF 3 x.num y.num)) (.slice none 0 0)).drew; exact ⟨KS.cellEq x0 (by simp), KS.cellEq c0 (by simpa using hbn), KS.cellEq c1 (by simpa using hbn)⟩) | go_keep)
      (first
      | (go_at_call 66
         refine (prim_any 3 x.num y.num _ (by omega) (by omega) (by omega) (by omega)).mono ?_
         rintro e w5 ⟨rfl, rfl⟩))
    all_goals
      go_wp2
      refine bodyPost_ret (v := .agg #[.int .i64 (primF 3 x.num y.num), .slice none 0 0]) (by simp [results, Tryd.results49, go_sem, z0, z1]) rfl (EvK.drew (evk_post (w0 := wc) (W := wc) (k := w.heap.size + 2) (x := .mk (primF 3 x.num y.num) []) (a := none) (cap := 0) BO.out.keep (by omega) (by omega) E0.out S1.out E1.out (Rep.nil _ _ _ _ _ (by omega)) (fun _ => .int (primF_range _ _ _).1 (primF_range _ _ _).2) (by omega) (by omega) (by first | omega | (simp; done) | (simp; omega))))
set_option maxRecDepth 100000 in
set_option maxHeartbeats 8000000 in
theorem op_prim4 {l : List Dc} {fs : List Fn} {N : Nat} (hP : Pr l fs) {x y : V} (hx : VT l (sgs fs) x 0) (hy : VT l (sgs fs) y 0) : OpC (4) (0) [x, y] l fs (0) 1 N := by
  intro be Bd dv fv G w most c o os hep xk vv hvv hos hN
  have HP := Lib.hid hP
  have EP := Lib.hid hep
  have E0 := Lib.hid hep.ev
  have HD := Lib.hid hep.hd
  have HF := Lib.hid hep.hf
  have HG := Lib.hid hep.hG
  have hmm := hep.hm
  have HV := Lib.hid hvv
  have blt := hep.ev.blt
  obtain ⟨da, dc, rfl, _⟩ := decls_form hep.hd
  obtain ⟨fa, fc, rfl, _⟩ := funcs_form hep.hf
  obtain ⟨va, vc, rfl, hvl, hvc⟩ := vals_form hvv
  obtain ⟨n0, n1, _⟩ := hx.num_in
  obtain ⟨m0, m1, _⟩ := hy.num_in
  clear hP hep hvv hx hy
  go_enter Tryd.func49, Tryd.ntmps49
  go_upto_region 0 with fail
  go_cut [5, 6, 8] (fun s5 s6 s8 wx => s5 = .pointer (some ⟨w.heap.size, 0, none⟩) ∧ s6 = .pointer (some ⟨w.heap.size + 1, 0, none⟩) ∧ s8 = .pointer (some ⟨w.heap.size + 2, 0, none⟩) ∧ Bo3 w wx #[.slice da l.length dc, .slice fa fs.length fc] #[.int .i64 4, .int .i64 0, xk] #[.int .i64 0, .slice none 0 0] 50 55 79)
  case first =>
    go_wp2_with fail
    go_meet
    exact ⟨rfl, rfl, rfl, Bo3.mk' _ _ _ _ _ _ _⟩
  case rest =>
    obtain ⟨rfl, rfl, rfl, hbo⟩ := hcut
    have BO := Lib.hid hbo
    have E1 := Lib.hid (E0.out.keep0 hbo.keep)
    have S1 := Lib.hid (St.of0 (be := be) (o := o) (Keep.refl [] wc))
    have hsz := hbo.size
    obtain ⟨⟨q0, q1⟩, _⟩ := blk2 hbo.b0
    obtain ⟨⟨x0, x1, x2⟩, _⟩ := blk3 hbo.b1
    obtain ⟨⟨z0, z1⟩, y0, y1⟩ := blk2 hbo.b2
    have HV1 := Lib.hid ((rep_addG HV.out (k := w.heap.size + 2) (by omega)).keep0 hbo.keep)
    clear hbo
    have HBZ := Lib.hid (show w.heap.size + 2 ∉ be :: ob o from fun hm => by have := E0.out.mlt _ hm; omega)
    have HBP := Lib.hid (show w.heap.size ∉ be :: ob o from fun hm => by have := E0.out.mlt _ hm; omega)
    have HBX := Lib.hid (show w.heap.size + 1 ∉ be :: ob o from fun hm => by have := E0.out.mlt _ hm; omega)
    obtain ⟨b, off, ca, cc, rfl, hbG, hbl, c0, _, _⟩ := vals_at HV1.out (i := 0) (by simp)
    obtain ⟨b', off', ca', cc', hbb, _, _, c1, _, _⟩ := vals_at HV1.out (i := 1) (by simp)
    injection hbb with hbb
    injection hbb with hb1 hb2
    subst hb1 hb2
    simp only [List.getElem_cons_zero, List.getElem_cons_succ, Nat.zero_mul, Nat.one_mul, Nat.add_zero] at c0 c1
    have HBG := Lib.hid hbG
    have hbn : b ≠ w.heap.size + 2 := fun h => HBG.out (by simp [h])
    clear hbG
    go_wp2
    go_region_held3 (fun w' => w'.cell? ⟨w.heap.size + 1, 0, none⟩ = some (.int .i64 4) ∧ w'.cell? ⟨b, off, none⟩ = some (.int .i64 x.num) ∧ w'.cell? ⟨b, off + 2, none⟩ = some (.int .i64 y.num))
      (first | exact ⟨x0, c0, c1⟩ | (have KS := (Keep.put2' wc (w.heap.size + 2) (.int .i64 (primF 4 x.num y.num)) (.slice none 0 0)).drew; exact ⟨KS.cellEq x0 (by simp), KS.cellEq c0 (by simpa using hbn), KS.cellEq c1 (by simpa using hbn)⟩) | go_keep)
      (first
      | (go_at_call 66
         refine (prim_any 4 x.num y.num _ (by omega) (by omega) (by omega) (by omega)).mono ?_
         rintro e w5 ⟨rfl, rfl⟩))
    all_goals
      go_wp2
      refine bodyPost_ret (v := .agg #[.int .i64 (primF 4 x.num y.num), .slice none 0 0]) (by simp [results, Tryd.results49, go_sem, z0, z1]) rfl (EvK.drew (evk_post (w0 := wc) (W := wc) (k := w.heap.size + 2) (x := .mk (primF 4 x.num y.num) []) (a := none) (cap := 0) BO.out.keep (by omega) (by omega) E0.out S1.out E1.out (Rep.nil _ _ _ _ _ (by omega)) (fun _ => .int (primF_range _ _ _).1 (primF_range _ _ _).2) (by omega) (by omega) (by first | omega | (simp; done) | (simp; omega))))
set_option maxRecDepth 100000 in
set_option maxHeartbeats 8000000 in
theorem op_print {l : List Dc} {fs : List Fn} {N : Nat} (hP : Pr l fs) {x : V} (hx : VT l (sgs fs) x 0) : OpC (5) (0) [x] l fs (0) 1 N := by
  intro be Bd dv fv G w most c o os hep xk vv hvv hos hN
  have HP := Lib.hid hP
  have EP := Lib.hid hep
  have E0 := Lib.hid hep.ev
  have HD := Lib.hid hep.hd
  have HF := Lib.hid hep.hf
  have HG := Lib.hid hep.hG
  have hmm := hep.hm
  have HV := Lib.hid hvv
  have blt := hep.ev.blt
  obtain ⟨da, dc, rfl, _⟩ := decls_form hep.hd
  obtain ⟨fa, fc, rfl, _⟩ := funcs_form hep.hf
  obtain ⟨va, vc, rfl, hvl, hvc⟩ := vals_form hvv
  obtain ⟨n0, n1, _⟩ := hx.num_in
  clear hP hep hvv hx
  go_enter Tryd.func49, Tryd.ntmps49
  go_upto_region 0 with fail
  go_cut [5, 6, 8] (fun s5 s6 s8 wx => s5 = .pointer (some ⟨w.heap.size, 0, none⟩) ∧ s6 = .pointer (some ⟨w.heap.size + 1, 0, none⟩) ∧ s8 = .pointer (some ⟨w.heap.size + 2, 0, none⟩) ∧ Bo3 w wx #[.slice da l.length dc, .slice fa fs.length fc] #[.int .i64 5, .int .i64 0, xk] #[.int .i64 0, .slice none 0 0] 50 55 79)
  case first =>
    go_wp2_with fail
    go_meet
    exact ⟨rfl, rfl, rfl, Bo3.mk' _ _ _ _ _ _ _⟩
  case rest =>
    obtain ⟨rfl, rfl, rfl, hbo⟩ := hcut
    have BO := Lib.hid hbo
    have E1 := Lib.hid (E0.out.keep0 hbo.keep)
    have S1 := Lib.hid (St.of0 (be := be) (o := o) (Keep.refl [] wc))
    have hsz := hbo.size
    obtain ⟨⟨q0, q1⟩, _⟩ := blk2 hbo.b0
    obtain ⟨⟨x0, x1, x2⟩, _⟩ := blk3 hbo.b1
    obtain ⟨⟨z0, z1⟩, y0, y1⟩ := blk2 hbo.b2
    have HV1 := Lib.hid ((rep_addG HV.out (k := w.heap.size + 2) (by omega)).keep0 hbo.keep)
    clear hbo
    have HBZ := Lib.hid (show w.heap.size + 2 ∉ be :: ob o from fun hm => by have := E0.out.mlt _ hm; omega)
    have HBP := Lib.hid (show w.heap.size ∉ be :: ob o from fun hm => by have := E0.out.mlt _ hm; omega)
    have HBX := Lib.hid (show w.heap.size + 1 ∉ be :: ob o from fun hm => by have := E0.out.mlt _ hm; omega)
    obtain ⟨b, off, ca, cc, rfl, hbG, hbl, c0, _, _⟩ := vals_at HV1.out (i := 0) (by simp)
    simp only [List.getElem_cons_zero, Nat.zero_mul, Nat.add_zero] at c0
    have HBG := Lib.hid hbG
    have hbn : b ≠ w.heap.size + 2 := fun h => HBG.out (by simp [h])
    have hbe : b ≠ be := fun h => HBG.out (by simp [h])
    clear hbG
    obtain ⟨⟨k0, k1, k2, k3⟩, g0, g1, g2, g3⟩ := blk4 E1.out.blk
    obtain ⟨oa, ocap, rfl⟩ := E0.out.form
    have HGO := Lib.hid (fun g (hg : g ∈ ob (.slice oa os.length ocap) ++ [be]) => show g < wc.heap.size from by
      rcases List.mem_append.1 hg with h | h
      · exact (E1.out.olt g h).2
      · simp at h; omega)
    have HBO := Lib.hid (show be ∉ ob (.slice oa os.length ocap) from fun hm => by have := (E1.out.olt be hm).1; have := E1.out.lt; omega)
    have KA := (Keep.refl [] wc).alloc (.cells #[.int .i64 x.num] 3)
    have ka3 := KA.cellEq k3 (by simp)
    have kac := KA.cellEq c0 (by simp)
    clear KA
    go_wp2
    go_region_law (first
      | (refine step_append rfl _ _ 22 rfl [be] Bd 3 (.int .i64 0) 1 8 Tryd.underlying22 infoInt rfl (by decide) (.slice oa os.length ocap) (intsE os) rfl (E1.out.own.keep0 (by repeat (first | with_reducible exact Keep.refl _ _ | with_reducible refine Keep.drew ?_ | with_reducible refine Keep.alloc ?_ _ | exact Keep.refl _ _ | fail))) (.slice (some ⟨w.heap.size + 3, 0, none⟩) 1 1) (intsE [x.num]) rfl
           (by (repeat (first | with_reducible refine Rep.drew ?_ | ((refine ints_newAt [x.num] ?_ ?_ (by simp)) <;> (first | omega | (intro g hg; have := HGO.out g hg; (try simp); omega) | fail)) | with_reducible refine Rep.alloc ?_ _ | fail))) (intsE_size [x.num]) (by rw [intsE_length]; simp [intsE]; omega) (by rw [intsE_length]; simp [intsE]; omega) (by have := E1.out.hB; simp; omega) (fun g hg => by simp at hg ⊢; omega) ?_
         intro o2 w2 ho hgr
         have HO2 := Lib.hid (show Own [be] Bd w2 3 1 o2 (intsE (os ++ [x.num])) from by rw [← intsE_app]; exact ho)
         have GR := Lib.hid hgr
         have K2 := Lib.hid (show Keep (ob (.slice oa os.length ocap)) wc w2 from (Keep.of0 (by repeat (first | with_reducible exact Keep.refl _ _ | with_reducible refine Keep.drew ?_ | with_reducible refine Keep.alloc ?_ _ | exact Keep.refl _ _ | fail))).then hgr.keep)
         have hs2 := K2.out.size
         have AT3 := Lib.hid (show o2.ownBlock = (Value.slice oa os.length ocap).ownBlock ∨ o2.ownBlock = some wc.heap.size ∨ o2.ownBlock = some (wc.heap.size + 1) from by rcases hgr.at_ with h | h; exact .inl h; simp at h; exact .inr (by first | exact .inr h | exact .inl h))
         obtain ⟨⟨_, _, _, j3⟩, _, _, _, i3⟩ := blk4 ((K2.out.block be (by omega) HBO.out).trans E1.out.blk)
         obtain ⟨oa2, oc2, ho2⟩ := HO2.out.form
         obtain rfl : o2 = .slice oa2 (os.length + 1) oc2 := by rw [ho2, intsE_length]; simp
         clear ho hgr ho2))
    all_goals
      obtain ⟨W, hW⟩ : ∃ W, W = w2.setCell ⟨be, 3, none⟩ (.slice oa2 (os.length + 1) oc2) := ⟨_, rfl⟩
      rw [← hW]
      have E3 := Lib.hid (show Ev be Bd W most c false (.slice oa2 (os.length + 1) oc2) (os ++ [x.num]) from by rw [hW]; exact E1.out.put K2.out HO2.out _ rfl)
      have S3 := Lib.hid (show St be (.slice oa os.length ocap) wc (.slice oa2 (os.length + 1) oc2) W from by rw [hW]; exact St.put K2.out AT3.out _)
      have HV3 := Lib.hid (S3.out.rep HV1.out)
      clear hW
      clear ka3 kac c0 z0 z1 y0 y1 q0 q1 x0 x1 x2 k0 k1 k2 k3 g0 g1 g2 g3 j3 i3
      obtain ⟨b', off', ca', cc', hbb, _, _, c0, _, _⟩ := vals_at HV3.out (i := 0) (by simp)
      injection hbb with hbb
      injection hbb with hb1 hb2
      subst hb1 hb2
      simp only [List.getElem_cons_zero, Nat.zero_mul, Nat.add_zero] at c0
      obtain ⟨⟨z0, z1⟩, y0, y1⟩ := blk2 ((S3.out.keep.block (w.heap.size + 2) (by omega) HBZ.out).trans BO.out.b2)
      go_wp2
      refine bodyPost_ret (v := .agg #[.int .i64 (x.num), .slice none 0 0]) (by simp [results, Tryd.results49, go_sem, z0, z1]) rfl (evk_post (w0 := wc) (W := W) (k := w.heap.size + 2) (x := .mk x.num []) (a := none) (cap := 0) BO.out.keep (by omega) (by omega) E0.out S3.out E3.out (Rep.nil _ _ _ _ _ (by omega)) (fun _ => .int n0 n1) (by omega) (by omega) (by first | omega | (simp; done) | (simp; omega)))
end Go.Proofs.YtnjincgemmgllaaDoor
