/- The walk of the evaluation's call, under the contract of eval. -/
import Derived.Test.YtnjincgemmgllaaDoorEvB
import Derived.Deep.RegionHeld3
import Derived.Deep.DrawnRows
import Derived.Deep.DeepCutAuto
namespace Go.Proofs.YtnjincgemmgllaaDoor
open Go.RowKit
attribute [local go_sem ↓] Go.wp_at_zero Go.wp_at_succ

def put2 (w : World) (R : Nat) (c0 c1 : Value) : World := (w.setCell ⟨R, 0, none⟩ c0).setCell ⟨R, 1, none⟩ c1
theorem Keep.put2' (w : World) (R : Nat) (c0 c1 : Value) : Keep [R] w (put2 w R c0 c1) := ((Keep.refl _ _).setCell (.inl (by simp)) _).setCell (.inl (by simp)) _
theorem put2_block {w : World} {k : Nat} {a0 a1 c0 c1 : Value} {T : TypeId} (h : w.heap[k]? = some (.cells #[a0, a1] T (0, 0))) : (put2 w k c0 c1).heap[k]? = some (.cells #[c0, c1] T (0, 0)) := by
  simp [put2, World.setCell, Array.getElem?_modify, h]
theorem blk2 {w : World} {b : Nat} {c0 c1 : Value} {T : TypeId} (h : w.heap[b]? = some (.cells #[c0, c1] T (0, 0))) :
    (w.cell? ⟨b, 0, none⟩ = some c0 ∧ w.cell? ⟨b, 1, none⟩ = some c1) ∧ (w.frozen? ⟨b, 0, none⟩ = false ∧ w.frozen? ⟨b, 1, none⟩ = false) := by
  refine ⟨⟨?_, ?_⟩, ?_, ?_⟩
  · rw [cell_of_row w b 0 _ _ _ h]; rfl
  · rw [cell_of_row w b 1 _ _ _ h]; rfl
  all_goals simp [World.frozen?, h]
theorem blk4 {w : World} {b : Nat} {c0 c1 c2 c3 : Value} {T : TypeId} (h : w.heap[b]? = some (.cells #[c0, c1, c2, c3] T (0, 0))) :
    (w.cell? ⟨b, 0, none⟩ = some c0 ∧ w.cell? ⟨b, 1, none⟩ = some c1 ∧ w.cell? ⟨b, 2, none⟩ = some c2 ∧ w.cell? ⟨b, 3, none⟩ = some c3) ∧ (w.frozen? ⟨b, 0, none⟩ = false ∧ w.frozen? ⟨b, 1, none⟩ = false ∧ w.frozen? ⟨b, 2, none⟩ = false ∧ w.frozen? ⟨b, 3, none⟩ = false) := by
  refine ⟨⟨?_, ?_, ?_, ?_⟩, ?_, ?_, ?_, ?_⟩
  · rw [cell_of_row w b 0 _ _ _ h]; rfl
  · rw [cell_of_row w b 1 _ _ _ h]; rfl
  · rw [cell_of_row w b 2 _ _ _ h]; rfl
  · rw [cell_of_row w b 3 _ _ _ h]; rfl
  all_goals simp [World.frozen?, h]
section
variable {be Bd : Nat} {o o' o'' : Value} {w w' w'' : World} {most c : Nat} {sp : Bool} {os os' : List Int} {G : List Nat} {d : D} {v : Value}
theorem setCell_blk {w : World} {b : Nat} {cs : Array Value} {T : TypeId} {i : Nat} {u : Value} (h : w.heap[b]? = some (.cells cs T (0, 0))) : (w.setCell ⟨b, i, none⟩ u).heap[b]? = some (.cells (cs.setIfInBounds i u) T (0, 0)) := by
  simp [World.setCell, Array.getElem?_modify, h]
theorem Ev.own_set (h : Ev be Bd w most c sp o os) (i : Nat) (u : Value) : Own [be] Bd (w.setCell ⟨be, i, none⟩ u) 3 1 o (intsE os) :=
  h.own.keep (M := [be]) ((Keep.refl _ _).setCell (.inl (by simp)) u) fun m hm => .inl hm
theorem Ev.spend (h : Ev be Bd w most c sp o os) : Ev be Bd (w.setCell ⟨be, 2, none⟩ (.bool true)) most c true o os :=
  ⟨(setCell_blk h.blk).trans rfl, h.own_set _ _, h.lt, by simpa [World.setCell] using h.hB⟩
theorem Ev.more (h : Ev be Bd w most c sp o os) : Ev be Bd (w.setCell ⟨be, 1, none⟩ (.int .i64 ((c : Int) + 1))) most (c + 1) sp o os :=
  ⟨(setCell_blk h.blk).trans rfl, h.own_set _ _, h.lt, by simpa [World.setCell] using h.hB⟩
theorem St.setBe (i : Nat) (u : Value) : St be o w o (w.setCell ⟨be, i, none⟩ u) := ⟨(Keep.refl _ _).setCell (.inl (by simp)) u, fun _ hg => .inl hg⟩
/- the end of a function that returns a value: it lies in the result's block k -/
theorem evk_post {l : List Dc} {fs : List Fn} {w0 W : World} {c' k kk : Nat} {sp0 : Bool} {t : Int} {x : V} {a : Option Addr} {cap : Nat} (h0 : Keep [] w w0) (hk0 : w.heap.size ≤ k) (hk1 : k < w0.heap.size) (e0 : Ev be Bd w most c sp0 o os) (s : St be o w0 o' W) (ev : Ev be Bd W most c' sp o' os')
    (hr : Rep (be :: (ob o' ++ k :: G)) W (valsD x.kids) (.slice a x.kids.length cap)) (ty : sp = false → VT l (sgs fs) x t) (hc : c ≤ c') (hm : c' ≤ most) (hos : os'.length ≤ os.length + kk + 31 * (c' - c)) :
    EvK l fs be Bd G most c os kk t o w (.returned (.agg #[.int .i64 x.num, .slice a x.kids.length cap])) (put2 W k (.int .i64 x.num) (.slice a x.kids.length cap)) := by
  have hb := e0.blt
  have hko : k ∉ ob o' := fun hm => by
    rcases s.at_ k hm with h1 | h1
    · have := (e0.olt k h1).2; omega
    · omega
  refine ⟨x, a, cap, c', sp, o', os', rfl, ty, ⟨((h0.of0.then s.keep).setCell (.inr hk0) _).setCell (.inr hk0) _, fun g hg => ?_⟩, ev.keepM (Keep.put2' W k _ _) (fun m hm => ?_), hc, hm, hos, ?_⟩
  · rcases s.at_ g hg with h1 | h1
    · exact .inl h1
    · have := h0.size; exact .inr (by omega)
  · simp at hm; subst hm
    exact ⟨by omega, hko⟩
  · refine (hr.keep (Keep.put2' W k _ _) fun m hm => .inl (by simp at hm; subst hm; simp)).sub fun g hg => .inl ?_
    simp only [List.mem_cons, List.mem_append] at hg ⊢
    rcases hg with h | h | h
    · exact .inl h
    · exact .inr (.inl h)
    · exact .inr (.inr (.inr h))
/- more blocks to keep clear of: those made since -/
theorem rep_addG {k : Nat} (h : Rep (be :: (ob o ++ G)) w d v) (hk : w.heap.size ≤ k) : Rep (be :: (ob o ++ k :: G)) w d v := h.sub fun g hg => by
  simp only [List.mem_cons, List.mem_append] at hg ⊢
  rcases hg with h | h | h | h
  · exact .inl (.inl h)
  · exact .inl (.inr (.inl h))
  · exact .inr (by omega)
  · exact .inl (.inr (.inr h))
theorem EvK.drew {l : List Dc} {fs : List Fn} {kk : Nat} {t : Int} {e : Ending} (h : EvK l fs be Bd G most c os kk t o w e w') : EvK l fs be Bd G most c os kk t o w e w'.drew := by
  obtain ⟨v, a, cap, c', sp, o', os', h1, h2, h3, h4, h5, h6, h7, h8⟩ := h
  exact ⟨v, a, cap, c', sp, o', os', h1, h2, ⟨h3.keep.drew, h3.at_⟩, h4.keep0 (Keep.refl _ _).drew, h5, h6, h7, h8.drew⟩
end
/- the boxes that a function makes first -/
theorem Ep.drew {be Bd : Nat} {l : List Dc} {fs : List Fn} {dv fv : Value} {G : List Nat} {w : World} {most c : Nat} {o : Value} {os : List Int} (h : Ep be Bd l fs dv fv G w most c o os) : Ep be Bd l fs dv fv G w.drew most c o os :=
  ⟨h.ev.keep0 (Keep.refl _ _).drew, h.hd.drew, h.hf.drew, h.hG, h.hm⟩
structure Bo2 (w wx : World) (A B : Array Value) (T S : TypeId) : Prop where
  keep : Keep [] w wx
  size : wx.heap.size = w.heap.size + 2
  b0 : wx.heap[w.heap.size]? = some (.cells A T (0, 0))
  b1 : wx.heap[w.heap.size + 1]? = some (.cells B S (0, 0))
theorem Bo2.mk' (w : World) (A B : Array Value) (T S : TypeId) : Bo2 w ((w.alloc (.cells A T)).alloc (.cells B S)) A B T S :=
  ⟨((Keep.refl _ _).alloc _).alloc _, by simp, by rw [Below.heap_alloc _ _ _ (by simp)]; exact heap_alloc_new w _, by have := heap_alloc_new (w.alloc (.cells A T)) (.cells B S); rwa [World.size_alloc] at this⟩
structure Bo3 (w wx : World) (A B C : Array Value) (T S U : TypeId) : Prop where
  keep : Keep [] w wx
  size : wx.heap.size = w.heap.size + 3
  b0 : wx.heap[w.heap.size]? = some (.cells A T (0, 0))
  b1 : wx.heap[w.heap.size + 1]? = some (.cells B S (0, 0))
  b2 : wx.heap[w.heap.size + 2]? = some (.cells C U (0, 0))
theorem Bo3.mk' (w : World) (A B C : Array Value) (T S U : TypeId) : Bo3 w (((w.alloc (.cells A T)).alloc (.cells B S)).alloc (.cells C U)) A B C T S U := by
  have h := Bo2.mk' w A B T S
  refine ⟨h.keep.alloc _, by simp, ?_, ?_, ?_⟩
  · rw [Below.heap_alloc _ _ _ (by simp; omega)]; exact h.b0
  · rw [Below.heap_alloc _ _ _ (by simp)]; exact h.b1
  · have := heap_alloc_new ((w.alloc (.cells A T)).alloc (.cells B S)) (.cells C U)
    rwa [World.size_alloc, World.size_alloc] at this
set_option maxRecDepth 100000 in
set_option maxHeartbeats 8000000 in
theorem call_of {l : List Dc} {fs : List Fn} {N : Nat} (hP : Pr l fs) (ih : EvalC l fs N) : CallC l fs N := by
  intro be Bd dv fv G w most c o os hep vs vv hvv f hf hvt hos hN
  have HP := Lib.hid hP
  have IH := Lib.hid ih
  have E0 := Lib.hid hep.ev
  have HD := Lib.hid hep.hd
  have HF := Lib.hid hep.hf
  have HG := Lib.hid hep.hG
  have hmm := hep.hm
  have HV := Lib.hid hvv
  have HT := Lib.hid hvt
  have blt := hep.ev.blt
  obtain ⟨da, dc, rfl, _⟩ := decls_form hep.hd
  obtain ⟨fa, fc, rfl, _⟩ := funcs_form hep.hf
  obtain ⟨va, vc, rfl, _⟩ := vals_form hvv
  clear hP ih hep hvv hvt
  go_enter Tryd.func65, Tryd.ntmps65
  go_upto_region 0 with fail
  go_cut [5, 8] (fun s5 s8 wx => s5 = .pointer (some ⟨w.heap.size, 0, none⟩) ∧ s8 = .pointer (some ⟨w.heap.size + 1, 0, none⟩) ∧ Bo2 w wx #[.slice da l.length dc, .slice fa fs.length fc] #[.int .i64 0, .slice none 0 0] 50 79)
  case first =>
    go_wp2_with fail
    go_meet
    exact ⟨rfl, rfl, Bo2.mk' _ _ _ _ _⟩
  case rest =>
    obtain ⟨rfl, rfl, hbo⟩ := hcut
    have BO := Lib.hid hbo
    have E1 := Lib.hid (E0.out.keep0 hbo.keep)
    obtain ⟨⟨k0, k1, k2, k3⟩, g0, g1, g2, g3⟩ := blk4 E1.out.blk
    have hsz := hbo.size
    obtain ⟨⟨q0, q1⟩, _⟩ := blk2 hbo.b0
    obtain ⟨⟨z0, z1⟩, y0, y1⟩ := blk2 hbo.b1
    clear hbo
    have hbz : w.heap.size + 1 ∉ be :: ob o := fun hm => by have := E0.out.mlt _ hm; omega
    have hbp : w.heap.size ∉ be :: ob o := fun hm => by have := E0.out.mlt _ hm; omega
    have HBZ := Lib.hid hbz
    have HBP := Lib.hid hbp
    clear hbz hbp
    by_cases hcm : c = most
    · subst hcm
      have KB := Lib.hid (St.setBe (be := be) (o := o) (w := wc) 2 (.bool true))
      have z2 := KB.out.keep.cellEq z0 HBZ.out
      have z3 := KB.out.keep.cellEq z1 HBZ.out
      go_wp2
      go_region
      all_goals
        go_wp2
        refine bodyPost_ret (v := .agg #[.int .i64 0, .slice none 0 0]) (by simp [results, Tryd.results65, go_sem, z2, z3]) rfl (EvK.drew (evk_post (w0 := wc) (W := wc.setCell ⟨be, 2, none⟩ (.bool true)) (k := w.heap.size + 1) (x := .mk 0 []) (a := none) (cap := 0) BO.out.keep (by omega) (by omega) E0.out KB.out E1.out.spend (Rep.nil _ _ _ _ _ (by omega)) (by simp) (by omega) (by omega) (by omega)))
    · have hcb : ((c : Int) == (most : Int)) = false := by simp; omega
      go_wp2
      go_region
      all_goals
        go_wp2
        obtain ⟨W, hW⟩ : ∃ W, W = (wc.setCell ⟨be, 1, none⟩ (.int .i64 ((c : Int) + 1))).drew := ⟨_, rfl⟩
        rw [← hW]
        have S2 := Lib.hid (show St be o wc o W from by rw [hW]; exact (St.setBe 1 _).trans (St.of0 (Keep.refl _ _).drew))
        have E2 := Lib.hid (show Ev be Bd W most (c + 1) false o os from by rw [hW]; exact E1.out.more.keep0 (Keep.refl _ _).drew)
        have hsW := S2.out.keep.size
        have q2 := S2.out.keep.cellEq q0 HBP.out
        have q3 := S2.out.keep.cellEq q1 HBP.out
        clear hW q0 q1 z0 z1 y0 y1 k0 k1 k2 k3 g0 g1 g2 g3
        have HF2 := Lib.hid (S2.out.rep ((rep_addG HF.out (k := w.heap.size + 1) (by omega)).keep0 BO.out.keep))
        have HD2 := Lib.hid (S2.out.rep ((rep_addG HD.out (k := w.heap.size + 1) (by omega)).keep0 BO.out.keep))
        have HV2 := Lib.hid (S2.out.rep ((rep_addG HV.out (k := w.heap.size + 1) (by omega)).keep0 BO.out.keep))
        obtain ⟨bf, of, pa, pc, ka, kc, rfl, hbf, _, _, f2, f3, f4, _, rk⟩ := funcs_at HF2.out hf
        have HBN := Lib.hid (funcs_blk HF2.out (by omega))
        have hbfn : bf ≠ w.heap.size + 1 := fun h => HBN.out (by simp [h])
        have RK := Lib.hid rk
        have HTB := Lib.hid (HP.out.hb f hf)
        have hesz := HTB.out.2
        have hpl := HP.out.hs.plen f (by rw [sgs_len]; exact hf)
        have HPL := Lib.hid hpl
        have HEP := Lib.hid (show Ep be Bd l fs (.slice da l.length dc) (.slice (some ⟨bf, of, none⟩) fs.length fc) ((w.heap.size + 1) :: G) W most (c + 1) o os from ⟨E2.out, HD2.out, HF2.out, fun g hg => by
          rcases List.mem_cons.1 hg with rfl | hg
          · omega
          · have := HG.out g hg; omega, by omega⟩)
        clear rk hpl
        have hf0 : (0 : Int) ≤ (f : Int) := by omega
        have hf1 : (f : Int) < (fs.length : Int) := by omega
        go_region_held3 (fun w' => w'.cell? ⟨w.heap.size, 0, none⟩ = some (.slice da l.length dc) ∧ w'.cell? ⟨w.heap.size, 1, none⟩ = some (.slice (some ⟨bf, of, none⟩) fs.length fc) ∧ w'.cell? ⟨bf, of + f * 5 + 2, none⟩ = some (.int .i64 fs[f].body.op) ∧ w'.cell? ⟨bf, of + f * 5 + 3, none⟩ = some (.int .i64 fs[f].body.num) ∧ w'.cell? ⟨bf, of + f * 5 + 4, none⟩ = some (.slice ka fs[f].body.kids.length kc))
          (first | exact ⟨q2, q3, f2, f3, f4⟩ | exact ⟨q4, q5, f5, f6, f7⟩ | (have KS := Keep.put2' w5 (w.heap.size + 1) (.int .i64 v.num) (.slice av v.kids.length cv); exact ⟨KS.cellEq q4 (by simp), KS.cellEq q5 (by simp), KS.cellEq f5 (by simpa using hbfn), KS.cellEq f6 (by simpa using hbfn), KS.cellEq f7 (by simpa using hbfn)⟩) | go_keep)
          (first
          | (go_at_call 33
             refine (IH.out be Bd _ _ ((w.heap.size + 1) :: G) W.drew most (c + 1) o os (Ep.drew HEP.out) fs[f].body ka kc RK.out.drew vs _ HV2.out.drew _ _ HT.out HTB.out.1 (by have := HPL.out; simp [sgs] at this; omega) (by omega) (by omega)).mono ?_
             rintro e w5 ⟨v, av, cv, c5, sp5, o5, os5, rfl, hty, hst, hev, hc5, hm5, ho5, hrv⟩
             have S5 := Lib.hid (show St be o wc o5 w5 from S2.out.trans ((St.of0 (Keep.refl _ _).drew).trans hst))
             have E5 := Lib.hid hev
             have TY := Lib.hid hty
             have R5 := Lib.hid hrv
             have hk5 := hst.keep
             have q4 := hk5.cellEq (w := W.drew) q2 HBP.out
             have q5 := hk5.cellEq (w := W.drew) q3 HBP.out
             have hbb : bf ∉ be :: ob o := fun hm => HBN.out (by rcases List.mem_cons.1 hm with h | h
                                                                 · simp [h]
                                                                 · simp [h])
             have f5 := hk5.cellEq (w := W.drew) f2 hbb
             have f6 := hk5.cellEq (w := W.drew) f3 hbb
             have f7 := hk5.cellEq (w := W.drew) f4 hbb
             obtain ⟨⟨z0, z1⟩, y0, y1⟩ := blk2 ((S5.out.keep.block (w.heap.size + 1) (by have := BO.out.size; omega) HBZ.out).trans BO.out.b1)
             clear hst hev hty hrv hk5 hbb))
        all_goals
          go_wp2
          refine bodyPost_ret (v := .agg #[.int .i64 v.num, .slice av v.kids.length cv]) (by simp [results, Tryd.results65, go_sem, z0, z1]) rfl (evk_post (w0 := wc) (W := w5) (k := w.heap.size + 1) BO.out.keep (by omega) (by have := BO.out.size; omega) E0.out S5.out E5.out R5.out TY.out (by omega) (by omega) (by omega))
end Go.Proofs.YtnjincgemmgllaaDoor
