/- operate, all operations; plain facts for the walk of eval. No walk here. -/
import Derived.Test.YtnjincgemmgllaaDoorEvG
namespace Go.Proofs.YtnjincgemmgllaaDoor
open Go.RowKit

theorem operate_of {l : List Dc} {fs : List Fn} {N : Nat} (hP : Pr l fs) (ih : EvalC l fs N) {op num t : Int} {vs : List V} (h : OpV l (sgs fs) op num vs t) : OpC op num vs l fs t 1 N := by
  cases h with
  | int h0 h1 => exact op_int hP h0 h1
  | @prim op a b h ha hb =>
    obtain ⟨h1, h2⟩ := h
    rcases (show op = 1 ∨ op = 2 ∨ op = 3 ∨ op = 4 by omega) with rfl | rfl | rfl | rfl
    · exact op_prim1 hP ha hb
    · exact op_prim2 hP ha hb
    · exact op_prim3 hP ha hb
    · exact op_prim4 hP ha hb
  | print ha => exact op_print hP ha
  | con hc hv => exact op_con hP hc hv
  | @call f vs hf hv =>
    have hf' : f < fs.length := by rw [sgs_len] at hf; exact hf
    rw [sgs_at hf'] at hv ⊢
    exact op_call hP ih hf' hv
  | close hf hl hk ht h0 => exact op_close hP (.close hf hl hk ht h0)
  | apply ht ha hb => exact op_apply hP ih ht ha hb

/- eval at one expression -/
def EvAt (l : List Dc) (fs : List Fn) (N : Nat) (x : Ex) (vars : List Int) (t : Int) : Prop := ∀ (be Bd : Nat) (dv fv : Value) (G : List Nat) (w : World) (most c : Nat) (o : Value) (os : List Int), Ep be Bd l fs dv fv G w most c o os →
  ∀ (xa : Option Addr) (xc : Nat), Rep (be :: (ob o ++ G)) w (kidsD x.kids) (.slice xa x.kids.length xc) → ∀ (vs : List V) (vv : Value), Rep (be :: (ob o ++ G)) w (valsD vs) vv →
  VTs l (sgs fs) vs vars → vars.length + 3 * esz x ≤ 200 → os.length + esz x + 31 * (most - c) ≤ 100000 → esz x + 31 * (most - c) < N + 1 →
    Calls Tryd.prog 33 #[.pointer (some ⟨be, 0, none⟩), .agg #[dv, fv], .agg #[.int .i64 x.op, .int .i64 x.num, .slice xa x.kids.length xc], vv] w (EvK l fs be Bd G most c os (esz x) t o w)

/- a value in a local variable's block k, after an evaluation -/
structure Bv (l : List Dc) (fs : List Fn) (be Bd : Nat) (G : List Nat) (most c : Nat) (os : List Int) (kk : Nat) (t : Int) (o : Value) (w1 : World) (k : Nat) (wx : World) (v : V) (av : Option Addr) (cv c5 : Nat) (sp5 : Bool) (o5 : Value) (os5 : List Int) : Prop where
  ty : sp5 = false → VT l (sgs fs) v t
  st : St be o w1 o5 wx
  ev : Ev be Bd wx most c5 sp5 o5 os5
  hc : c ≤ c5 ∧ c5 ≤ most
  hos : os5.length ≤ os.length + kk + 31 * (c5 - c)
  k0 : w1.heap.size ≤ k
  k1 : k < wx.heap.size
  blk : wx.heap[k]? = some (.cells #[.int .i64 v.num, .slice av v.kids.length cv] 79 (0, 0))
  rep : Rep (be :: (ob o5 ++ k :: G)) wx (valsD v.kids) (.slice av v.kids.length cv)
  hko : k ∉ ob o5
section
variable {l : List Dc} {fs : List Fn} {be Bd : Nat} {G : List Nat} {most c : Nat} {os : List Int} {kk : Nat} {t : Int} {o : Value} {w1 : World} {k : Nat} {wx wy : World} {v : V} {av : Option Addr} {cv c5 : Nat} {sp5 : Bool} {o5 : Value} {os5 : List Int}
theorem Bv.keep0 (h : Bv l fs be Bd G most c os kk t o w1 k wx v av cv c5 sp5 o5 os5) (hk : Keep [] wx wy) : Bv l fs be Bd G most c os kk t o w1 k wy v av cv c5 sp5 o5 os5 :=
  ⟨h.ty, ⟨h.st.keep.then hk.of0, h.st.at_⟩, h.ev.keep0 hk, h.hc, h.hos, h.k0, Nat.lt_of_lt_of_le h.k1 hk.size, (hk.block k h.k1 (by simp)).trans h.blk, h.rep.keep0 hk, h.hko⟩
/- the call comes first -/
theorem Bv.a {w5 : World} (hs : St be o w1 o5 w5) (ev : Ev be Bd w5 most c5 sp5 o5 os5) (ty : sp5 = false → VT l (sgs fs) v t) (hc : c ≤ c5) (hm : c5 ≤ most) (hos : os5.length ≤ os.length + kk + 31 * (c5 - c))
    (hr : Rep (be :: (ob o5 ++ G)) w5 (valsD v.kids) (.slice av v.kids.length cv)) : Bv l fs be Bd G most c os kk t o w1 w5.heap.size (w5.alloc (.cells #[.int .i64 v.num, .slice av v.kids.length cv] 79)) v av cv c5 sp5 o5 os5 :=
  ⟨ty, ⟨hs.keep.alloc _, hs.at_⟩, ev.keep0 ((Keep.refl _ _).alloc _), ⟨hc, hm⟩, hos, hs.keep.size, by simp, heap_alloc_new w5 _, (rep_addG hr (Nat.le_refl _)).alloc _, fun hm => by have := (ev.olt _ hm).2; omega⟩
/- the block is made first -/
theorem Bv.b {w5 : World} {T : Array Value} {sp0 : Bool} (h0 : Keep [] w1 wx) (hk0 : w1.heap.size ≤ k) (hk1 : k < wx.heap.size) (e0 : Ev be Bd w1 most c sp0 o os) (hb : wx.heap[k]? = some (.cells #[.int .i64 0, .slice none 0 0] 79 (0, 0))) (hs : St be o wx o5 w5) (ev : Ev be Bd w5 most c5 sp5 o5 os5) (ty : sp5 = false → VT l (sgs fs) v t) (hc : c ≤ c5) (hm : c5 ≤ most) (hos : os5.length ≤ os.length + kk + 31 * (c5 - c))
    (hr : Rep (be :: (ob o5 ++ k :: G)) w5 (valsD v.kids) (.slice av v.kids.length cv)) : Bv l fs be Bd G most c os kk t o w1 k (put2 w5 k (.int .i64 v.num) (.slice av v.kids.length cv)) v av cv c5 sp5 o5 os5 := by
  have hnb : k ∉ be :: ob o := fun hm => by have := e0.mlt _ hm; omega
  have hko : k ∉ ob o5 := fun hm => by
    rcases hs.at_ k hm with h1 | h1
    · exact hnb (by simp [h1])
    · omega
  have hbe : be ≠ k := fun h => hnb (by simp [h])
  refine ⟨ty, ⟨(h0.of0.then hs.keep).trans (Keep.put2' w5 k _ _) (fun m hm => .inr (by simp at hm; omega)), fun g hg => ?_⟩, ev.keepM (Keep.put2' w5 k _ _) (fun m hm => ?_), ⟨hc, hm⟩, hos, hk0, ?_, put2_block ((hs.keep.block k hk1 hnb).trans hb), hr.keep (Keep.put2' w5 k _ _) fun m hm => .inl (by simp at hm; subst hm; simp), hko⟩
  · rcases hs.at_ g hg with h1 | h1
    · exact .inl h1
    · have := h0.size; exact .inr (by omega)
  · simp at hm; subst hm
    exact ⟨fun h => hbe h.symm, hko⟩
  · have := hs.keep.size; have := (Keep.put2' w5 k (.int .i64 v.num) (.slice av v.kids.length cv)).size; omega
end
/- a row of values that the walk owns, over an evaluation -/
theorem own_st {be B : Nat} {o o' s : Value} {w w' : World} {G : List Nat} {E : TypeId} {es : List (List D)} (h : Own (be :: (ob o ++ G)) B w E 2 s es) (hs : St be o w o' w') : Own (be :: (ob o' ++ G)) B w' E 2 s es := by
  have hlt := h.lt
  obtain ⟨⟨cs, hr, hc⟩, hsz, ha⟩ := h
  have hn : ∀ g, g ∈ ob s → g ∉ be :: ob o := fun g hg hm => ha g hg (by
    rcases List.mem_cons.1 hm with h | h
    · simp [h]
    · simp [h])
  refine ⟨⟨cs, ⟨hr.1, ?_⟩, hc.map fun d v hh => Rep.keepG (fun k hk hkn => ?_) d v hh⟩, hsz, fun g hg hm => ?_⟩
  · rcases hr.2 with h1 | ⟨g, cap, cur, rfl, hb, hh, r⟩
    · exact .inl h1
    · refine .inr ⟨g, cap, cur, rfl, hb, ?_, r⟩
      have hg : g ∈ ob (.slice (some ⟨g, 0, none⟩) es.length cap) := by simp [ob, Value.ownBlock]
      rw [hs.keep.block g (hlt g hg).2 (hn g hg)]
      exact hh
  · simp only [List.mem_cons, List.mem_append, not_or] at hkn
    obtain ⟨h1, h2, h3, h4⟩ := hkn
    refine ⟨hs.keep.block k hk (by simp [h2, h3]), ?_, Nat.lt_of_lt_of_le hk hs.keep.size⟩
    simp only [List.mem_cons, List.mem_append, not_or]
    exact ⟨h1, h2, fun h5 => by rcases hs.at_ k h5 with h6 | h6
                                · exact h3 h6
                                · omega, h4⟩
  · simp only [List.mem_cons, List.mem_append] at hm
    rcases hm with h | h | h
    · exact hn g hg (by simp [h])
    · rcases hs.at_ g h with h6 | h6
      · exact hn g hg (by simp [h6])
      · have := (hlt g hg).2; omega
    · exact ha g hg (by simp [h])
theorem val_new {G : List Nat} {w : World} {x : V} {a : Option Addr} {cap : Nat} {E : TypeId} (h : Rep G w (valsD x.kids) (.slice a x.kids.length cap)) (hG : ∀ g, g ∈ G → g < w.heap.size) :
    Rep G (w.alloc (.cells #[.int .i64 x.num, .slice a x.kids.length cap] E)) (valsD [x]) (.slice (some ⟨w.heap.size, 0, none⟩) 1 1) :=
  Rep.new (es := [encV x]) (fun e he => by simp at he; subst he; exact encV_len x) (by rw [encV_eq]; exact ⟨rfl, h, trivial⟩) hG (by simp)
theorem eszL_take {l : List Ex} {k : Nat} (h : k < l.length) : eszL (l.take (k + 1)) = eszL (l.take k) + esz l[k] := by
  induction l generalizing k with
  | nil => simp at h
  | cons a l ih =>
    cases k with
    | zero => simp [eszL]
    | succ k =>
      have := ih (k := k) (by simpa using h)
      simp only [List.take_succ_cons, eszL, List.getElem_cons_succ] at this ⊢
      omega
theorem eszL_take_le (l : List Ex) (k : Nat) : eszL (l.take k) ≤ eszL l := by
  induction l generalizing k with
  | nil => simp
  | cons a l ih =>
    cases k with
    | zero => simp [eszL]
    | succ k => have := ih k; simp only [List.take_succ_cons, eszL]; omega
theorem esz_eq (x : Ex) : esz x = 1 + eszL x.kids := by cases x with | mk o n k => rw [esz]; rfl
theorem eszL_len (l : List Ex) : l.length ≤ eszL l := by
  induction l with
  | nil => simp [eszL]
  | cons a l ih => have := esz_eq a; simp only [List.length_cons, eszL]; omega
/- what a choice does with the value of its first kid -/
def Chs (l : List Dc) (fs : List Fn) (vars : List Int) (op num : Int) (ks : List Ex) (d t : Int) : Prop := ∀ v, VT l (sgs fs) v d → ∃ (j : Nat) (us : List Int) (h : j < ks.length), HasTy l (sgs fs) (vars ++ us) ks[j] t ∧ VTs l (sgs fs) v.kids us ∧ us.length ≤ 3 ∧ esz ks[j] + 2 ≤ 1 + eszL ks ∧ (∀ a, ks[0]? = some a → esz a + esz ks[j] + 1 ≤ 1 + eszL ks) ∧
  ∀ (G : List Nat) (w : World) (dv fv kv vk : Value), Rep G w (decls l) dv → Calls Tryd.prog 48 #[.agg #[dv, fv], .agg #[.int .i64 op, .int .i64 num, kv], .agg #[.int .i64 v.num, vk]] w (fun e w' => e = .returned (.int .i64 (j : Int)) ∧ Keep [] w w')
theorem chs_if {l : List Dc} {fs : List Fn} {vars : List Int} {a b c : Ex} {t : Int} (hb : HasTy l (sgs fs) vars b t) (hc : HasTy l (sgs fs) vars c t) : Chs l fs vars 7 0 [a, b, c] 0 t := by
  intro v hv
  have h1 := esz_eq a
  have h2 := esz_eq b
  have h3 := esz_eq c
  by_cases h : v.num = 0
  · refine ⟨2, [], by simp, by simpa using hc, by rw [hv.num_in.2.2]; exact .nil, by simp, by simp [eszL]; omega, fun a' ha => ?_, fun G w dv fv kv vk _ => ?_⟩
    · simp at ha; subst ha; simp [eszL]; omega
    · have := chosen_if dv fv 0 v.num kv vk w
      rwa [if_pos h] at this
  · refine ⟨1, [], by simp, by simpa using hb, by rw [hv.num_in.2.2]; exact .nil, by simp, by simp [eszL]; omega, fun a' ha => ?_, fun G w dv fv kv vk _ => ?_⟩
    · simp at ha; subst ha; simp [eszL]; omega
    · have := chosen_if dv fv 0 v.num kv vk w
      rwa [if_neg h] at this
theorem chs_match {l : List Dc} {fs : List Fn} (hP : Pr l fs) {vars : List Int} {a : Ex} {kids : List Ex} {d t : Int} (hn : consL l d ≠ []) (hl : kids.length = (consL l d).length)
      (hk : ∀ i (h1 : i < kids.length) (h2 : i < (consL l d).length), HasTy l (sgs fs) (vars ++ cflds l (consL l d)[i]) kids[i] t) (hk9 : kids.length ≤ 1000) (hf3 : ∀ c ∈ consL l d, (cflds l c).length ≤ 3) : Chs l fs vars 8 d (a :: kids) d t := by
  intro v hv
  obtain ⟨h1, h2, h3, i, h4, h5, h6⟩ := hv.data hn
  have e1 := esz_eq a
  have hik : i < kids.length := by omega
  have e2 := eszL_at hik
  refine ⟨1 + i, cflds l v.num, by simp; omega, ?_, h3, hf3 _ (by rw [← h6]; exact List.getElem_mem h5), ?_, fun a' ha => ?_, fun G w dv fv kv vk hd => ?_⟩
  · have := hk i (by omega) h5
    rw [h6] at this
    simpa [Nat.add_comm 1 i] using this
  · simp only [Nat.add_comm 1 i, List.getElem_cons_succ, eszL]; omega
  · simp at ha; subst ha
    simp only [Nat.add_comm 1 i, List.getElem_cons_succ, eszL]; omega
  · have := chosen_match dv fv l d i v.num kv vk w hd h1 h2 hP.hl.bound h4 (by omega)
    simpa using this
end Go.Proofs.YtnjincgemmgllaaDoor
