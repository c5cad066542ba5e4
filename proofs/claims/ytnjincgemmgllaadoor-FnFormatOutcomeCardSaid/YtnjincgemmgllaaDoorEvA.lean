/- Values of the reference's evaluation as plain data, their types; the state of an evaluation in memory. No walk here. -/
import Derived.Test.YtnjincgemmgllaaDoorGBx
namespace Go.Proofs.YtnjincgemmgllaaDoor
open Go.RowKit

inductive V where
  | mk (num : Int) (kids : List V)
def V.num : V → Int | .mk n _ => n
def V.kids : V → List V | .mk _ k => k
mutual
def encV : V → List D
  | .mk num kids => [.int num, .arr 2 (encVs kids)]
def encVs : List V → List (List D)
  | [] => []
  | e :: es => encV e :: encVs es
end
theorem encVs_map : ∀ l : List V, encVs l = l.map encV
  | [] => rfl
  | e :: es => by rw [encVs, encVs_map es]; rfl
def valsD (l : List V) : D := .arr 2 (l.map encV)
theorem encV_eq (e : V) : encV e = [.int e.num, valsD e.kids] := by
  cases e with
  | mk n k => rw [encV, encVs_map]; rfl
theorem encV_len (e : V) : (encV e).length = 2 := by rw [encV_eq]; rfl
theorem encV_size (l : List V) : ∀ f ∈ l.map encV, f.length = 2 := by
  intro f hf
  obtain ⟨e, _, rfl⟩ := List.mem_map.1 hf
  exact encV_len e
theorem vals_form {G : List Nat} {w : World} {l : List V} {v : Value} (h : Rep G w (valsD l) v) : ∃ a cap, v = .slice a l.length cap ∧ l.length ≤ cap ∧ cap ≤ 9223372036854775807 := by
  obtain ⟨a, cap, hv, hl, hc⟩ := Rep.form h
  rw [List.length_map] at hv hl
  exact ⟨a, cap, hv, hl, hc⟩
theorem vals_at {G : List Nat} {w : World} {l : List V} {a : Option Addr} {n cap : Nat} (h : Rep G w (valsD l) (.slice a n cap)) {i : Nat} (hi : i < l.length) :
    ∃ b off ca cc, a = some ⟨b, off, none⟩ ∧ b ∉ G ∧ b < w.heap.size ∧ w.cell? ⟨b, off + i * 2, none⟩ = some (.int .i64 l[i].num) ∧ w.cell? ⟨b, off + i * 2 + 1, none⟩ = some (.slice ca l[i].kids.length cc) ∧ Rep G w (valsD l[i].kids) (.slice ca l[i].kids.length cc) := by
  obtain ⟨b, off, ha, hb, hlt, _, hl⟩ := Rep.at_ h (i := i) (by simpa using hi)
  rw [List.getElem_map, encV_eq] at hl
  simp only [RepL, Rep] at hl
  obtain ⟨⟨c0, h0, rfl⟩, ⟨c2, h2, r2⟩, _⟩ := hl
  have r3 : Rep G w (valsD l[i].kids) c2 := r2
  obtain ⟨ca, cc, rfl, _⟩ := vals_form r3
  exact ⟨b, off, ca, cc, ha, hb, hlt, h0, h2, r3⟩
/- as kids_at, with the block outside of G -/
theorem kids_at' {G : List Nat} {w : World} {l : List Ex} {a : Option Addr} {n cap : Nat} (h : Rep G w (kidsD l) (.slice a n cap)) {i : Nat} (hi : i < l.length) :
    ∃ b off ca cc, a = some ⟨b, off, none⟩ ∧ b ∉ G ∧ b < w.heap.size ∧ w.cell? ⟨b, off + i * 3, none⟩ = some (.int .i64 l[i].op) ∧ w.cell? ⟨b, off + i * 3 + 1, none⟩ = some (.int .i64 l[i].num) ∧
      w.cell? ⟨b, off + i * 3 + 2, none⟩ = some (.slice ca l[i].kids.length cc) ∧ Rep G w (kidsD l[i].kids) (.slice ca l[i].kids.length cc) := by
  obtain ⟨b, off, ca, cc, ha, hlt, h1, h2, h3, h4⟩ := kids_at h hi
  obtain ⟨b', off', ha', hb', _⟩ := Rep.at_ h (i := i) (by simpa using hi)
  rw [ha] at ha'
  injection ha' with e
  injection e with e1 e2
  subst e1
  exact ⟨b, off, ca, cc, ha, hb', hlt, h1, h2, h3, h4⟩
theorem funcs_blk {G : List Nat} {w : World} {l : List Fn} {b off n cap : Nat} (h : Rep G w (funcsD l) (.slice (some ⟨b, off, none⟩) n cap)) (hl : 0 < l.length) : b ∉ G := by
  obtain ⟨b', off', ha', hb', _⟩ := Rep.at_ h (i := 0) (by simpa using hl)
  injection ha' with e
  injection e with e1 e2
  subst e1
  exact hb'

/- types of values -/
inductive VT (l : List Dc) (sg : List Sg) : V → Int → Prop
  | int {n : Int} (h0 : -999 ≤ n) (h1 : n ≤ 999) : VT l sg (.mk n []) 0
  | con {c : Int} {kids : List V} (hc : 0 < ctyp l c) (hl : kids.length = (cflds l c).length) (hk : ∀ i (h1 : i < kids.length) (h2 : i < (cflds l c).length), VT l sg kids[i] (cflds l c)[i]) : VT l sg (.mk c kids) (ctyp l c)
  | close {f : Nat} {kids : List V} {t : Int} (hf : f < sg.length) (hl : kids.length + 1 = (sgAt sg f).params.length) (hk : ∀ i (h1 : i < kids.length) (h2 : i < (sgAt sg f).params.length), VT l sg kids[i] (sgAt sg f).params[i])
      (ht : t = aof l ((sgAt sg f).params.getD kids.length 0) (sgAt sg f).result) (h0 : 0 < t) : VT l sg (.mk f kids) t
def VTs (l : List Dc) (sg : List Sg) (vs : List V) (ts : List Int) : Prop := vs.length = ts.length ∧ ∀ i (h1 : i < vs.length) (h2 : i < ts.length), VT l sg vs[i] ts[i]
section
variable {l : List Dc} {sg : List Sg} {vs us : List V} {ts rs : List Int} {v : V} {t : Int}
theorem VTs.nil : VTs l sg [] [] := ⟨rfl, fun i h => by simp at h⟩
theorem VTs.one (h : VT l sg v t) : VTs l sg [v] [t] := ⟨rfl, fun i h1 h2 => by
  have : i = 0 := by simp at h1; omega
  subst this; exact h⟩
theorem VTs.app (h : VTs l sg vs ts) (k : VTs l sg us rs) : VTs l sg (vs ++ us) (ts ++ rs) := ⟨by simp [h.1, k.1], fun i h1 h2 => by
  have e := h.1
  rcases Nat.lt_or_ge i vs.length with hi | hi
  · rw [List.getElem_append_left hi, List.getElem_append_left (by omega)]
    exact h.2 i hi (by omega)
  · rw [List.getElem_append_right hi, List.getElem_append_right (by omega)]
    simp only [e]
    exact k.2 _ _ _⟩
theorem VTs.snoc {k : Nat} (h : VTs l sg vs (ts.take k)) (hk : k < ts.length) (hv : VT l sg v ts[k]) : VTs l sg (vs ++ [v]) (ts.take (k + 1)) := by
  rw [take_snoc' _ _ hk]
  exact h.app (.one hv)
theorem VT.num_in (h : VT l sg v 0) : -999 ≤ v.num ∧ v.num ≤ 999 ∧ v.kids = [] := by
  generalize ht : (0 : Int) = t at h
  cases h with
  | int h0 h1 => exact ⟨h0, h1, rfl⟩
  | con hc _ _ => omega
  | close _ _ _ _ h0 => omega
theorem aof_isArr {l : List Dc} {f t : Int} (h : 0 < aof l f t) : isArr l (aof l f t) = true ∧ (dat l (aof l f t - 1).toNat).fr = f ∧ (dat l (aof l f t - 1).toNat).to = t := by
  rcases aof_cases l f t with h1 | ⟨i, hi, h1, h2⟩
  · omega
  · rw [h1]
    simp only [isAr, Bool.and_eq_true, beq_iff_eq] at h2
    refine ⟨?_, ?_, ?_⟩
    · simp only [isArr, Bool.and_eq_true, beq_iff_eq]
      exact ⟨inB_true (by omega) (by omega), by rw [show ((i : Int) + 1 - 1).toNat = i by omega]; exact h2.1.1⟩
    · rw [show ((i : Int) + 1 - 1).toNat = i by omega]; exact h2.1.2
    · rw [show ((i : Int) + 1 - 1).toNat = i by omega]; exact h2.2
theorem ctyp_cons {l : List Dc} {c : Int} (h : 0 < ctyp l c) : isArr l (ctyp l c) = false ∧ 1 ≤ ctyp l c ∧ ctyp l c ≤ l.length ∧ fcon l (ctyp l c - 1).toNat ≤ c ∧ ∃ i : Nat, c = fcon l (ctyp l c - 1).toNat + i ∧ ∃ h : i < (consL l (ctyp l c)).length, (consL l (ctyp l c))[i] = c := by
  rcases ctyp_cases l c with h1 | ⟨i, hi, h1, h2⟩
  · omega
  · rw [h1]
    have hin : inB 1 ((i : Int) + 1) l.length = true := inB_true (by omega) (by omega)
    have e1 : ((i : Int) + 1 - 1).toNat = i := by omega
    rw [cin, nco_at hi] at h2
    obtain ⟨h3, h4⟩ := inB_of h2
    refine ⟨?_, by omega, by omega, by rw [e1]; exact h3, (c - fcon l i).toNat, by rw [e1]; omega, ?_, ?_⟩
    · rw [isArr, hin, e1, dat_at hi, Bool.true_and, beq_eq_false_iff_ne]
      omega
    · simp only [consL, hin, if_true, e1, dat_at hi, List.length_map, List.length_range]
      omega
    · simp only [consL, hin, if_true, e1, dat_at hi, List.getElem_map, List.getElem_range]
      omega
theorem isArr_cons {l : List Dc} {t : Int} (h : isArr l t = true) : consL l t = [] := by
  simp only [isArr, Bool.and_eq_true, beq_iff_eq] at h
  rw [consL, if_pos h.1, h.2]; rfl
/- a value of a data type -/
theorem VT.data (h : VT l sg v t) (hn : consL l t ≠ []) : 1 ≤ t ∧ t ≤ l.length ∧ VTs l sg v.kids (cflds l v.num) ∧ ∃ i : Nat, v.num = fcon l (t - 1).toNat + i ∧ ∃ h : i < (consL l t).length, (consL l t)[i] = v.num := by
  cases h with
  | int h0 h1 => exact absurd (by simp [consL, inB]) hn
  | con hc hl hk =>
    obtain ⟨_, h1, h2, _, h3⟩ := ctyp_cons hc
    exact ⟨h1, h2, ⟨hl, hk⟩, h3⟩
  | close hf hl hk ht h0 =>
    rw [ht] at h0 hn
    exact absurd (isArr_cons (aof_isArr h0).1) hn
/- a closure -/
theorem VT.clos (h : VT l sg v t) (ha : isArr l t = true) : ∃ f : Nat, v.num = f ∧ f < sg.length ∧ (sgAt sg f).result = (dat l (t - 1).toNat).to ∧ ∀ u, VT l sg u (dat l (t - 1).toNat).fr → VTs l sg (v.kids ++ [u]) (sgAt sg f).params := by
  cases h with
  | int h0 h1 => simp [isArr, inB] at ha
  | con hc hl hk => rw [(ctyp_cons hc).1] at ha; cases ha
  | @close f kids _ hf hl hk ht h0 =>
    rw [ht] at h0
    obtain ⟨_, h2, h3⟩ := aof_isArr h0
    refine ⟨f, rfl, hf, by rw [ht, h3], fun u hu => ⟨by simp [V.kids, hl], fun i h4 h5 => ?_⟩⟩
    rw [ht, h2] at hu
    have h6 : i < (kids ++ [u]).length := h4
    show VT l sg ((kids ++ [u])[i]'h6) _
    rcases Nat.lt_or_ge i kids.length with hi | hi
    · rw [List.getElem_append_left hi]; exact hk i hi h5
    · have e : i = kids.length := by simp at h6; omega
      subst e
      rw [List.getElem_append_right (Nat.le_refl _)]
      simpa [h5] using hu
end

/- an operation whose operands are evaluated -/
inductive OpV (l : List Dc) (sg : List Sg) : Int → Int → List V → Int → Prop
  | int {n : Int} (h0 : -999 ≤ n) (h1 : n ≤ 999) : OpV l sg 0 n [] 0
  | prim {op : Int} {a b : V} (h : 1 ≤ op ∧ op ≤ 4) (ha : VT l sg a 0) (hb : VT l sg b 0) : OpV l sg op 0 [a, b] 0
  | print {a : V} (ha : VT l sg a 0) : OpV l sg 5 0 [a] 0
  | con {c : Int} {vs : List V} (hc : 0 < ctyp l c) (hv : VTs l sg vs (cflds l c)) : OpV l sg 6 c vs (ctyp l c)
  | call {f : Nat} {vs : List V} (hf : f < sg.length) (hv : VTs l sg vs (sgAt sg f).params) : OpV l sg 9 f vs (sgAt sg f).result
  | close {f : Nat} {vs : List V} {t : Int} (hf : f < sg.length) (hl : vs.length + 1 = (sgAt sg f).params.length) (hk : ∀ i (h1 : i < vs.length) (h2 : i < (sgAt sg f).params.length), VT l sg vs[i] (sgAt sg f).params[i])
      (ht : t = aof l ((sgAt sg f).params.getD vs.length 0) (sgAt sg f).result) (h0 : 0 < t) : OpV l sg 10 f vs t
  | apply {a b : V} {t : Int} (ht : isArr l t = true) (ha : VT l sg a t) (hb : VT l sg b (dat l (t - 1).toNat).fr) : OpV l sg 11 0 [a, b] (dat l (t - 1).toNat).to
/- what eval does with an expression -/
structure Opd (l : List Dc) (sg : List Sg) (vars : List Int) (x : Ex) (t : Int) (ts : List Int) : Prop where
  len : x.kids.length = ts.length
  kids : ∀ i (h1 : i < x.kids.length) (h2 : i < ts.length), HasTy l sg vars x.kids[i] ts[i]
  op : ∀ vs, VTs l sg vs ts → OpV l sg x.op x.num vs t
inductive How (l : List Dc) (sg : List Sg) (vars : List Int) (t : Int) : Ex → Prop
  | var {i : Nat} (h : i < vars.length) (ht : vars[i] = t) : How l sg vars t (.mk 12 i [])
  | lett {a b : Ex} {u : Int} (ha : HasTy l sg vars a u) (hb : HasTy l sg (vars ++ [u]) b t) : How l sg vars t (.mk 13 0 [a, b])
  | iff {a b c : Ex} (ha : HasTy l sg vars a 0) (hb : HasTy l sg vars b t) (hc : HasTy l sg vars c t) : How l sg vars t (.mk 7 0 [a, b, c])
  | matc {a : Ex} {kids : List Ex} {d : Int} (hn : consL l d ≠ []) (ha : HasTy l sg vars a d) (hl : kids.length = (consL l d).length)
      (hk : ∀ i (h1 : i < kids.length) (h2 : i < (consL l d).length), HasTy l sg (vars ++ cflds l (consL l d)[i]) kids[i] t) : How l sg vars t (.mk 8 d (a :: kids))
  | op {x : Ex} {ts : List Int} (h12 : x.op ≠ 12) (h13 : x.op ≠ 13) (h7 : x.op ≠ 7) (h8 : x.op ≠ 8) (ho : Opd l sg vars x t ts) : How l sg vars t x
theorem vts1 {l : List Dc} {sg : List Sg} {a : Int} {vs : List V} (h : VTs l sg vs [a]) : ∃ v, vs = [v] ∧ VT l sg v a := by
  obtain ⟨h1, h2⟩ := h
  match vs, h1, h2 with
  | [v], _, h2 => exact ⟨v, rfl, h2 0 (by simp) (by simp)⟩
theorem vts2 {l : List Dc} {sg : List Sg} {a b : Int} {vs : List V} (h : VTs l sg vs [a, b]) : ∃ v u, vs = [v, u] ∧ VT l sg v a ∧ VT l sg u b := by
  obtain ⟨h1, h2⟩ := h
  match vs, h1, h2 with
  | [v, u], _, h2 => exact ⟨v, u, rfl, h2 0 (by simp) (by simp), h2 1 (by simp) (by simp)⟩
theorem vts0 {l : List Dc} {sg : List Sg} {vs : List V} (h : VTs l sg vs []) : vs = [] := List.eq_nil_of_length_eq_zero h.1
theorem two {α : Type} {P : Nat → α → Int → Prop} {a b : α} {s t : Int} (h0 : P 0 a s) (h1 : P 1 b t) : ∀ i (g1 : i < [a, b].length) (g2 : i < [s, t].length), P i [a, b][i] [s, t][i]
  | 0, _, _ => h0
  | 1, _, _ => h1
  | n + 2, h, _ => by simp at h; omega
theorem HasTy.how {l : List Dc} {sg : List Sg} {vars : List Int} {x : Ex} {t : Int} (h : HasTy l sg vars x t) : How l sg vars t x := by
  cases h with
  | @int _ n h0 h1 => exact .op (ts := []) (by simp [Ex.op]) (by simp [Ex.op]) (by simp [Ex.op]) (by simp [Ex.op]) ⟨rfl, fun i h => by simp [Ex.kids] at h, fun vs hv => by rw [vts0 hv]; exact .int h0 h1⟩
  | @var _ i h => exact .var h rfl
  | @prim _ op a b h ha hb =>
    refine .op (ts := [0, 0]) (by simp [Ex.op]; omega) (by simp [Ex.op]; omega) (by simp [Ex.op]; omega) (by simp [Ex.op]; omega) ⟨rfl, two (P := fun _ y u => HasTy l sg vars y u) ha hb, fun vs hv => ?_⟩
    obtain ⟨v, u, rfl, hv, hu⟩ := vts2 hv
    exact .prim h hv hu
  | @print _ a ha =>
    refine .op (ts := [0]) (by simp [Ex.op]) (by simp [Ex.op]) (by simp [Ex.op]) (by simp [Ex.op]) ⟨rfl, fun i h1 h2 => ?_, fun vs hv => ?_⟩
    · have : i = 0 := by simp at h2; omega
      subst this; exact ha
    · obtain ⟨v, rfl, hv1⟩ := vts1 hv
      exact .print hv1
  | @con _ c kids hc hl hk => exact .op (ts := cflds l c) (by simp [Ex.op]) (by simp [Ex.op]) (by simp [Ex.op]) (by simp [Ex.op]) ⟨hl, hk, fun vs hv => .con hc hv⟩
  | @lett _ a b u _ _ ha hb => exact .lett ha hb
  | @iff _ a b c _ ha hb hc => exact .iff ha hb hc
  | @matc _ a kids d _ hn ha hl hk => exact .matc hn ha hl hk
  | @call _ f kids hf hl hk => exact .op (ts := (sgAt sg f).params) (by simp [Ex.op]) (by simp [Ex.op]) (by simp [Ex.op]) (by simp [Ex.op]) ⟨hl, hk, fun vs hv => .call hf hv⟩
  | @close _ f kids _ hf hl hk ht h0 =>
    have hl' : kids.length = ((sgAt sg f).params.take kids.length).length := by rw [List.length_take]; omega
    refine .op (ts := (sgAt sg f).params.take kids.length) (by simp [Ex.op]) (by simp [Ex.op]) (by simp [Ex.op]) (by simp [Ex.op]) ⟨hl', fun i h1 h2 => ?_, fun vs hv => ?_⟩
    · rw [List.getElem_take]; exact hk i h1 (by simp [Ex.kids] at h1; omega)
    · have e : vs.length = kids.length := hv.1.trans hl'.symm
      refine .close hf (by omega) (fun i h1 h2 => ?_) (by rw [e]; exact ht) h0
      have := hv.2 i h1 (by omega)
      rwa [List.getElem_take] at this
  | @apply _ a b t ht ha hb =>
    refine .op (ts := [t, (dat l (t - 1).toNat).fr]) (by simp [Ex.op]) (by simp [Ex.op]) (by simp [Ex.op]) (by simp [Ex.op]) ⟨rfl, two (P := fun _ y u => HasTy l sg vars y u) ha hb, fun vs hv => ?_⟩
    obtain ⟨v, u, rfl, hv, hu⟩ := vts2 hv
    exact .apply ht hv hu

theorem repC_ints_any {G G' : List Nat} {w w' : World} : ∀ (l : List Int) (cs : List Value), RepC G w (intsE l).flatten cs → RepC G' w' (intsE l).flatten cs
  | [], [], _ => trivial
  | [], _ :: _, h => h.elim
  | n :: l, [], h => by simp only [intsE, List.map_cons, List.flatten_cons, List.cons_append, List.nil_append] at h; exact h.elim
  | n :: l, c :: cs, h => by
    simp only [intsE, List.map_cons, List.flatten_cons, List.cons_append, List.nil_append] at h ⊢
    exact ⟨h.1, repC_ints_any l cs h.2⟩
/- the evaluation's own block and its output -/
structure Ev (be Bd : Nat) (w : World) (most c : Nat) (sp : Bool) (o : Value) (os : List Int) : Prop where
  blk : w.heap[be]? = some (.cells #[.int .i64 most, .int .i64 c, .bool sp, o] 76 (0, 0))
  own : Own [be] Bd w 3 1 o (intsE os)
  lt : be < Bd
  hB : Bd ≤ w.heap.size
structure St (be : Nat) (o : Value) (w : World) (o' : Value) (w' : World) : Prop where
  keep : Keep (be :: ob o) w w'
  at_ : ∀ g, g ∈ ob o' → g ∈ ob o ∨ w.heap.size ≤ g
section
variable {be Bd : Nat} {o o' o'' : Value} {w w' w'' : World} {most c : Nat} {sp : Bool} {os : List Int} {G : List Nat} {d : D} {v : Value}
theorem St.of0 (h : Keep [] w w') : St be o w o w' := ⟨h.of0, fun _ hg => .inl hg⟩
theorem St.trans (h : St be o w o' w') (k : St be o' w' o'' w'') : St be o w o'' w'' :=
  ⟨h.keep.trans k.keep fun m hm => by
    rcases List.mem_cons.1 hm with rfl | hm
    · exact .inl (by simp)
    · exact (h.at_ m hm).imp (List.mem_cons_of_mem _) id,
   fun g hg => by
    rcases k.at_ g hg with h1 | h1
    · exact h.at_ g h1
    · have := h.keep.size; exact .inr (by omega)⟩
theorem St.rep (s : St be o w o' w') (h : Rep (be :: (ob o ++ G)) w d v) : Rep (be :: (ob o' ++ G)) w' d v :=
  Rep.keepG (fun k hk hn => by
    simp only [List.mem_cons, List.mem_append, not_or] at hn
    obtain ⟨h1, h2, h3⟩ := hn
    refine ⟨s.keep.block k hk (by simp [h1, h2]), ?_, Nat.lt_of_lt_of_le hk s.keep.size⟩
    simp only [List.mem_cons, List.mem_append, not_or]
    exact ⟨h1, fun h4 => by rcases s.at_ k h4 with h5 | h5
                            · exact h2 h5
                            · omega, h3⟩) d v h
theorem Ev.blt (h : Ev be Bd w most c sp o os) : be < w.heap.size := by have := h.lt; have := h.hB; omega
theorem Ev.olt (h : Ev be Bd w most c sp o os) : ∀ g, g ∈ ob o → Bd ≤ g ∧ g < w.heap.size := h.own.lt
theorem Ev.mlt (h : Ev be Bd w most c sp o os) : ∀ g, g ∈ be :: ob o → g < w.heap.size := fun g hg => by
  rcases List.mem_cons.1 hg with rfl | hg
  · exact h.blt
  · exact (h.olt g hg).2
theorem Ev.form (h : Ev be Bd w most c sp o os) : ∃ a cap, o = .slice a os.length cap := by
  obtain ⟨a, cap, h1⟩ := h.own.form
  rw [intsE_length] at h1
  exact ⟨a, cap, h1⟩
/- memory that is neither the evaluation's block nor its output changes -/
theorem Ev.keepM {M : List Nat} (h : Ev be Bd w most c sp o os) (hk : Keep M w w') (hM : ∀ m, m ∈ M → m ≠ be ∧ (m ∉ ob o)) : Ev be Bd w' most c sp o os := by
  have h1 := h.blt
  refine ⟨(hk.block be h1 fun hm => (hM be hm).1 rfl).trans h.blk, ?_, h.lt, Nat.le_trans h.hB hk.size⟩
  have hlt := h.own.lt
  obtain ⟨⟨cs, hr, hc⟩, hs, ha⟩ := h.own
  refine ⟨⟨cs, ⟨hr.1, ?_⟩, ?_⟩, hs, ha⟩
  · rcases hr.2 with h1 | ⟨g, cap, cur, rfl, hb, hh, r⟩
    · exact .inl h1
    · refine .inr ⟨g, cap, cur, rfl, hb, ?_, r⟩
      have hg : g ∈ ob (.slice (some ⟨g, 0, none⟩) (intsE os).length cap) := by simp [ob, Value.ownBlock]
      rw [hk.block g (hlt g hg).2 (fun hm => (hM g hm).2 hg)]
      exact hh
  · exact repC_ints_any os cs hc
theorem Ev.keep0 (h : Ev be Bd w most c sp o os) (hk : Keep [] w w') : Ev be Bd w' most c sp o os := h.keepM hk fun _ hm => by cases hm
end
end Go.Proofs.YtnjincgemmgllaaDoor
