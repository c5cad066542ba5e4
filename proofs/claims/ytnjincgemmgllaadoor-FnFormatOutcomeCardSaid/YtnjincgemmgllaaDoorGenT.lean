/- Plain facts for the generator: signatures, typing of expressions, the five lists of declarations. No walk here. -/
import Derived.Test.YtnjincgemmgllaaDoorSpecE
namespace Go.Proofs.YtnjincgemmgllaaDoor

structure Sg where
  params : List Int
  result : Int
def sgAt (sg : List Sg) (i : Nat) : Sg := sg.getD i ⟨[], 0⟩
theorem sgAt_at {sg : List Sg} {i : Nat} (h : i < sg.length) : sgAt sg i = sg[i] := by simp [sgAt, h]

inductive HasTy (l : List Dc) (sg : List Sg) : List Int → Ex → Int → Prop
  | int {vars : List Int} {n : Int} (h0 : -999 ≤ n) (h1 : n ≤ 999) : HasTy l sg vars (.mk 0 n []) 0
  | var {vars : List Int} {i : Nat} (h : i < vars.length) : HasTy l sg vars (.mk 12 i []) vars[i]
  | prim {vars : List Int} {op : Int} {a b : Ex} (h : 1 ≤ op ∧ op ≤ 4) (ha : HasTy l sg vars a 0) (hb : HasTy l sg vars b 0) : HasTy l sg vars (.mk op 0 [a, b]) 0
  | print {vars : List Int} {a : Ex} (ha : HasTy l sg vars a 0) : HasTy l sg vars (.mk 5 0 [a]) 0
  | con {vars : List Int} {c : Int} {kids : List Ex} (hc : 0 < ctyp l c) (hl : kids.length = (cflds l c).length) (hk : ∀ i (h1 : i < kids.length) (h2 : i < (cflds l c).length), HasTy l sg vars kids[i] (cflds l c)[i]) : HasTy l sg vars (.mk 6 c kids) (ctyp l c)
  | lett {vars : List Int} {a b : Ex} {t u : Int} (ht : 0 ≤ t) (ha : HasTy l sg vars a t) (hb : HasTy l sg (vars ++ [t]) b u) : HasTy l sg vars (.mk 13 0 [a, b]) u
  | iff {vars : List Int} {a b c : Ex} {t : Int} (ha : HasTy l sg vars a 0) (hb : HasTy l sg vars b t) (hc : HasTy l sg vars c t) : HasTy l sg vars (.mk 7 0 [a, b, c]) t
  | matc {vars : List Int} {a : Ex} {kids : List Ex} {d t : Int} (hn : consL l d ≠ []) (ha : HasTy l sg vars a d) (hl : kids.length = (consL l d).length)
      (hk : ∀ i (h1 : i < kids.length) (h2 : i < (consL l d).length), HasTy l sg (vars ++ cflds l (consL l d)[i]) kids[i] t) : HasTy l sg vars (.mk 8 d (a :: kids)) t
  | call {vars : List Int} {f : Nat} {kids : List Ex} (hf : f < sg.length) (hl : kids.length = (sgAt sg f).params.length) (hk : ∀ i (h1 : i < kids.length) (h2 : i < (sgAt sg f).params.length), HasTy l sg vars kids[i] (sgAt sg f).params[i]) : HasTy l sg vars (.mk 9 f kids) (sgAt sg f).result
  | close {vars : List Int} {f : Nat} {kids : List Ex} {t : Int} (hf : f < sg.length) (hl : kids.length + 1 = (sgAt sg f).params.length) (hk : ∀ i (h1 : i < kids.length) (h2 : i < (sgAt sg f).params.length), HasTy l sg vars kids[i] (sgAt sg f).params[i])
      (ht : t = aof l ((sgAt sg f).params.getD kids.length 0) (sgAt sg f).result) (h0 : 0 < t) : HasTy l sg vars (.mk 10 f kids) t
  | apply {vars : List Int} {a b : Ex} {t : Int} (ht : isArr l t = true) (ha : HasTy l sg vars a t) (hb : HasTy l sg vars b (dat l (t - 1).toNat).fr) : HasTy l sg vars (.mk 11 0 [a, b]) (dat l (t - 1).toNat).to

/- what the generator's declarations have in common -/
structure GD (l : List Dc) : Prop where
  len : l.length = 3 ∨ l.length = 4
  bound : fcon l l.length ≤ 1073741824
  c0 : consL l 0 = []
  a0 : isArr l 0 = false
  c1 : consL l 1 = [0, 1]
  a1 : isArr l 1 = false
  f0 : cflds l 0 = []
  f1 : cflds l 1 = [0, 1]
  t0 : ctyp l 0 = 1
  t1 : ctyp l 1 = 1
  c2 : consL l 2 = []
  a2 : isArr l 2 = true
  r2 : (dat l 1).fr = 0 ∧ (dat l 1).to = 0
  c3 : consL l 3 = [2, 3]
  a3 : isArr l 3 = false
  f2 : cflds l 2 = []
  f3 : cflds l 3 = [3, 0, 3]
  t2 : ctyp l 2 = 3
  t3 : ctyp l 3 = 3
  four : (l.length = 3 ∧ isArr l 4 = false ∧ consL l 4 = []) ∨ (l.length = 4 ∧
    ((consL l 4 = [4] ∧ isArr l 4 = false ∧ cflds l 4 = [1, 3] ∧ ctyp l 4 = 4) ∨
     (consL l 4 = [4, 5, 6] ∧ isArr l 4 = false ∧ cflds l 4 = [1, 1, 0] ∧ cflds l 5 = [0] ∧ cflds l 6 = [3] ∧ ctyp l 4 = 4 ∧ ctyp l 5 = 4 ∧ ctyp l 6 = 4) ∨
     (consL l 4 = [] ∧ isArr l 4 = true ∧ ((dat l 3).fr = 1 ∧ (dat l 3).to = 0 ∨ (dat l 3).fr = 0 ∧ (dat l 3).to = 1))))
  aof : ∀ f t, aof l f t = -1 ∨ ((f = 0 ∨ f = 1) ∧ (t = 0 ∨ t = 1) ∧ ¬ (f = 1 ∧ t = 1))

def dList : Dc := ⟨0, 0, [[], [0, 1]]⟩
def dFun : Dc := ⟨0, 0, []⟩
def dTree : Dc := ⟨0, 0, [[], [3, 0, 3]]⟩
def gd (x : List Dc) : List Dc := [dList, dFun, dTree] ++ x
def dLast (k : Nat) : Dc := match k with | 0 => ⟨0, 0, [[1, 3]]⟩ | 1 => ⟨1, 0, []⟩ | 2 => ⟨0, 0, [[1, 1, 0], [0], [3]]⟩ | _ => ⟨0, 1, []⟩

theorem aof3 (x : List Dc) (hx : x = [] ∨ ∃ d, x = [d]) (f t : Int) (h : ∀ d, x = [d] → d.cons = [] → (d.fr = 1 ∧ d.to = 0 ∨ d.fr = 0 ∧ d.to = 1)) : aof (gd x) f t = -1 ∨ ((f = 0 ∨ f = 1) ∧ (t = 0 ∨ t = 1) ∧ ¬ (f = 1 ∧ t = 1)) := by
  rcases aof_cases (gd x) f t with h1 | ⟨i, hi, _, hr⟩
  · exact .inl h1
  · right
    rcases hx with rfl | ⟨d, rfl⟩
    · simp [gd] at hi
      have h3 : i = 0 ∨ i = 1 ∨ i = 2 := by omega
      rcases h3 with rfl | rfl | rfl <;> simp [isAr, dat, gd, dList, dFun, dTree] at hr
      omega
    · simp [gd] at hi
      have h3 : i = 0 ∨ i = 1 ∨ i = 2 ∨ i = 3 := by omega
      rcases h3 with rfl | rfl | rfl | rfl <;> simp [isAr, dat, gd, dList, dFun, dTree] at hr
      · omega
      · have := h d rfl hr.1.1
        omega
theorem GD.of3 : GD (gd []) :=
  ⟨by decide, by decide, by decide, by decide, by decide, by decide, by decide, by decide, by decide, by decide, by decide, by decide, by decide, by decide, by decide, by decide, by decide, by decide, by decide, by decide, fun f t => aof3 [] (.inl rfl) f t (fun d h => by cases h)⟩
theorem GD.of4 (k : Nat) (hk : k < 4) : GD (gd [dLast k]) := by
  have h4 : k = 0 ∨ k = 1 ∨ k = 2 ∨ k = 3 := by omega
  rcases h4 with rfl | rfl | rfl | rfl
  all_goals
    refine ⟨by decide, by decide, by decide, by decide, by decide, by decide, by decide, by decide, by decide, by decide, by decide, by decide, by decide, by decide, by decide, by decide, by decide, by decide, by decide, by decide, fun f t => aof3 _ (.inr ⟨_, rfl⟩) f t (fun d h hc => ?_)⟩
    have hd : d = _ := (List.cons.inj h).1.symm
    subst hd
    revert hc
    decide

/- what the generator's signatures have in common -/
structure GS (l : List Dc) (sg : List Sg) : Prop where
  len : 1 ≤ sg.length ∧ sg.length ≤ 4
  plen : ∀ i (h : i < sg.length), sg[i].params.length ≤ 3
  ptys : ∀ i (h : i < sg.length), ∀ t ∈ sg[i].params, t = 0 ∨ t = 1 ∨ t = 2 ∨ t = 3
  res : ∀ i (h : i < sg.length), sg[i].result = 0 ∨ sg[i].result = 1 ∨ sg[i].result = 3
  clos : ∀ i (h : i < sg.length), 0 < aof l (sg[i].params.getD (sg[i].params.length - 1) 0) sg[i].result → ∀ t ∈ sg[i].params, t = 0 ∨ t = 1 ∨ t = 3

/- closures that can be made -/
def closB (l : List Dc) (sg : List Sg) (t : Int) (f : Nat) : Bool := decide (0 < (sgAt sg f).params.length) && aof l ((sgAt sg f).params.getD ((sgAt sg f).params.length - 1) 0) (sgAt sg f).result == t
def closF (l : List Dc) (sg : List Sg) (t : Int) : List Int := ((List.range sg.length).filter (closB l sg t)).map fun (i : Nat) => (i : Int)
def closK (l : List Dc) (sg : List Sg) (t : Int) (k : Nat) : List Int := ((List.range k).filter (closB l sg t)).map fun (i : Nat) => (i : Int)
theorem closK_len (l : List Dc) (sg : List Sg) (t : Int) (k : Nat) : (closK l sg t k).length ≤ k := by
  have := List.length_filter_le (closB l sg t) (List.range k)
  simpa [closK] using this
theorem closK_yes {l : List Dc} {sg : List Sg} {t : Int} {k : Nat} (h : closB l sg t k = true) : closK l sg t (k + 1) = closK l sg t k ++ [(k : Int)] := by
  simp [closK, List.range_succ, List.filter_append, h]
theorem closK_no {l : List Dc} {sg : List Sg} {t : Int} {k : Nat} (h : closB l sg t k = false) : closK l sg t (k + 1) = closK l sg t k := by
  simp [closK, List.range_succ, List.filter_append, h]
theorem closF_mem {l : List Dc} {sg : List Sg} {t x : Int} (h : x ∈ closF l sg t) : ∃ f : Nat, f < sg.length ∧ x = f ∧ closB l sg t f = true := by
  simp [closF] at h
  obtain ⟨i, ⟨hi, hv⟩, rfl⟩ := h
  exact ⟨i, hi, rfl, hv⟩
def canB (l : List Dc) (sg : List Sg) (vs : List Int) (t : Int) : Bool := !isArr l t || (decide (0 < (closF l sg t).length) || hasI vs t)
end Go.Proofs.YtnjincgemmgllaaDoor
