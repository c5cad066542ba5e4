/- Appending expressions in the generator's functions; what a drawn region of theirs reads. -/
import Derived.Test.YtnjincgemmgllaaDoorGMain
namespace Go.Proofs.YtnjincgemmgllaaDoor
open Go.RowKit

section
variable {ops : Array Oper} {rest : List Oper} {o : Oper} {a : Act} {Q : Exit → Act → World → Prop} {wx : World} {br n0 : Nat} {w0 wr : World} {sv : Value} {ks : List Ex} {ay : Option Addr} {cy : Nat}
theorem KSt.grown {y : Ex} {v' : Value} {w' : World} {ob' : Obj} (h : KSt br n0 w0 wr sv ks) (hg : Grew (List.range n0) sv v' (wx.alloc ob') w') : Keep (ob sv) wx w' ∧ ∀ m, m ∈ ob sv → n0 ≤ m :=
  ⟨((Keep.refl (ob sv) wx).alloc _).trans hg.keep (fun _ hm => .inl hm), fun m hm => (h.own.lt m hm).1⟩
theorem wpl_kst (hgd : o.guard = none) (s x : Operand) (ho : o.op = .call { callee := .builtin .append, args := #[s, x], argTypes := #[53, 53] }) (y : Ex)
    (h : KSt br n0 w0 wr sv ks) (hb : br < n0) (hk : Keep [br] wr wx) (hs : a.eval s = sv) (hx : a.eval x = .slice (some ⟨wx.heap.size, 0, none⟩) 1 1) (hy : Rep (List.range wr.heap.size) wx (kidsD y.kids) (.slice ay y.kids.length cy)) (hl : ks.length ≤ 1000)
    (k : ∀ v' w', KSt br n0 w0 w' v' (ks ++ [y]) → Keep (ob sv) wx w' → (∀ m, m ∈ ob sv → n0 ≤ m) → wpList Tryd.prog ops Q rest (a.put o.dst v') w') :
    wpList Tryd.prog ops Q (o :: rest) a (wx.alloc (.cells #[.int .i64 y.op, .int .i64 y.num, .slice ay y.kids.length cy] 55)) := by
  have hz := hk.size
  have h1 := h.keep.size
  have h2 := h.size
  refine wpl_append hgd s x _ ho (List.range n0) n0 55 (.agg #[.int .i64 0, .int .i64 0, .slice none 0 0]) 3 40 Tryd.underlying53 infoEx rfl (by decide) sv _ hs ((h.call hb hk).alloc _) _ [encE y] hx
    (ex_new (h.fresh hy) (h.below hk)) (fun f hf => by simp at hf; subst hf; exact encE_len y) (by simp; omega) (by simp; omega) (by simp; omega) (fun g hg => by simp at hg ⊢; omega) ?_
  intro v' w' ho hgr
  exact k v' w' (h.grow hk ho hgr) (h.grown (y := y) hgr).1 (h.grown (y := y) hgr).2
theorem step_kst {K : Act → World → Prop} {X : Prop} (hgd : o.guard = none) (s x : Operand) (ho : o.op = .call { callee := .builtin .append, args := #[s, x], argTypes := #[53, 53] }) (y : Ex)
    (h : KSt br n0 w0 wr sv ks) (hb : br < n0) (hk : Keep [br] wr wx) (hs : a.eval s = sv) (hx : a.eval x = .slice (some ⟨wx.heap.size, 0, none⟩) 1 1) (hy : Rep (List.range wr.heap.size) wx (kidsD y.kids) (.slice ay y.kids.length cy)) (hl : ks.length ≤ 1000)
    (k : ∀ v' w', KSt br n0 w0 w' v' (ks ++ [y]) → Keep (ob sv) wx w' → (∀ m, m ∈ ob sv → n0 ≤ m) → K (a.put o.dst v') w') :
    if Region.wanted o (yielded ops a.tmps) = true then Oper.wp Tryd.prog o a (wx.alloc (.cells #[.int .i64 y.op, .int .i64 y.num, .slice ay y.kids.length cy] 55)) K Q else X := by
  have hz := hk.size
  have h1 := h.keep.size
  have h2 := h.size
  refine step_append hgd s x _ ho (List.range n0) n0 55 (.agg #[.int .i64 0, .int .i64 0, .slice none 0 0]) 3 40 Tryd.underlying53 infoEx rfl (by decide) sv _ hs ((h.call hb hk).alloc _) _ [encE y] hx
    (ex_new (h.fresh hy) (h.below hk)) (fun f hf => by simp at hf; subst hf; exact encE_len y) (by simp; omega) (by simp; omega) (by simp; omega) (fun g hg => by simp at hg ⊢; omega) ?_
  intro v' w' ho hgr
  exact k v' w' (h.grow hk ho hgr) (h.grown (y := y) hgr).1 (h.grown (y := y) hgr).2
end
section
variable {G : List Nat} {B br : Nat} {l : List Dc} {fs : List Fn} {da : Option Addr} {dc : Nat} {fa : Option Addr} {fc : Nat} {w W : World} {p : Nat} {b i : Nat} {v : Value} {K K' : Nat} {v0 v1 v2 u0 u1 u2 : Value}
/- a cell of the world at the start, in a block other than the reader's -/
theorem Sx.old (X : Sx G B br l fs da dc fa fc w W p) (hc : w.cell? ⟨b, i, none⟩ = some v) (hb : b ≠ br) : W.cell? ⟨b, i, none⟩ = some v := X.from0.cellEq hc (by simpa using hb)
theorem Sx.hold (X : Sx G B br l fs da dc fa fc w W p) (hc : w.cell? ⟨b, i, none⟩ = some v) (hb : b ≠ br) :
    W.cell? ⟨w.heap.size, 0, none⟩ = some (.slice da l.length dc) ∧ W.cell? ⟨w.heap.size, 1, none⟩ = some (.slice fa fs.length fc) ∧ W.cell? ⟨b, i, none⟩ = some v := ⟨X.cells.1, X.cells.2, X.old hc hb⟩
theorem Sx.hold1 (X : Sx G B br l fs da dc fa fc w W p) (hc : w.cell? ⟨b, i, none⟩ = some v) (hb : b ≠ br) (h : C3 W K v0 v1 v2) :
    W.cell? ⟨w.heap.size, 0, none⟩ = some (.slice da l.length dc) ∧ W.cell? ⟨w.heap.size, 1, none⟩ = some (.slice fa fs.length fc) ∧ W.cell? ⟨b, i, none⟩ = some v ∧ W.cell? ⟨K, 0, none⟩ = some v0 ∧ W.cell? ⟨K, 1, none⟩ = some v1 ∧ W.cell? ⟨K, 2, none⟩ = some v2 := ⟨X.cells.1, X.cells.2, X.old hc hb, h.1, h.2.1, h.2.2⟩
theorem Sx.hold2 (X : Sx G B br l fs da dc fa fc w W p) (hc : w.cell? ⟨b, i, none⟩ = some v) (hb : b ≠ br) (h : C3 W K v0 v1 v2) (h' : C3 W K' u0 u1 u2) :
    W.cell? ⟨w.heap.size, 0, none⟩ = some (.slice da l.length dc) ∧ W.cell? ⟨w.heap.size, 1, none⟩ = some (.slice fa fs.length fc) ∧ W.cell? ⟨b, i, none⟩ = some v ∧ W.cell? ⟨K, 0, none⟩ = some v0 ∧ W.cell? ⟨K, 1, none⟩ = some v1 ∧ W.cell? ⟨K, 2, none⟩ = some v2 ∧
      W.cell? ⟨K', 0, none⟩ = some u0 ∧ W.cell? ⟨K', 1, none⟩ = some u1 ∧ W.cell? ⟨K', 2, none⟩ = some u2 := ⟨X.cells.1, X.cells.2, X.old hc hb, h.1, h.2.1, h.2.2, h'.1, h'.2.1, h'.2.2⟩
/- the same behind a store into block j -/
theorem Sx.hold1p (X : Sx G B br l fs da dc fa fc w W p) (hc : w.cell? ⟨b, i, none⟩ = some v) (hb : b ≠ br) (h : C3 W K v0 v1 v2) {j : Nat} (hj : w.heap.size < j) (hK : K ≠ j) (c0 c1 c2 : Value) :
    (put3 W j c0 c1 c2).cell? ⟨w.heap.size, 0, none⟩ = some (.slice da l.length dc) ∧ (put3 W j c0 c1 c2).cell? ⟨w.heap.size, 1, none⟩ = some (.slice fa fs.length fc) ∧ (put3 W j c0 c1 c2).cell? ⟨b, i, none⟩ = some v ∧ (put3 W j c0 c1 c2).cell? ⟨K, 0, none⟩ = some v0 ∧ (put3 W j c0 c1 c2).cell? ⟨K, 1, none⟩ = some v1 ∧ (put3 W j c0 c1 c2).cell? ⟨K, 2, none⟩ = some v2 := by
  have hl := World.block_lt_of_cell? w _ hc
  have hk := Keep.put3' W j c0 c1 c2
  have h1 := h.put hK c0 c1 c2
  refine ⟨hk.cellEq X.cells.1 (by simp; omega), hk.cellEq X.cells.2 (by simp; omega), hk.cellEq (X.old hc hb) (by simp at hl ⊢; omega), h1.1, h1.2.1, h1.2.2⟩
theorem Sx.hold2p (X : Sx G B br l fs da dc fa fc w W p) (hc : w.cell? ⟨b, i, none⟩ = some v) (hb : b ≠ br) (h : C3 W K v0 v1 v2) (h' : C3 W K' u0 u1 u2) {j : Nat} (hj : w.heap.size < j) (hK : K ≠ j) (hK' : K' ≠ j) (c0 c1 c2 : Value) :
    (put3 W j c0 c1 c2).cell? ⟨w.heap.size, 0, none⟩ = some (.slice da l.length dc) ∧ (put3 W j c0 c1 c2).cell? ⟨w.heap.size, 1, none⟩ = some (.slice fa fs.length fc) ∧ (put3 W j c0 c1 c2).cell? ⟨b, i, none⟩ = some v ∧ (put3 W j c0 c1 c2).cell? ⟨K, 0, none⟩ = some v0 ∧ (put3 W j c0 c1 c2).cell? ⟨K, 1, none⟩ = some v1 ∧ (put3 W j c0 c1 c2).cell? ⟨K, 2, none⟩ = some v2 ∧
      (put3 W j c0 c1 c2).cell? ⟨K', 0, none⟩ = some u0 ∧ (put3 W j c0 c1 c2).cell? ⟨K', 1, none⟩ = some u1 ∧ (put3 W j c0 c1 c2).cell? ⟨K', 2, none⟩ = some u2 := by
  obtain ⟨a1, a2, a3, a4, a5, a6⟩ := X.hold1p hc hb h hj hK c0 c1 c2
  have h1 := h'.put hK' c0 c1 c2
  exact ⟨a1, a2, a3, a4, a5, a6, h1.1, h1.2.1, h1.2.2⟩
end
theorem Bx.c3 {Gb : List Nat} {W : World} {k : Nat} {x : Ex} (h : Bx Gb W k x) : ∃ a cap, C3 W k (.int .i64 x.op) (.int .i64 x.num) (.slice a x.kids.length cap) ∧ Rep Gb W (kidsD x.kids) (.slice a x.kids.length cap) := by
  obtain ⟨a, cap, h1, _, h2⟩ := h.cells
  exact ⟨a, cap, h1, h2⟩
theorem canB_self {l : List Dc} {sg : List Sg} {vars : List Int} {t : Int} (h : t ∈ vars) : canB l sg vars t = true := by
  unfold canB
  rw [hasI_iff.2 h]
  simp
/- what a function's body is made under: its number, its parameters, its result -/
structure FnAt (fs : List Fn) (f : Nat) (ps : List Int) (rs : Int) : Prop where
  lt : f < fs.length
  ps_ : fs[f].sig.params = ps
  rs_ : fs[f].sig.result = rs
theorem FnAt.call {l : List Dc} {fs : List Fn} {f : Nat} {ps : List Int} {rs : Int} (h : FnAt fs f ps rs) {vars : List Int} {ks : List Ex} (hk : KidsAt (fun t x => HasTy l (sgs fs) vars x t) ps ps.length ks) : HasTy l (sgs fs) vars (.mk 9 (f : Int) ks) rs := by
  have e := sgs_at h.lt
  have h1 : (sgAt (sgs fs) f).params = ps := by rw [e]; exact h.ps_
  have h2 : (sgAt (sgs fs) f).result = rs := by rw [e]; exact h.rs_
  have hh := HasTy.call (l := l) (sg := sgs fs) (vars := vars) (f := f) (kids := ks) (by rw [sgs_len]; exact h.lt) (by rw [h1]; exact hk.1) (by rw [h1]; exact hk.2)
  rwa [h2] at hh
theorem FnAt.cells {br : Nat} {G : List Nat} {w : World} {fs : List Fn} {fa : Option Addr} {n fc f : Nat} {ps : List Int} {rs : Int} (h : FnAt fs f ps rs) (hf : Rep G w (funcsD fs) (.slice fa n fc)) (hbr : br ∈ G) :
    ∃ b off pa pc, fa = some ⟨b, off, none⟩ ∧ b ≠ br ∧ b < w.heap.size ∧ w.cell? ⟨b, off + f * 5, none⟩ = some (.slice pa ps.length pc) ∧ w.cell? ⟨b, off + f * 5 + 1, none⟩ = some (.int .i64 rs) ∧ Rep G w (ints ps) (.slice pa ps.length pc) := by
  obtain ⟨b, off, pa, pc, ka, kc, rfl, hlt, c0, c1, _, _, _, rp, _⟩ := funcs_at hf h.lt
  rw [h.ps_] at c0 rp
  rw [h.rs_] at c1
  have := h.lt
  exact ⟨b, off, pa, pc, rfl, fun e => funcs_out hf (by omega) (e ▸ hbr), hlt, c0, c1, rp⟩
end Go.Proofs.YtnjincgemmgllaaDoor
