/- Local variables that hold an expression (Bx): blocks that a function makes, reads and writes itself. -/
import Derived.Test.YtnjincgemmgllaaDoorGGen
namespace Go.Proofs.YtnjincgemmgllaaDoor
open Go.RowKit

theorem Keep.setCellR {M : List Nat} {a w : World} {p : Addr} (hp : a.heap.size ≤ p.block) (h : Keep M a w) (u : Value) : Keep M a (w.setCell p u) := h.setCell (.inr hp) u
theorem put3_block {w : World} {k : Nat} {a0 a1 a2 c0 c1 c2 : Value} {T : TypeId} (h : w.heap[k]? = some (.cells #[a0, a1, a2] T (0, 0))) : (put3 w k c0 c1 c2).heap[k]? = some (.cells #[c0, c1, c2] T (0, 0)) := by
  simp [put3, World.setCell, Array.getElem?_modify, h]
/- block k holds the expression x, whose kids lie outside of Gb -/
structure Bx (Gb : List Nat) (W : World) (k : Nat) (x : Ex) : Prop where
  ex : ∃ a cap, W.heap[k]? = some (.cells #[.int .i64 x.op, .int .i64 x.num, .slice a x.kids.length cap] 55 (0, 0)) ∧ Rep Gb W (kidsD x.kids) (.slice a x.kids.length cap)
section
variable {Gb : List Nat} {W W' : World} {k j : Nat} {x y : Ex} {a : Option Addr} {cap : Nat} {c0 c1 c2 : Value} {d : D} {v : Value}
theorem Bx.lt (h : Bx Gb W k x) : k < W.heap.size := by
  obtain ⟨a, cap, h1, _⟩ := h.ex
  exact (Array.getElem?_eq_some_iff.1 h1).1
theorem Rep.other_new (h : Rep Gb W d v) (o : Obj) : Rep (W.heap.size :: Gb) (W.alloc o) d v := (h.cons (Nat.le_refl _)).alloc o
theorem Bx.new (h : Rep Gb W (kidsD x.kids) (.slice a x.kids.length cap)) : Bx (W.heap.size :: Gb) (W.alloc (.cells #[.int .i64 x.op, .int .i64 x.num, .slice a x.kids.length cap] 55)) W.heap.size x :=
  ⟨a, cap, heap_alloc_new W _, h.other_new _⟩
theorem Bx.keep {M : List Nat} (h : Bx Gb W k x) (hk : Keep M W W') (hM : ∀ m, m ∈ M → m ∈ Gb ∨ W.heap.size ≤ m) (hn : k ∉ M) : Bx Gb W' k x := by
  have hl := h.lt
  obtain ⟨a, cap, h1, h2⟩ := h.ex
  exact ⟨a, cap, (hk.block k hl hn).trans h1, h2.keep hk hM⟩
theorem Bx.keep0 (h : Bx Gb W k x) (hk : Keep [] W W') : Bx Gb W' k x := h.keep hk (fun _ hm => by cases hm) (by simp)
theorem Bx.sub {G' : List Nat} (h : Bx Gb W k x) (hs : ∀ g, g ∈ G' → g ∈ Gb ∨ W.heap.size ≤ g) : Bx G' W k x := by
  obtain ⟨a, cap, h1, h2⟩ := h.ex
  exact ⟨a, cap, h1, h2.sub hs⟩
theorem Bx.other_new (h : Bx Gb W k x) (o : Obj) : Bx (W.heap.size :: Gb) (W.alloc o) k x := by
  have hl := h.lt
  obtain ⟨a', cap', h1', h2'⟩ := h.ex
  exact ⟨a', cap', (((Keep.refl [] W).alloc o).block k hl (by simp)).trans h1', h2'.other_new _⟩
theorem Bx.set (h : Bx Gb W k y) (hk : k ∈ Gb) (hx : Rep Gb W (kidsD x.kids) (.slice a x.kids.length cap)) : Bx Gb (put3 W k (.int .i64 x.op) (.int .i64 x.num) (.slice a x.kids.length cap)) k x := by
  obtain ⟨a', cap', h1, _⟩ := h.ex
  exact ⟨a, cap, put3_block h1, hx.keep (Keep.put3' W k _ _ _) (fun m hm => by simp at hm; subst hm; exact .inl hk)⟩
theorem Rep.other_set (h : Rep Gb W d v) (hj : j ∈ Gb) (c0 c1 c2 : Value) : Rep Gb (put3 W j c0 c1 c2) d v := h.keep (Keep.put3' W j _ _ _) (fun m hm => by simp at hm; subst hm; exact .inl hj)
theorem Bx.other_set (h : Bx Gb W k x) (hj : j ∈ Gb) (hjk : k ≠ j) (c0 c1 c2 : Value) : Bx Gb (put3 W j c0 c1 c2) k x :=
  h.keep (Keep.put3' W j _ _ _) (fun m hm => by simp at hm; subst hm; exact .inl hj) (by simpa using hjk)
theorem Bx.cells (h : Bx Gb W k x) : ∃ a cap, (W.cell? ⟨k, 0, none⟩ = some (.int .i64 x.op) ∧ W.cell? ⟨k, 1, none⟩ = some (.int .i64 x.num) ∧ W.cell? ⟨k, 2, none⟩ = some (.slice a x.kids.length cap)) ∧ (W.frozen? ⟨k, 0, none⟩ = false ∧ W.frozen? ⟨k, 1, none⟩ = false ∧ W.frozen? ⟨k, 2, none⟩ = false) ∧ Rep Gb W (kidsD x.kids) (.slice a x.kids.length cap) := by
  obtain ⟨a, cap, h1, h2⟩ := h.ex
  obtain ⟨h3, h4⟩ := blk3 h1
  exact ⟨a, cap, h3, h4, h2⟩
end
section
variable {G : List Nat} {B br : Nat} {l : List Dc} {fs : List Fn} {da : Option Addr} {dc : Nat} {fa : Option Addr} {fc : Nat} {w W W' : World} {p : Nat} {c0 c1 c2 : Value}
theorem Sx.wr (X : Sx G B br l fs da dc fa fc w W p) {M : List Nat} (hk : Keep M W W') (hM : ∀ m, m ∈ M → w.heap.size + 2 ≤ m) : Sx G B br l fs da dc fa fc w W' p := by
  have h1 : Keep [br] (bx w (.slice da l.length dc) (.slice fa fs.length fc)) W' := X.keep.trans hk fun m hm => .inr (by rw [bx_size]; exact hM m hm)
  have h2 : Keep [br] w W' := (((Keep.refl [br] w).alloc _).alloc _).then h1
  have := X.hB
  exact ⟨h1, X.c0.keep h2, X.rd.keep hk (fun m hm => by have := hM m hm; omega), X.hB, X.c0⟩
theorem Sx.new (X : Sx G B br l fs da dc fa fc w W p) (o : Obj) : Sx G B br l fs da dc fa fc w (W.alloc o) p := X.keep0 ((Keep.refl _ _).alloc o)
theorem Sx.set (X : Sx G B br l fs da dc fa fc w W p) {j : Nat} (hj : w.heap.size + 2 ≤ j) (c0 c1 c2 : Value) : Sx G B br l fs da dc fa fc w (put3 W j c0 c1 c2) p := X.wr (Keep.put3' W j _ _ _) (fun m hm => by simp at hm; omega)
theorem Sx.from0 (X : Sx G B br l fs da dc fa fc w W p) : Keep [br] w W := (((Keep.refl [br] w).alloc _).alloc _).then X.keep
theorem Sx.rep0 (X : Sx G B br l fs da dc fa fc w W p) {d : D} {v : Value} (h : Rep G w d v) : Rep G W d v := h.keep X.from0 (memG X.c0.hbr)
/- a box stays over a call -/
theorem Bx.call {Gb : List Nat} {k : Nat} {x : Ex} (h : Bx Gb W k x) (X : Sx G B br l fs da dc fa fc w W p) (hk : Keep [br] W W') (hb : br ∈ Gb) (hn : w.heap.size ≤ k) : Bx Gb W' k x :=
  h.keep hk (fun m hm => by simp at hm; subst hm; exact .inl hb) (by have := X.brlt; simp; omega)
end
theorem esz_pos (e : Ex) : 1 ≤ esz e := by cases e; rw [esz]; omega
mutual
theorem nleft_of : ∀ (e : Ex) (left : Int), (esz e : Int) ≤ left → nleft e left = left - esz e
  | .mk _ _ kids, left, h => by
    rw [esz] at h ⊢
    rw [nleft, if_neg (by omega), nleftL_of kids (left - 1) (by omega)]
    omega
theorem nleftL_of : ∀ (es : List Ex) (left : Int), (eszL es : Int) ≤ left → nleftL es left = left - eszL es
  | [], left, _ => by rw [nleftL, eszL]; omega
  | e :: es, left, h => by
    rw [eszL] at h ⊢
    rw [nleftL, nleft_of e left (by omega), if_neg (by omega), nleftL_of es _ (by omega)]
    omega
end
mutual
theorem nleft_le : ∀ (e : Ex) (left : Int), 0 ≤ nleft e left → (esz e : Int) ≤ left
  | .mk _ _ kids, left, h => by
    rw [nleft] at h
    rw [esz]
    split at h
    · omega
    · have := nleftL_le kids (left - 1) h
      omega
theorem nleftL_le : ∀ (es : List Ex) (left : Int), 0 ≤ nleftL es left → (eszL es : Int) ≤ left
  | [], left, h => by rw [nleftL] at h; rw [eszL]; omega
  | e :: es, left, h => by
    rw [nleftL] at h
    rw [eszL]
    split at h
    · omega
    · rename_i h2
      have h1 := nleft_le e left (by omega)
      rw [nleft_of e left h1] at h
      have := nleftL_le es _ h
      omega
end
theorem nodes_ok {e : Ex} : 0 ≤ nodesF e ↔ esz e ≤ 30 := by
  unfold nodesF
  constructor
  · intro h
    split at h
    · omega
    · have := nleft_le e 30 (by omega)
      omega
  · intro h
    rw [nleft_of e 30 (by omega), if_neg (by omega)]
    omega
theorem nodes_no {e : Ex} (h : ¬ esz e ≤ 30) : nodesF e < 0 := by
  rcases Int.lt_or_le (nodesF e) 0 with h1 | h1
  · exact h1
  · exact absurd (nodes_ok.1 h1) h
end Go.Proofs.YtnjincgemmgllaaDoor
