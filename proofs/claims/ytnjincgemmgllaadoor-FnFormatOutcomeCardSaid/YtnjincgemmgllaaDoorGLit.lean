/- The walk of the generator's literal: a list or a tree with some integers. -/
import Derived.Test.YtnjincgemmgllaaDoorGFit
import Derived.Deep.DeepCutAuto
namespace Go.Proofs.YtnjincgemmgllaaDoor
open Go.RowKit
attribute [local go_sem ↓] Go.wp_at_zero Go.wp_at_succ

def lx (w : World) : World := w.alloc (.cells #[.int .i64 0, .int .i64 0, .slice none 0 0] 55)
theorem lx_size (w : World) : (lx w).heap.size = w.heap.size + 1 := by simp [lx]
structure Lx (B br : Nat) (w W : World) (p : Nat) : Prop where
  keep : Keep [br] (lx w) W
  rd : RdAt B W br p
  hB : B ≤ w.heap.size
section
variable {B br : Nat} {w W W' : World} {p p' : Nat}
theorem Lx.start (hr : RdAt B w br p) (hB : B ≤ w.heap.size) : Lx B br w (lx w) p := ⟨Keep.refl _ _, hr.keep0 ((Keep.refl _ _).alloc _), hB⟩
theorem Lx.next (X : Lx B br w W p) (hk : Keep [br] W W') (hr : RdAt B W' br p') : Lx B br w W' p' := ⟨X.keep.then hk, hr, X.hB⟩
theorem Lx.keep0 (X : Lx B br w W p) (hk : Keep [] W W') : Lx B br w W' p := X.next hk.of0 (X.rd.keep0 hk)
theorem Lx.brlt (X : Lx B br w W p) : br < w.heap.size := by have := X.rd.lt; have := X.hB; omega
theorem Lx.size (X : Lx B br w W p) : w.heap.size + 1 ≤ W.heap.size := by have := X.keep.size; rwa [lx_size] at this
theorem Lx.wr (X : Lx B br w W p) {M : List Nat} (hk : Keep M W W') (hM : ∀ m, m ∈ M → w.heap.size + 1 ≤ m) : Lx B br w W' p := by
  have := X.hB
  exact ⟨X.keep.trans hk fun m hm => .inr (by rw [lx_size]; exact hM m hm), X.rd.keep hk (fun m hm => by have := hM m hm; omega), X.hB⟩
theorem Lx.new (X : Lx B br w W p) (o : Obj) : Lx B br w (W.alloc o) p := X.keep0 ((Keep.refl _ _).alloc o)
theorem Lx.set (X : Lx B br w W p) {j : Nat} (hj : w.heap.size + 1 ≤ j) (c0 c1 c2 : Value) : Lx B br w (put3 W j c0 c1 c2) p := X.wr (Keep.put3' W j _ _ _) (fun m hm => by simp at hm; omega)
theorem Lx.out (X : Lx B br w W p) : (W.cell? ⟨w.heap.size, 0, none⟩ = some (.int .i64 0) ∧ W.cell? ⟨w.heap.size, 1, none⟩ = some (.int .i64 0) ∧ W.cell? ⟨w.heap.size, 2, none⟩ = some (.slice none 0 0)) ∧ (W.frozen? ⟨w.heap.size, 0, none⟩ = false ∧ W.frozen? ⟨w.heap.size, 1, none⟩ = false ∧ W.frozen? ⟨w.heap.size, 2, none⟩ = false) := by
  have := X.brlt
  exact blk3 ((X.keep.block _ (by rw [lx_size]; omega) (by simp; omega)).trans (heap_alloc_new w _))
theorem Lx.post (X : Lx B br w W p') {x : Ex} {a : Option Addr} {cap c : Nat} {P : Ex → Prop} (hv : Rep (List.range (w.heap.size + 1)) W (kidsD x.kids) (.slice a x.kids.length cap)) (ty : P x) (hp : p' ≤ p + c) :
    GenK B w br p c P (.returned (.agg #[.int .i64 x.op, .int .i64 x.num, .slice a x.kids.length cap])) (put3 W w.heap.size (.int .i64 x.op) (.int .i64 x.num) (.slice a x.kids.length cap)) := by
  have h1 := X.hB
  have hk : Keep [br] w W := ((Keep.refl [br] w).alloc _).then X.keep
  exact ⟨x, _, p', rfl, ty, hk.put3 (by omega) _ _ _, X.rd.put3 (by omega) _ _ _, hp, ExV.put3 hv (by omega) _ _ _⟩
theorem Bx.callL {Gb : List Nat} {k : Nat} {x : Ex} (h : Bx Gb W k x) (X : Lx B br w W p) (hk : Keep [br] W W') (hb : br ∈ Gb) (hn : w.heap.size ≤ k) : Bx Gb W' k x :=
  h.keep hk (fun m hm => by simp at hm; subst hm; exact .inl hb) (by have := X.brlt; simp; omega)
theorem pick_lx (n : Int) (X : Lx B br w W p) (hk : Keep [] W W') (hp : p ≤ 1125899906842624) (hn : n ≤ 1000000) :
    Calls Tryd.prog 25 #[.pointer (some ⟨br, 0, none⟩), .int .i64 n] W' fun e w' => ∃ r : Int, e = .returned (.int .i64 r) ∧ 0 ≤ r ∧ (1 ≤ n → r < n) ∧ Lx B br w w' (p + 1) ∧ Keep [br] W w' ∧ Keep [br] W' w' :=
  (pick_any br p n W' (X.keep0 hk).rd hp hn).mono fun _ _ ⟨r, h1, h2, h3, h4, h5⟩ => ⟨r, h1, h2, h3, (X.keep0 hk).next h4 h5, hk.of0.then h4, h4⟩
theorem someInt_lx (X : Lx B br w W p) (hk : Keep [] W W') (hp : p + 4 ≤ 1125899906842624) :
    Calls Tryd.prog 77 #[.pointer (some ⟨br, 0, none⟩)] W' fun e w' => ∃ (r : Int) (p' : Nat), e = .returned (.int .i64 r) ∧ -999 ≤ r ∧ r ≤ 999 ∧ Lx B br w w' p' ∧ Keep [br] W w' ∧ Keep [br] W' w' ∧ p' ≤ p + 4 :=
  (someInt_any br p W' (X.keep0 hk).rd hp (by have := X.hB; have := (X.keep0 hk).size; omega)).mono fun _ _ ⟨r, p', h1, ⟨h2, h3⟩, h4, h5, h6⟩ => ⟨r, p', h1, h2, h3, (X.keep0 hk).next h4 h5, hk.of0.then h4, h4, h6⟩
theorem integer_lx (n : Int) (X : Lx B br w W p) (hk : Keep [] W W') :
    Calls Tryd.prog 40 #[.int .i64 n] W' fun e w' => ∃ (a : Option Addr) (cap : Nat), e = .returned (.agg #[.int .i64 0, .int .i64 n, .slice a 0 cap]) ∧ Lx B br w w' p ∧ Keep [] W w' ∧ Keep [] W' w' ∧ cap ≤ 9223372036854775807 :=
  (integer_any (List.range W.heap.size) n W').mono fun _ _ ⟨v, h1, h2, a, cap, h3, h4⟩ => ⟨a, cap, by rw [h1, h3]; rfl, (X.keep0 hk).keep0 h2, hk.then0 h2, h2, by obtain ⟨_, _, h5, _, h6⟩ := kids_form h4; injection h5 with h7 h8 h9; subst h9; exact h6⟩
theorem node_lx {Gb : List Nat} (op num : Int) (v : Value) (ks : List Ex) (X : Lx B br w W p) (hk : Keep [] W W') (h : Rep Gb W' (kidsD ks) v) :
    Calls Tryd.prog 58 #[.int .i64 op, .int .i64 num, v] W' fun e w' => ∃ (a : Option Addr) (cap : Nat), e = .returned (.agg #[.int .i64 op, .int .i64 num, .slice a ks.length cap]) ∧ Lx B br w w' p ∧ Keep [] W w' ∧ Keep [] W' w' ∧ Rep Gb w' (kidsD ks) (.slice a ks.length cap) :=
  (node_any op num v ks W' h).mono fun _ _ ⟨v, h1, h2, a, cap, h3, h4⟩ => ⟨a, cap, by rw [h1, h3]; rfl, (X.keep0 hk).keep0 h2, hk.then0 h2, h2, h4⟩
end
/- an expression that has a type under any variables -/
def LtT (l : List Dc) (sg : List Sg) (t : Int) (x : Ex) : Prop := ∀ vars, HasTy l sg vars x t
theorem lt_nil {l : List Dc} (hl : GD l) (sg : List Sg) : LtT l sg 1 (.mk 6 0 []) := fun vars => by
  have h := HasTy.con (l := l) (sg := sg) (vars := vars) (c := 0) (kids := []) (by rw [hl.t0]; omega) (by rw [hl.f0]; rfl) (fun i h1 => by simp at h1)
  rwa [hl.t0] at h
theorem lt_none {l : List Dc} (hl : GD l) (sg : List Sg) : LtT l sg 3 (.mk 6 2 []) := fun vars => by
  have h := HasTy.con (l := l) (sg := sg) (vars := vars) (c := 2) (kids := []) (by rw [hl.t2]; omega) (by rw [hl.f2]; rfl) (fun i h1 => by simp at h1)
  rwa [hl.t2] at h
theorem ty_cons {l : List Dc} (hl : GD l) {sg : List Sg} {vars : List Int} {x y : Ex} (hx : HasTy l sg vars x 0) (hy : HasTy l sg vars y 1) : HasTy l sg vars (.mk 6 1 [x, y]) 1 := by
  have h := HasTy.con (l := l) (sg := sg) (vars := vars) (c := 1) (kids := [x, y]) (by rw [hl.t1]; omega) (by rw [hl.f1]; rfl) (fun i h1 h2 => by
    have hi : i = 0 ∨ i = 1 := by simp at h1; omega
    rcases hi with rfl | rfl
    · simpa [hl.f1] using hx
    · simpa [hl.f1] using hy)
  rwa [hl.t1] at h
theorem ty_tree {l : List Dc} (hl : GD l) {sg : List Sg} {vars : List Int} {x y z : Ex} (hx : HasTy l sg vars x 3) (hy : HasTy l sg vars y 0) (hz : HasTy l sg vars z 3) : HasTy l sg vars (.mk 6 3 [x, y, z]) 3 := by
  have h := HasTy.con (l := l) (sg := sg) (vars := vars) (c := 3) (kids := [x, y, z]) (by rw [hl.t3]; omega) (by rw [hl.f3]; rfl) (fun i h1 h2 => by
    have hi : i = 0 ∨ i = 1 ∨ i = 2 := by simp at h1; omega
    rcases hi with rfl | rfl | rfl
    · simpa [hl.f3] using hx
    · simpa [hl.f3] using hy
    · simpa [hl.f3] using hz)
  rwa [hl.t3] at h
set_option maxHeartbeats 400000 in
theorem node_ex (op num : Int) (a : Option Addr) (n cap : Nat) (w : World) :
    Calls Tryd.prog 58 #[.int .i64 op, .int .i64 num, .slice a n cap] w fun e w' => e = .returned (.agg #[.int .i64 op, .int .i64 num, .slice a n cap]) ∧ Keep [] w w' := by
  go_enter Tryd.func58, Tryd.ntmps58
  go_wp2
  exact bodyPost_ret (v := .agg #[.int .i64 op, .int .i64 num, .slice a n cap]) (by simp [results, Tryd.results58, go_sem]) rfl ⟨rfl, (Keep.refl _ _).alloc _⟩
/- expressions without kids, in a block of their own: that block alone matters -/
theorem leaf_avoid {G : List Nat} {W : World} {ks : List Ex} {sb n cap K : Nat} (h : Rep G W (kidsD ks) (.slice (some ⟨sb, 0, none⟩) n cap)) (hl : ∀ x ∈ ks, x.kids = []) (hK : K ≠ sb) : Rep (K :: G) W (kidsD ks) (.slice (some ⟨sb, 0, none⟩) n cap) := by
  unfold kidsD at h ⊢
  simp only [Rep] at h ⊢
  obtain ⟨a, cp, hv, h1, h2, h3⟩ := h
  refine ⟨a, cp, hv, h1, h2, fun hn => ?_⟩
  obtain ⟨b, off, ha, hb, hlt, he⟩ := h3 hn
  injection hv with e1 e2 e3
  rw [ha] at e1
  injection e1 with e1
  injection e1 with e4 e5
  subst e4
  refine ⟨sb, off, ha, fun hm => ?_, hlt, ?_⟩
  · rcases List.mem_cons.1 hm with h | h
    · exact hK h.symm
    · exact hb h
  clear ha hb h1 h2 h3 e2 hn e5
  induction ks generalizing off with
  | nil => simp only [List.map_nil, RepE]
  | cons x xs ih =>
    have hx := hl x (by simp)
    simp only [List.map_cons, RepE, encE_eq] at he ⊢
    refine ⟨he.1, ?_, ih (fun y hy => hl y (by simp [hy])) (off + 3) he.2.2⟩
    simp only [RepL, hx] at he ⊢
    obtain ⟨⟨c0, h0, r0⟩, ⟨c1, h1, r1⟩, ⟨c2, h2, r2⟩, _⟩ := he.2.1
    refine ⟨⟨c0, h0, by simpa only [Rep] using r0⟩, ⟨c1, h1, by simpa only [Rep] using r1⟩, ⟨c2, h2, ?_⟩, trivial⟩
    obtain ⟨a', c', e, _, hc⟩ := kids_form r2
    subst e
    exact Rep.nil _ _ _ _ _ hc
theorem kids_cap {G : List Nat} {w : World} {l : List Ex} {a : Option Addr} {n cap : Nat} (h : Rep G w (kidsD l) (.slice a n cap)) : cap ≤ 9223372036854775807 := by
  obtain ⟨a', c', e, _, hc⟩ := kids_form h
  injection e with e1 e2 e3
  rw [e3]
  exact hc
def C3 (W : World) (k : Nat) (v0 v1 v2 : Value) : Prop := W.cell? ⟨k, 0, none⟩ = some v0 ∧ W.cell? ⟨k, 1, none⟩ = some v1 ∧ W.cell? ⟨k, 2, none⟩ = some v2
theorem C3.keepM {W W' : World} {k : Nat} {v0 v1 v2 : Value} {M : List Nat} (h : C3 W k v0 v1 v2) (hk : Keep M W W') (hn : k ∉ M) : C3 W' k v0 v1 v2 := ⟨hk.cellEq h.1 hn, hk.cellEq h.2.1 hn, hk.cellEq h.2.2 hn⟩
theorem C3.keep0 {W W' : World} {k : Nat} {v0 v1 v2 : Value} (h : C3 W k v0 v1 v2) (hk : Keep [] W W') : C3 W' k v0 v1 v2 := h.keepM hk (by simp)
theorem C3.put {W : World} {k j : Nat} {v0 v1 v2 : Value} (h : C3 W k v0 v1 v2) (hj : k ≠ j) (c0 c1 c2 : Value) : C3 (put3 W j c0 c1 c2) k v0 v1 v2 := h.keepM (Keep.put3' W j _ _ _) (by simpa using hj)
theorem C3.two {W : World} {k k' : Nat} {v0 v1 v2 u0 u1 u2 : Value} (h : C3 W k v0 v1 v2) (h' : C3 W k' u0 u1 u2) :
    W.cell? ⟨k, 0, none⟩ = some v0 ∧ W.cell? ⟨k, 1, none⟩ = some v1 ∧ W.cell? ⟨k, 2, none⟩ = some v2 ∧ W.cell? ⟨k', 0, none⟩ = some u0 ∧ W.cell? ⟨k', 1, none⟩ = some u1 ∧ W.cell? ⟨k', 2, none⟩ = some u2 := ⟨h.1, h.2.1, h.2.2, h'.1, h'.2.1, h'.2.2⟩
theorem Bx.zero {Gb : List Nat} (W : World) : Bx (W.heap.size :: Gb) (W.alloc (.cells #[.int .i64 0, .int .i64 0, .slice none 0 0] 55)) W.heap.size (.mk 0 0 []) :=
  ⟨none, 0, heap_alloc_new W _, Rep.nil _ _ _ _ _ (by omega)⟩
theorem kids0 {Gb : List Nat} {W : World} {a : Option Addr} {c : Nat} (hc : c ≤ 9223372036854775807) : Rep Gb W (kidsD []) (.slice a 0 c) := Rep.nil _ _ _ _ _ hc
end Go.Proofs.YtnjincgemmgllaaDoor
