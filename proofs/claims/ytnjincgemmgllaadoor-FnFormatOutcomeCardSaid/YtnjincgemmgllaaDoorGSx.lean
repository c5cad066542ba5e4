/- The state of a walk of one of the generator's functions (Sx), and its callees' contracts in terms of it. -/
import Derived.Test.YtnjincgemmgllaaDoorGenH
namespace Go.Proofs.YtnjincgemmgllaaDoor
open Go.RowKit

theorem cut {A C : Prop} (h : A) (k : A → C) : C := k h
theorem ints_newAt {G : List Nat} {w : World} {E : TypeId} (l : List Int) {n : Nat} (hn : n = w.heap.size) (hG : ∀ g, g ∈ G → g < w.heap.size) (hl : l.length ≤ 9223372036854775807) :
    Rep G (w.alloc (.cells (l.map fun n => Value.int .i64 n).toArray E)) (ints l) (.slice (some ⟨n, 0, none⟩) l.length l.length) := by subst hn; exact ints_new l hG hl
/- the world after the two boxes that each such function makes first: its program and its result -/
def bx (w : World) (dv fv : Value) : World := (w.alloc (.cells #[dv, fv] 50)).alloc (.cells #[.int .i64 0, .int .i64 0, .slice none 0 0] 55)
theorem bx_size (w : World) (dv fv : Value) : (bx w dv fv).heap.size = w.heap.size + 2 := by simp [bx]
structure Sx (G : List Nat) (B br : Nat) (l : List Dc) (fs : List Fn) (da : Option Addr) (dc : Nat) (fa : Option Addr) (fc : Nat) (w W : World) (p : Nat) : Prop where
  keep : Keep [br] (bx w (.slice da l.length dc) (.slice fa fs.length fc)) W
  cx : Cx G B br l fs (.slice da l.length dc) (.slice fa fs.length fc) W
  rd : RdAt B W br p
  hB : B ≤ w.heap.size
  c0 : Cx G B br l fs (.slice da l.length dc) (.slice fa fs.length fc) w
section
variable {G : List Nat} {B br : Nat} {l : List Dc} {fs : List Fn} {da : Option Addr} {dc : Nat} {fa : Option Addr} {fc : Nat} {w W W' : World} {p p' : Nat}
theorem Sx.start (hx : Cx G B br l fs (.slice da l.length dc) (.slice fa fs.length fc) w) (hr : RdAt B w br p) : Sx G B br l fs da dc fa fc w (bx w (.slice da l.length dc) (.slice fa fs.length fc)) p :=
  have hk : Keep [] w (bx w (.slice da l.length dc) (.slice fa fs.length fc)) := ((Keep.refl _ _).alloc _).alloc _
  ⟨Keep.refl _ _, hx.keep0 hk, hr.keep0 hk, hx.hB, hx⟩
theorem Sx.next (X : Sx G B br l fs da dc fa fc w W p) (hk : Keep [br] W W') (hr : RdAt B W' br p') : Sx G B br l fs da dc fa fc w W' p' := ⟨X.keep.then hk, X.cx.keep hk, hr, X.hB, X.c0⟩
theorem Sx.keep0 (X : Sx G B br l fs da dc fa fc w W p) (hk : Keep [] W W') : Sx G B br l fs da dc fa fc w W' p := X.next hk.of0 (X.rd.keep0 hk)
theorem Sx.brlt (X : Sx G B br l fs da dc fa fc w W p) : br < w.heap.size := by have := X.rd.lt; have := X.hB; omega
theorem Sx.size (X : Sx G B br l fs da dc fa fc w W p) : w.heap.size + 2 ≤ W.heap.size := by have := X.keep.size; rwa [bx_size] at this
theorem Sx.mem (X : Sx G B br l fs da dc fa fc w W p) : ∀ m, m ∈ [br] → m ∈ G ∨ W.heap.size ≤ m := memG X.cx.hbr
theorem Sx.rmem (X : Sx G B br l fs da dc fa fc w W p) {n : Nat} (hn : w.heap.size ≤ n) {S : Nat} : ∀ m, m ∈ [br] → m ∈ List.range n ∨ S ≤ m := fun m hm => by
  have := X.brlt
  simp at hm; subst hm
  exact .inl (by simp; omega)
theorem Sx.cells (X : Sx G B br l fs da dc fa fc w W p) : W.cell? ⟨w.heap.size, 0, none⟩ = some (.slice da l.length dc) ∧ W.cell? ⟨w.heap.size, 1, none⟩ = some (.slice fa fs.length fc) := by
  have := X.brlt
  exact ⟨X.keep.cellEq (by unfold bx; go_simp) (by simp; omega), X.keep.cellEq (by unfold bx; go_simp) (by simp; omega)⟩
theorem Sx.res (X : Sx G B br l fs da dc fa fc w W p) : W.heap[w.heap.size + 1]? = some (.cells #[.int .i64 0, .int .i64 0, .slice none 0 0] 55 (0, 0)) := by
  have := X.brlt
  refine (X.keep.block _ (by rw [bx_size]; omega) (by simp; omega)).trans ?_
  exact rb_of w (.cells #[.slice da l.length dc, .slice fa fs.length fc] 50) _ 55 #[.int .i64 0, .int .i64 0, .slice none 0 0] rfl
/- the result's cells, as the store of the result asks for them -/
theorem Sx.out (X : Sx G B br l fs da dc fa fc w W p) : (W.cell? ⟨w.heap.size + 1, 0, none⟩ = some (.int .i64 0) ∧ W.cell? ⟨w.heap.size + 1, 1, none⟩ = some (.int .i64 0) ∧ W.cell? ⟨w.heap.size + 1, 2, none⟩ = some (.slice none 0 0)) ∧ (W.frozen? ⟨w.heap.size + 1, 0, none⟩ = false ∧ W.frozen? ⟨w.heap.size + 1, 1, none⟩ = false ∧ W.frozen? ⟨w.heap.size + 1, 2, none⟩ = false) := blk3 X.res
theorem Sx.post (X : Sx G B br l fs da dc fa fc w W p') {x : Ex} {a : Option Addr} {cap c : Nat} {P : Ex → Prop} (hv : Rep (List.range (w.heap.size + 2)) W (kidsD x.kids) (.slice a x.kids.length cap)) (ty : P x) (hp : p' ≤ p + c) :
    GenK B w br p c P (.returned (.agg #[.int .i64 x.op, .int .i64 x.num, .slice a x.kids.length cap])) (put3 W (w.heap.size + 1) (.int .i64 x.op) (.int .i64 x.num) (.slice a x.kids.length cap)) := by
  have h1 := X.hB
  have hk : Keep [br] w W := (((Keep.refl [br] w).alloc _).alloc _).then X.keep
  exact ⟨x, _, p', rfl, ty, hk.put3 (by omega) _ _ _, X.rd.put3 (by omega) _ _ _, hp, ExV.put3 hv (by omega) _ _ _⟩
end

/- what a callee that draws an expression leaves -/
def GX (G : List Nat) (B br : Nat) (l : List Dc) (fs : List Fn) (da : Option Addr) (dc : Nat) (fa : Option Addr) (fc : Nat) (w W W' : World) (p c : Nat) (P : Ex → Prop) (e : Ending) (w' : World) : Prop :=
  ∃ (x : Ex) (p' : Nat) (a : Option Addr) (cap : Nat), e = .returned (.agg #[.int .i64 x.op, .int .i64 x.num, .slice a x.kids.length cap]) ∧ P x ∧ Sx G B br l fs da dc fa fc w w' p' ∧ Keep [br] W w' ∧ Keep [br] W' w' ∧ p' ≤ p + c ∧ Rep (List.range W.heap.size) w' (kidsD x.kids) (.slice a x.kids.length cap)
section
variable {G : List Nat} {B br : Nat} {l : List Dc} {fs : List Fn} {da : Option Addr} {dc : Nat} {fa : Option Addr} {fc : Nat} {w W W' : World} {p : Nat}
theorem GX.of {c : Nat} {P : Ex → Prop} {e : Ending} {w' : World} (X : Sx G B br l fs da dc fa fc w W p) (hk : Keep [] W W') (h : GenK B W' br p c P e w') : GX G B br l fs da dc fa fc w W W' p c P e w' := by
  obtain ⟨x, v, p', rfl, hx, hk', hr, hp, a, cap, rfl, hv⟩ := h
  exact ⟨x, p', a, cap, rfl, hx, (X.keep0 hk).next hk' hr, hk.of0.then hk', hk', hp, hv.sub (range_sub hk.size)⟩

theorem pick_sx (n : Int) (X : Sx G B br l fs da dc fa fc w W p) (hk : Keep [] W W') (hp : p ≤ 1125899906842624) (hn : n ≤ 1000000) :
    Calls Tryd.prog 25 #[.pointer (some ⟨br, 0, none⟩), .int .i64 n] W' fun e w' => ∃ r : Int, e = .returned (.int .i64 r) ∧ 0 ≤ r ∧ (1 ≤ n → r < n) ∧ Sx G B br l fs da dc fa fc w w' (p + 1) ∧ Keep [br] W w' :=
  (pick_any br p n W' (X.keep0 hk).rd hp hn).mono fun _ _ ⟨r, h1, h2, h3, h4, h5⟩ => ⟨r, h1, h2, h3, (X.keep0 hk).next h4 h5, hk.of0.then h4⟩
theorem one_sx {G' : List Nat} (v : Value) (ls : List Int) (X : Sx G B br l fs da dc fa fc w W p) (hk : Keep [] W W') (hp : p ≤ 1125899906842624) (hm : br ∈ G') (hl : Rep G' W' (ints ls) v) (h0 : 0 < ls.length) (h1 : ls.length ≤ 1000) :
    Calls Tryd.prog 24 #[.pointer (some ⟨br, 0, none⟩), v] W' fun e w' => ∃ r : Int, e = .returned (.int .i64 r) ∧ r ∈ ls ∧ Sx G B br l fs da dc fa fc w w' (p + 1) ∧ Keep [br] W w' ∧ Keep [br] W' w' :=
  (one_any br p v ls W' (X.keep0 hk).rd hm hp hl h0 h1).mono fun _ _ ⟨r, h1, h2, h4, h5⟩ => ⟨r, h1, h2, (X.keep0 hk).next h4 h5, hk.of0.then h4, h4⟩
theorem leaf_sx (hl : GD l) (hs : GS l (sgs fs)) (vv : Value) (vars : List Int) (t : Int) (X : Sx G B br l fs da dc fa fc w W p) (hk : Keep [] W W') (hv : Rep G W (ints vars) vv) (hvl : vars.length ≤ 1000000) (t0 : 0 ≤ t) (t1 : t ≤ l.length) (hc : canB l (sgs fs) vars t = true) (hp : p + 50 ≤ 1125899906842624) :
    Calls Tryd.prog 62 #[.pointer (some ⟨br, 0, none⟩), .agg #[.slice da l.length dc, .slice fa fs.length fc], vv, .int .i64 t] W' (GX G B br l fs da dc fa fc w W W' p 50 (LfT l (sgs fs) vars t)) :=
  (leaf_any (X.keep0 hk).cx p (X.keep0 hk).rd vv vars (hv.keep0 hk) hvl t t0 t1 hc hl hs hp).mono fun _ _ h => GX.of X hk h
theorem gen_sx {b : Int} (hg : GenC l fs b) (vv : Value) (vars : List Int) (t : Int) (X : Sx G B br l fs da dc fa fc w W p) (hk : Keep [] W W') (hv : Rep G W (ints vars) vv) (hvb : vars.length + 3 * b.toNat ≤ 1000) (t0 : 0 ≤ t) (t1 : t ≤ l.length) (hc : canB l (sgs fs) vars t = true) (hp : p + cst b.toNat ≤ 1125899906842624) :
    Calls Tryd.prog 57 #[.pointer (some ⟨br, 0, none⟩), .agg #[.slice da l.length dc, .slice fa fs.length fc], vv, .int .i64 t, .int .i64 b] W' (GX G B br l fs da dc fa fc w W W' p (cst b.toNat) (GnT l (sgs fs) vars t b)) :=
  (hg G B br _ _ W' (X.keep0 hk).cx p (X.keep0 hk).rd vv vars (hv.keep0 hk) hvb t t0 t1 hc hp).mono fun _ _ h => GX.of X hk h
theorem genMatch_sx (hl : GD l) (hs : GS l (sgs fs)) (vv : Value) (vars : List Int) (t b : Int) (X : Sx G B br l fs da dc fa fc w W p) (hk : Keep [] W W') (hv : Rep G W (ints vars) vv) (t0 : 0 ≤ t) (t1 : t ≤ l.length) (hc : canB l (sgs fs) vars t = true) (b0 : 3 ≤ b) (b1 : b ≤ 1000) (hvb : vars.length + 3 * b.toNat ≤ 1000)
    (ih : ∀ b', 0 ≤ b' → b' < b → GenC l fs b') (hp : p + 51 + 3 * cst (b - 2).toNat ≤ 1125899906842624) :
    Calls Tryd.prog 74 #[.pointer (some ⟨br, 0, none⟩), .agg #[.slice da l.length dc, .slice fa fs.length fc], vv, .int .i64 t, .int .i64 b] W' (GX G B br l fs da dc fa fc w W W' p (51 + 3 * cst (b - 2).toNat) (fun x => HasTy l (sgs fs) vars x t)) :=
  (genMatch_any (X.keep0 hk).cx p (X.keep0 hk).rd vv vars (hv.keep0 hk) (by omega) hl hs t t0 t1 hc b b0 b1 hvb ih hp).mono fun _ _ h => GX.of X hk h
/- a list of expressions that a callee draws -/
def GLX (G : List Nat) (B br : Nat) (l : List Dc) (fs : List Fn) (da : Option Addr) (dc : Nat) (fa : Option Addr) (fc : Nat) (w W W' : World) (p c : Nat) (P : List Ex → Prop) (e : Ending) (w' : World) : Prop :=
  ∃ (ks : List Ex) (p' : Nat) (a : Option Addr) (cap : Nat), e = .returned (.slice a ks.length cap) ∧ P ks ∧ Sx G B br l fs da dc fa fc w w' p' ∧ Keep [br] W w' ∧ Keep [br] W' w' ∧ p' ≤ p + c ∧ Rep (List.range W.heap.size) w' (kidsD ks) (.slice a ks.length cap)
theorem genAll_sx (hs : GS l (sgs fs)) (vv : Value) (vars : List Int) (tv : Value) (ts : List Int) (b : Int) (X : Sx G B br l fs da dc fa fc w W p) (hk : Keep [] W W') (hv : Rep G W (ints vars) vv) (ht : Rep G W' (ints ts) tv) (ht3 : ts.length ≤ 3) (b0 : 0 ≤ b) (b1 : b ≤ 1000) (hvb : vars.length + 3 * b.toNat ≤ 1000)
    (hts : ∀ t ∈ ts, 0 ≤ t ∧ t ≤ l.length ∧ canB l (sgs fs) vars t = true) (ih : ∀ b', 0 ≤ b' → b' ≤ b → GenC l fs b') (hp : p + 3 * cst b.toNat ≤ 1125899906842624) :
    Calls Tryd.prog 73 #[.pointer (some ⟨br, 0, none⟩), .agg #[.slice da l.length dc, .slice fa fs.length fc], vv, tv, .int .i64 b] W' (GLX G B br l fs da dc fa fc w W W' p (3 * cst b.toNat) (KidsAt (fun t x => HasTy l (sgs fs) vars x t) ts ts.length)) :=
  (genAll_any (X.keep0 hk).cx p (X.keep0 hk).rd vv vars (hv.keep0 hk) (by omega) hs tv ts ht ht3 b b0 b1 hvb hts ih hp).mono fun _ _ ⟨ks, v, p', h1, h2, h3, h4, h5, h6⟩ => by
    obtain ⟨a, cap, rfl, _⟩ := kids_form h6
    exact ⟨ks, p', a, cap, h1, h2, (X.keep0 hk).next h3 h4, hk.of0.then h3, h3, h5, h6.sub (range_sub hk.size)⟩
theorem anyType_sx (hl : GD l) (hs : GS l (sgs fs)) (vv : Value) (vars : List Int) (X : Sx G B br l fs da dc fa fc w W p) (hk : Keep [] W W') (hv : Rep G W (ints vars) vv) (hvl : vars.length ≤ 1000000) (hp : p + 1 ≤ 1125899906842624) :
    Calls Tryd.prog 72 #[.pointer (some ⟨br, 0, none⟩), .agg #[.slice da l.length dc, .slice fa fs.length fc], vv] W' fun e w' => ∃ (u : Int) (p' : Nat), e = .returned (.int .i64 u) ∧ 0 ≤ u ∧ u ≤ l.length ∧ canB l (sgs fs) vars u = true ∧ Sx G B br l fs da dc fa fc w w' p' ∧ Keep [br] W w' ∧ p' ≤ p + 1 :=
  (anyType_any (X.keep0 hk).cx p (X.keep0 hk).rd vv vars (hv.keep0 hk) hvl hl hs hp).mono fun _ _ ⟨u, p', h1, ⟨h2, h3, h4⟩, h5, h6, h7⟩ => ⟨u, p', h1, h2, h3, h4, (X.keep0 hk).next h5 h6, hk.of0.then h5, h7⟩
theorem canMake_sx (hn : fs.length ≤ 1000) (vv : Value) (vars : List Int) (t : Int) (X : Sx G B br l fs da dc fa fc w W p) (hk : Keep [] W W') (hv : Rep G W (ints vars) vv) :
    Calls Tryd.prog 79 #[.agg #[.slice da l.length dc, .slice fa fs.length fc], vv, .int .i64 t] W' fun e w' => e = .returned (.bool (canB l (sgs fs) vars t)) ∧ Sx G B br l fs da dc fa fc w w' p ∧ Keep [] W w' :=
  (canMake_any _ _ vv l fs vars t W' (X.keep0 hk).cx.hd (X.keep0 hk).cx.hf (hv.keep0 hk) hn (X.keep0 hk).cx.hG).mono fun _ _ ⟨h1, h2⟩ => ⟨h1, (X.keep0 hk).keep0 h2, hk.then0 h2⟩
/- a list of integers that a callee makes -/
def IX (G : List Nat) (B br : Nat) (l : List Dc) (fs : List Fn) (da : Option Addr) (dc : Nat) (fa : Option Addr) (fc : Nat) (w W : World) (p : Nat) (zs : List Int) (e : Ending) (w' : World) : Prop :=
  ∃ (a : Option Addr) (cap : Nat), e = .returned (.slice a zs.length cap) ∧ Sx G B br l fs da dc fa fc w w' p ∧ Keep [] W w' ∧ Rep G w' (ints zs) (.slice a zs.length cap)
theorem IX.of {zs : List Int} {e : Ending} {w' : World} (X : Sx G B br l fs da dc fa fc w W p) (hk : Keep [] W W') (h : RepK G W' (ints zs) e w') : IX G B br l fs da dc fa fc w W p zs e w' := by
  obtain ⟨r, rfl, hk', hr⟩ := h
  obtain ⟨a, cap, rfl, _⟩ := ints_form hr
  exact ⟨a, cap, rfl, (X.keep0 hk).keep0 hk', hk.then0 hk', hr⟩
theorem callable_sx (hn : fs.length ≤ 1000) (h1 : 1 ≤ fs.length) (t : Int) (X : Sx G B br l fs da dc fa fc w W p) (hk : Keep [] W W') :
    Calls Tryd.prog 75 #[.agg #[.slice da l.length dc, .slice fa fs.length fc], .int .i64 t] W' (IX G B br l fs da dc fa fc w W p (calK l (sgs fs) t fs.length)) :=
  (callable_any _ _ l fs t W' (X.keep0 hk).cx.hd (X.keep0 hk).cx.hf hn h1 (X.keep0 hk).cx.hG).mono fun _ _ h => IX.of X hk h.rep
theorem consOf_sx (hb : fcon l l.length ≤ 1073741824) (t : Int) (X : Sx G B br l fs da dc fa fc w W p) (hk : Keep [] W W') :
    Calls Tryd.prog 85 #[.slice da l.length dc, .int .i64 t] W' (IX G B br l fs da dc fa fc w W p (consL l t)) :=
  (consOf_any _ l t W' (X.keep0 hk).cx.hd hb (X.keep0 hk).cx.hG).mono fun _ _ h => IX.of X hk h.rep
theorem conFields_sx (hb : fcon l l.length ≤ 1073741824) (c : Int) (X : Sx G B br l fs da dc fa fc w W p) (hk : Keep [] W W') :
    Calls Tryd.prog 86 #[.slice da l.length dc, .int .i64 c] W' (IX G B br l fs da dc fa fc w W p (cflds l c)) :=
  (conFields_any _ l c W' (X.keep0 hk).cx.hd hb).mono fun _ _ h => IX.of X hk h
theorem extend_sx (v u : Value) (zs ys : List Int) (X : Sx G B br l fs da dc fa fc w W p) (hk : Keep [] W W') (hz : Rep G W' (ints zs) v) (hy : Rep G W' (ints ys) u) (hs : zs.length ≤ 1073741824) (ht : ys.length ≤ 1073741824) :
    Calls Tryd.prog 60 #[v, u] W' (IX G B br l fs da dc fa fc w W p (zs ++ ys)) :=
  (extend_any v u zs ys W' hz hy hs ht (X.keep0 hk).cx.hG).mono fun _ _ h => IX.of X hk (OwnK.rep h)
theorem isArrow_sx (t : Int) (X : Sx G B br l fs da dc fa fc w W p) (hk : Keep [] W W') :
    Calls Tryd.prog 84 #[.slice da l.length dc, .int .i64 t] W' fun e w' => e = .returned (.bool (isArr l t)) ∧ W' = w' :=
  isArrow_any _ l t W' (X.keep0 hk).cx.hd
/- the node that is made last: its kids are there, above the two boxes -/
theorem node_sx (op num : Int) (v : Value) (ks : List Ex) (X : Sx G B br l fs da dc fa fc w W p) (hk : Keep [] W W') (h : Rep (List.range (w.heap.size + 2)) W' (kidsD ks) v) :
    Calls Tryd.prog 58 #[.int .i64 op, .int .i64 num, v] W' fun e w' => ∃ (a : Option Addr) (cap : Nat), e = .returned (.agg #[.int .i64 op, .int .i64 num, .slice a ks.length cap]) ∧ Sx G B br l fs da dc fa fc w w' p ∧ Keep [] W w' ∧ Rep (List.range (w.heap.size + 2)) w' (kidsD ks) (.slice a ks.length cap) :=
  (node_any op num v ks W' h).mono fun _ _ ⟨v, h1, h2, a, cap, h3, h4⟩ => ⟨a, cap, by rw [h1, h3]; rfl, (X.keep0 hk).keep0 h2, hk.then0 h2, h4⟩
theorem variable_sx (n : Int) (X : Sx G B br l fs da dc fa fc w W p) (hk : Keep [] W W') :
    Calls Tryd.prog 61 #[.int .i64 n] W' fun e w' => ∃ (a : Option Addr) (cap : Nat), e = .returned (.agg #[.int .i64 12, .int .i64 n, .slice a 0 cap]) ∧ Sx G B br l fs da dc fa fc w w' p ∧ Keep [] W w' ∧ Rep (List.range W.heap.size) w' (kidsD []) (.slice a 0 cap) :=
  (variable_any (List.range W.heap.size) n W').mono fun _ _ ⟨v, h1, h2, a, cap, h3, h4⟩ => ⟨a, cap, by rw [h1, h3]; rfl, (X.keep0 hk).keep0 h2, hk.then0 h2, h4⟩
theorem integer_sx (n : Int) (X : Sx G B br l fs da dc fa fc w W p) (hk : Keep [] W W') :
    Calls Tryd.prog 40 #[.int .i64 n] W' fun e w' => ∃ (a : Option Addr) (cap : Nat), e = .returned (.agg #[.int .i64 0, .int .i64 n, .slice a 0 cap]) ∧ Sx G B br l fs da dc fa fc w w' p ∧ Keep [] W w' ∧ Rep (List.range W.heap.size) w' (kidsD []) (.slice a 0 cap) :=
  (integer_any (List.range W.heap.size) n W').mono fun _ _ ⟨v, h1, h2, a, cap, h3, h4⟩ => ⟨a, cap, by rw [h1, h3]; rfl, (X.keep0 hk).keep0 h2, hk.then0 h2, h4⟩
end
end Go.Proofs.YtnjincgemmgllaaDoor
