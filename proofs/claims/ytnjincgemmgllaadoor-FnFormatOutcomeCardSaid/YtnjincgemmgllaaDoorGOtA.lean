/- The walk of the generator's overTree. -/
import Derived.Test.YtnjincgemmgllaaDoorGOlist
namespace Go.Proofs.YtnjincgemmgllaaDoor
open Go.RowKit
attribute [local go_sem ↓] Go.wp_at_zero Go.wp_at_succ

/- a block as it lies -/
def Blk (W : World) (n : Nat) (cs : Array Value) (T : TypeId) : Prop := W.heap[n]? = some (.cells cs T (0, 0))
section
variable {W W' : World} {n : Nat} {cs : Array Value} {T : TypeId}
theorem Blk.lt (h : Blk W n cs T) : n < W.heap.size := (Array.getElem?_eq_some_iff.1 h).1
theorem Blk.new (hn : n = W.heap.size) : Blk (W.alloc (.cells cs T)) n cs T := by subst hn; exact heap_alloc_new W _
theorem Blk.keep {M : List Nat} (h : Blk W n cs T) (hk : Keep M W W') (hn : n ∉ M) : Blk W' n cs T := (hk.block n h.lt hn).trans h
theorem Blk.keep0 (h : Blk W n cs T) (hk : Keep [] W W') : Blk W' n cs T := h.keep hk (by simp)
theorem Blk.alloc (h : Blk W n cs T) (o : Obj) : Blk (W.alloc o) n cs T := h.keep0 ((Keep.refl _ _).alloc o)
theorem Blk.drew (h : Blk W n cs T) : Blk W.drew n cs T := h.keep0 (Keep.refl _ _).drew
theorem Blk.put {c0 c1 c2 : Value} {k : Nat} (h : Blk W n cs T) (hn : n ≠ k) : Blk (put3 W k c0 c1 c2) n cs T := h.keep (Keep.put3' W k _ _ _) (by simpa using hn)
end
theorem kids_blk2 {G : List Nat} {W : World} {n : Nat} {x y : Ex} {ax ay : Option Addr} {cx cy : Nat} {E : TypeId} (h : Blk W n #[.int .i64 x.op, .int .i64 x.num, .slice ax x.kids.length cx, .int .i64 y.op, .int .i64 y.num, .slice ay y.kids.length cy] E) (hn : n ∉ G)
    (h1 : Rep G W (kidsD x.kids) (.slice ax x.kids.length cx)) (h2 : Rep G W (kidsD y.kids) (.slice ay y.kids.length cy)) : Rep G W (kidsD [x, y]) (.slice (some ⟨n, 0, none⟩) 2 2) := by
  unfold kidsD
  simp only [Rep]
  refine ⟨_, 2, rfl, by simp, by omega, fun _ => ⟨n, 0, rfl, hn, h.lt, ?_⟩⟩
  refine RepE.of_cells (es := [encE x, encE y]) (vs := [.int .i64 x.op, .int .i64 x.num, .slice ax x.kids.length cx, .int .i64 y.op, .int .i64 y.num, .slice ay y.kids.length cy]) (fun e he => by simp at he; rcases he with rfl | rfl <;> exact encE_len _) (by rw [encE_eq, encE_eq]; exact ⟨rfl, rfl, h1, rfl, rfl, h2, trivial⟩) (fun j u hu => ?_)
  rw [cell_of_row W n (0 + j) _ _ _ h, Nat.zero_add]
  simpa using hu
theorem gen_sw {G : List Nat} {B br : Nat} {l : List Dc} {fs : List Fn} {da : Option Addr} {dc : Nat} {fa : Option Addr} {fc : Nat} {w W W' : World} {p : Nat} {b : Int} (hg : GenC l fs b) (vv : Value) (vars : List Int) (t : Int) (X : Sx G B br l fs da dc fa fc w W p) (hk : Keep [] W W') (hv : Rep G W' (ints vars) vv) (hvb : vars.length + 3 * b.toNat ≤ 1000) (t0 : 0 ≤ t) (t1 : t ≤ l.length) (hc : canB l (sgs fs) vars t = true) (hp : p + cst b.toNat ≤ 1125899906842624) :
    Calls Tryd.prog 57 #[.pointer (some ⟨br, 0, none⟩), .agg #[.slice da l.length dc, .slice fa fs.length fc], vv, .int .i64 t, .int .i64 b] W' fun e w' =>
      ∃ (x : Ex) (p' : Nat) (a : Option Addr) (cap : Nat), e = .returned (.agg #[.int .i64 x.op, .int .i64 x.num, .slice a x.kids.length cap]) ∧ HasTy l (sgs fs) vars x t ∧ Sx G B br l fs da dc fa fc w w' p' ∧ Keep [br] W w' ∧ Keep [br] W' w' ∧ p' ≤ p + cst b.toNat ∧ Rep (List.range W'.heap.size) w' (kidsD x.kids) (.slice a x.kids.length cap) :=
  (hg G B br _ _ W' (X.keep0 hk).cx p (X.keep0 hk).rd vv vars hv hvb t t0 t1 hc hp).mono fun _ _ ⟨x, v, p', h1, h2, h3, h4, h5, a, cap, h6, h7⟩ => ⟨x, p', a, cap, by rw [h1, h6], h2.1, (X.keep0 hk).next h3 h4, hk.of0.then h3, h3, h5, h7⟩
theorem Bx.setB {Gb Gb' : List Nat} {W : World} {k : Nat} {x y : Ex} {a : Option Addr} {cap : Nat} (h : Bx Gb' W k y) (hk : k ∈ Gb) (hx : Rep Gb W (kidsD x.kids) (.slice a x.kids.length cap)) : Bx Gb (put3 W k (.int .i64 x.op) (.int .i64 x.num) (.slice a x.kids.length cap)) k x := by
  obtain ⟨a', cap', h1, _⟩ := h.ex
  exact ⟨a, cap, put3_block h1, hx.keep (Keep.put3' W k _ _ _) (fun m hm => by simp at hm; subst hm; exact .inl hk)⟩
/- what the drawn statement of overTree leaves: a box at K with  left + (y + right) -/
structure OT (br : Nat) (w W0 wx : World) (L R : Ex) (K : Nat) (y : Ex) : Prop where
  hK : W0.heap.size ≤ K
  box : Bx (List.range (w.heap.size + 2)) wx K (.mk 1 0 [L, .mk 1 0 [y, R]])
  keep : Keep [br] W0 wx
theorem OT.ofPut {br : Nat} {w W0 wy W : World} {L R y : Ex} {aL aR ay : Option Addr} {cL cR cy K s1 s2 m : Nat} (hb : br < w.heap.size) (h0 : w.heap.size + 2 ≤ W0.heap.size) (hk : Keep [br] W0 W) (hL : Rep (List.range (w.heap.size + 2)) W0 (kidsD L.kids) (.slice aL L.kids.length cL)) (hR : Rep (List.range (w.heap.size + 2)) W0 (kidsD R.kids) (.slice aR R.kids.length cR))
    (hy : Rep (List.range m) wy (kidsD y.kids) (.slice ay y.kids.length cy)) (hky : Keep [] wy W) (hm : w.heap.size + 2 ≤ m) (hmK : K < m ∨ wy.heap.size ≤ K)
    (b1 : Blk W s1 #[.int .i64 y.op, .int .i64 y.num, .slice ay y.kids.length cy, .int .i64 R.op, .int .i64 R.num, .slice aR R.kids.length cR] 55)
    (b2 : Blk W s2 #[.int .i64 L.op, .int .i64 L.num, .slice aL L.kids.length cL, .int .i64 1, .int .i64 0, .slice (some ⟨s1, 0, none⟩) 2 2] 55)
    (hs1 : w.heap.size + 2 ≤ s1) (hs2 : w.heap.size + 2 ≤ s2) (hK : W0.heap.size ≤ K) (h1 : s1 ≠ K) (h2 : s2 ≠ K) (hz : ∃ c0 c1 c2, Blk W K #[c0, c1, c2] 55) :
    OT br w W0 (put3 W K (.int .i64 1) (.int .i64 0) (.slice (some ⟨s2, 0, none⟩) 2 2)) L R K y := by
  obtain ⟨c0, c1, c2, hz⟩ := hz
  have hkk : Keep [br] W0 (put3 W K (.int .i64 1) (.int .i64 0) (.slice (some ⟨s2, 0, none⟩) 2 2)) := hk.put3 hK _ _ _
  have hL' := hL.keep hkk (fun m hm => by simp at hm; subst hm; exact .inl (by simp; omega))
  have hR' := hR.keep hkk (fun m hm => by simp at hm; subst hm; exact .inl (by simp; omega))
  have hy' : Rep (List.range (w.heap.size + 2)) (put3 W K (.int .i64 1) (.int .i64 0) (.slice (some ⟨s2, 0, none⟩) 2 2)) (kidsD y.kids) (.slice ay y.kids.length cy) := by
    rcases hmK with h | h
    · exact ((hy.keep0 hky).keep (Keep.put3' W K _ _ _) (fun g hg => by simp at hg; subst hg; exact .inl (by simpa using h))).sub (range_sub hm)
    · exact (hy.keep0 (hky.put3 h _ _ _)).sub (range_sub hm)
  refine ⟨hK, ⟨_, 2, put3_block hz, ?_⟩, hkk⟩
  exact kids_blk2 (y := .mk 1 0 [y, R]) (b2.put h2) (by simp; omega) hL' (kids_blk2 (b1.put h1) (by simp; omega) hy' hR')
theorem OT.ofNew {br : Nat} {w W0 wy W : World} {L R y : Ex} {aL aR ay : Option Addr} {cL cR cy s1 s2 m : Nat} (hb : br < w.heap.size) (h0 : w.heap.size + 2 ≤ W0.heap.size) (hk : Keep [br] W0 W) (hL : Rep (List.range (w.heap.size + 2)) W0 (kidsD L.kids) (.slice aL L.kids.length cL)) (hR : Rep (List.range (w.heap.size + 2)) W0 (kidsD R.kids) (.slice aR R.kids.length cR))
    (hy : Rep (List.range m) wy (kidsD y.kids) (.slice ay y.kids.length cy)) (hky : Keep [] wy W) (hm : w.heap.size + 2 ≤ m)
    (b1 : Blk W s1 #[.int .i64 y.op, .int .i64 y.num, .slice ay y.kids.length cy, .int .i64 R.op, .int .i64 R.num, .slice aR R.kids.length cR] 55)
    (b2 : Blk W s2 #[.int .i64 L.op, .int .i64 L.num, .slice aL L.kids.length cL, .int .i64 1, .int .i64 0, .slice (some ⟨s1, 0, none⟩) 2 2] 55)
    (hs1 : w.heap.size + 2 ≤ s1) (hs2 : w.heap.size + 2 ≤ s2) :
    OT br w W0 (W.alloc (.cells #[.int .i64 1, .int .i64 0, .slice (some ⟨s2, 0, none⟩) 2 2] 55)) L R W.heap.size y := by
  have hkk := hk.alloc (.cells #[.int .i64 1, .int .i64 0, .slice (some ⟨s2, 0, none⟩) 2 2] 55)
  have hL' := hL.keep hkk (fun m hm => by simp at hm; subst hm; exact .inl (by simp; omega))
  have hR' := hR.keep hkk (fun m hm => by simp at hm; subst hm; exact .inl (by simp; omega))
  have hy' := (hy.keep0 (hky.alloc (.cells #[.int .i64 1, .int .i64 0, .slice (some ⟨s2, 0, none⟩) 2 2] 55))).sub (G' := List.range (w.heap.size + 2)) (range_sub hm)
  refine ⟨hk.size, ⟨_, 2, heap_alloc_new W _, ?_⟩, hkk⟩
  exact kids_blk2 (y := .mk 1 0 [y, R]) (b2.alloc _) (by simp; omega) hL' (kids_blk2 (b1.alloc _) (by simp; omega) hy' hR')
end Go.Proofs.YtnjincgemmgllaaDoor
