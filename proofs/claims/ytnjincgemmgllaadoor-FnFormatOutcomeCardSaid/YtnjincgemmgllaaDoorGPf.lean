/- The array of the program's functions, when its bodies are laid one by one: plain facts. -/
import Derived.Test.YtnjincgemmgllaaDoorGPb
namespace Go.Proofs.YtnjincgemmgllaaDoor
open Go.RowKit

def put5 (w : World) (R o : Nat) (c0 c1 c2 c3 c4 : Value) : World := ((((w.setCell ⟨R, o, none⟩ c0).setCell ⟨R, o + 1, none⟩ c1).setCell ⟨R, o + 2, none⟩ c2).setCell ⟨R, o + 3, none⟩ c3).setCell ⟨R, o + 4, none⟩ c4
theorem Keep.put5' (w : World) (R o : Nat) (c0 c1 c2 c3 c4 : Value) : Keep [R] w (put5 w R o c0 c1 c2 c3 c4) :=
  (((((Keep.refl _ _).setCell (.inl (by simp)) _).setCell (.inl (by simp)) _).setCell (.inl (by simp)) _).setCell (.inl (by simp)) _).setCell (.inl (by simp)) _
theorem cell_same {w : World} {k i : Nat} {u v : Value} (h : w.cell? ⟨k, i, none⟩ = some u) : (w.setCell ⟨k, i, none⟩ v).cell? ⟨k, i, none⟩ = some v := World.cell?_setCell_same w _ _ h
theorem cell_oth {w : World} {k o i : Nat} {v : Value} (h : o ≠ i) : (w.setCell ⟨k, o, none⟩ v).cell? ⟨k, i, none⟩ = w.cell? ⟨k, i, none⟩ := World.cell?_setCell_other w _ _ _ (by simp [h])
theorem put5_oth {w : World} {R o i : Nat} {c0 c1 c2 c3 c4 : Value} (h : i < o ∨ o + 4 < i) : (put5 w R o c0 c1 c2 c3 c4).cell? ⟨R, i, none⟩ = w.cell? ⟨R, i, none⟩ := by
  unfold put5
  rw [cell_oth (by omega), cell_oth (by omega), cell_oth (by omega), cell_oth (by omega), cell_oth (by omega)]
theorem put5_at {w : World} {R o : Nat} {c0 c1 c2 c3 c4 u0 u1 u2 u3 u4 : Value} (h0 : w.cell? ⟨R, o, none⟩ = some u0) (h1 : w.cell? ⟨R, o + 1, none⟩ = some u1) (h2 : w.cell? ⟨R, o + 2, none⟩ = some u2) (h3 : w.cell? ⟨R, o + 3, none⟩ = some u3) (h4 : w.cell? ⟨R, o + 4, none⟩ = some u4) :
    (put5 w R o c0 c1 c2 c3 c4).cell? ⟨R, o, none⟩ = some c0 ∧ (put5 w R o c0 c1 c2 c3 c4).cell? ⟨R, o + 1, none⟩ = some c1 ∧ (put5 w R o c0 c1 c2 c3 c4).cell? ⟨R, o + 2, none⟩ = some c2 ∧ (put5 w R o c0 c1 c2 c3 c4).cell? ⟨R, o + 3, none⟩ = some c3 ∧ (put5 w R o c0 c1 c2 c3 c4).cell? ⟨R, o + 4, none⟩ = some c4 := by
  unfold put5
  refine ⟨?_, ?_, ?_, ?_, ?_⟩
  · rw [cell_oth (by omega), cell_oth (by omega), cell_oth (by omega), cell_oth (by omega)]; exact cell_same h0
  · rw [cell_oth (by omega), cell_oth (by omega), cell_oth (by omega)]; exact cell_same (u := u1) (by rw [cell_oth (by omega)]; exact h1)
  · rw [cell_oth (by omega), cell_oth (by omega)]; exact cell_same (u := u2) (by rw [cell_oth (by omega), cell_oth (by omega)]; exact h2)
  · rw [cell_oth (by omega)]; exact cell_same (u := u3) (by rw [cell_oth (by omega), cell_oth (by omega), cell_oth (by omega)]; exact h3)
  · exact cell_same (u := u4) (by rw [cell_oth (by omega), cell_oth (by omega), cell_oth (by omega), cell_oth (by omega)]; exact h4)

def FCell (G : List Nat) (w : World) (k o : Nat) (f : Fn) : Prop := ∃ (pa : Option Addr) (pc : Nat) (ka : Option Addr) (kc : Nat), w.cell? ⟨k, o, none⟩ = some (.slice pa f.sig.params.length pc) ∧ w.cell? ⟨k, o + 1, none⟩ = some (.int .i64 f.sig.result) ∧ w.cell? ⟨k, o + 2, none⟩ = some (.int .i64 f.body.op) ∧ w.cell? ⟨k, o + 3, none⟩ = some (.int .i64 f.body.num) ∧ w.cell? ⟨k, o + 4, none⟩ = some (.slice ka f.body.kids.length kc) ∧ Rep G w (ints f.sig.params) (.slice pa f.sig.params.length pc) ∧ Rep G w (kidsD f.body.kids) (.slice ka f.body.kids.length kc)
structure FArr (G : List Nat) (w : World) (k : Nat) (fs : List Fn) : Prop where
  nG : k ∉ G
  lt : k < w.heap.size
  fz : ∀ o, w.frozen? ⟨k, o, none⟩ = false
  at_ : ∀ j (h : j < fs.length), FCell (k :: G) w k (j * 5) fs[j]
theorem RepE.of_at {G : List Nat} {w : World} {sz b : Nat} : ∀ {es : List (List D)} {off : Nat}, (∀ (i : Nat) (hi : i < es.length), es[i].length = sz ∧ RepL G w b es[i] (off + i * sz)) → RepE G w sz b es off
  | [], _, _ => by simp only [RepE]
  | e :: es, off, h => by
    simp only [RepE]
    refine ⟨(h 0 (by simp)).1, by have := (h 0 (by simp)).2; rw [Nat.zero_mul, Nat.add_zero] at this; exact this, RepE.of_at fun i hi => ?_⟩
    have := h (i + 1) (by simpa using hi)
    rw [show off + (i + 1) * sz = off + sz + i * sz by rw [Nat.add_mul]; omega] at this
    simpa using this
theorem FCell.rep {G : List Nat} {w : World} {k o : Nat} {f : Fn} (h : FCell G w k o f) : RepL G w k (encF f) o := by
  obtain ⟨pa, pc, ka, kc, h0, h1, h2, h3, h4, h5, h6⟩ := h
  simp only [encF, RepL]
  exact ⟨⟨_, h0, h5⟩, ⟨_, h1, by simp only [Rep]⟩, ⟨_, h2, by simp only [Rep]⟩, ⟨_, h3, by simp only [Rep]⟩, ⟨_, h4, h6⟩, trivial⟩
theorem FCell.keep {G : List Nat} {w w' : World} {k o : Nat} {f : Fn} {M : List Nat} (h : FCell G w k o f) (hk : Keep M w w') (hb : k ∉ M) (hM : ∀ m, m ∈ M → m ∈ G ∨ w.heap.size ≤ m) : FCell G w' k o f := by
  obtain ⟨pa, pc, ka, kc, h0, h1, h2, h3, h4, h5, h6⟩ := h
  exact ⟨pa, pc, ka, kc, hk.cellEq h0 hb, hk.cellEq h1 hb, hk.cellEq h2 hb, hk.cellEq h3 hb, hk.cellEq h4 hb, h5.keep hk hM, h6.keep hk hM⟩
theorem FArr.keep {G : List Nat} {w w' : World} {k : Nat} {fs : List Fn} {M : List Nat} (h : FArr G w k fs) (hk : Keep M w w') (hM : ∀ m, m ∈ M → m ∈ G ∨ w.heap.size ≤ m) : FArr G w' k fs := by
  have hkM : k ∉ M := fun hm => by
    rcases hM k hm with h1 | h1
    · exact h.nG h1
    · have := h.lt; omega
  exact ⟨h.nG, Nat.lt_of_lt_of_le h.lt hk.size, fun o => (hk.frozen (p := ⟨k, o, none⟩) h.lt hkM).trans (h.fz o), fun j hj => (h.at_ j hj).keep hk hkM fun m hm => (hM m hm).imp (List.mem_cons_of_mem _) id⟩
theorem FArr.keep0 {G : List Nat} {w w' : World} {k : Nat} {fs : List Fn} (h : FArr G w k fs) (hk : Keep [] w w') : FArr G w' k fs := h.keep hk fun _ hm => by cases hm
theorem FArr.rep {G : List Nat} {w : World} {k cap : Nat} {fs : List Fn} (h : FArr G w k fs) (hc : fs.length ≤ cap) (hc' : cap ≤ 1000) : Rep G w (funcsD fs) (.slice (some ⟨k, 0, none⟩) fs.length cap) := by
  have h1 : Rep G w (.arr 5 (fs.map encF)) (.slice (some ⟨k, 0, none⟩) (fs.map encF).length cap) := by
    simp only [Rep]
    refine ⟨_, _, rfl, by simpa using hc, by omega, fun _ => ⟨k, 0, rfl, h.nG, h.lt, RepE.of_at fun i hi => ?_⟩⟩
    have hi' : i < fs.length := by simpa using hi
    rw [List.getElem_map]
    refine ⟨rfl, ?_⟩
    rw [Nat.zero_add]
    obtain ⟨pa, pc, ka, kc, h0, h1, h2, h3, h4, h5, h6⟩ := h.at_ i hi'
    exact FCell.rep ⟨pa, pc, ka, kc, h0, h1, h2, h3, h4, h5.tail, h6.tail⟩
  rw [List.length_map] at h1
  exact h1
theorem FArr.take {G : List Nat} {w : World} {k : Nat} {fs : List Fn} (h : FArr G w k fs) (n : Nat) : FArr G w k (fs.take n) :=
  ⟨h.nG, h.lt, h.fz, fun j hj => by
    have h1 : j < fs.length := by simp at hj; omega
    have := h.at_ j h1
    rw [List.getElem_take]
    exact this⟩
theorem put5_fz {w : World} {R o i b : Nat} {c0 c1 c2 c3 c4 : Value} : (put5 w R o c0 c1 c2 c3 c4).frozen? ⟨b, i, none⟩ = w.frozen? ⟨b, i, none⟩ := by
  unfold put5
  go_simp
theorem FArr.put {G : List Nat} {w : World} {k : Nat} {fs : List Fn} (h : FArr G w k fs) {f : Nat} (hf : f < fs.length) {x : Ex} {pa ka : Option Addr} {pc kc : Nat} (hp : Rep (k :: G) w (ints fs[f].sig.params) (.slice pa fs[f].sig.params.length pc)) (hx : Rep (k :: G) w (kidsD x.kids) (.slice ka x.kids.length kc)) :
    FArr G (put5 w k (f * 5) (.slice pa fs[f].sig.params.length pc) (.int .i64 fs[f].sig.result) (.int .i64 x.op) (.int .i64 x.num) (.slice ka x.kids.length kc)) k (fs.set f ⟨fs[f].sig, x⟩) := by
  have hk := Keep.put5' w k (f * 5) (.slice pa fs[f].sig.params.length pc) (.int .i64 fs[f].sig.result) (.int .i64 x.op) (.int .i64 x.num) (.slice ka x.kids.length kc)
  have hM : ∀ m, m ∈ [k] → m ∈ k :: G ∨ w.heap.size ≤ m := fun m hm => by simp at hm; subst hm; exact .inl (by simp)
  refine ⟨h.nG, Nat.lt_of_lt_of_le h.lt hk.size, fun o => put5_fz.trans (h.fz o), fun j hj => ?_⟩
  have hj' : j < fs.length := by simpa using hj
  obtain ⟨qa, qc, ra, rc, h0, h1, h2, h3, h4, h5, h6⟩ := h.at_ j hj'
  by_cases e : f = j
  · subst e
    rw [List.getElem_set_self]
    obtain ⟨g0, g1, g2, g3, g4⟩ := put5_at (c0 := .slice pa fs[f].sig.params.length pc) (c1 := .int .i64 fs[f].sig.result) (c2 := .int .i64 x.op) (c3 := .int .i64 x.num) (c4 := .slice ka x.kids.length kc) h0 h1 h2 h3 h4
    exact ⟨pa, pc, ka, kc, g0, g1, g2, g3, g4, hp.keep hk hM, hx.keep hk hM⟩
  · rw [List.getElem_set_ne e]
    exact ⟨qa, qc, ra, rc, (put5_oth (by omega)).trans h0, (put5_oth (by omega)).trans h1, (put5_oth (by omega)).trans h2, (put5_oth (by omega)).trans h3, (put5_oth (by omega)).trans h4, h5.keep hk hM, h6.keep hk hM⟩
theorem fz_of {w : World} {k o : Nat} {cs : Array Value} {T : TypeId} (h : w.heap[k]? = some (.cells cs T (0, 0))) : w.frozen? ⟨k, o, none⟩ = false := by simp [World.frozen?, h]
theorem fcell_new {G : List Nat} {w : World} {k o : Nat} {ps : List Int} {r : Int} {a : Option Addr} {c : Nat} (h0 : w.cell? ⟨k, o, none⟩ = some (.slice a ps.length c)) (h1 : w.cell? ⟨k, o + 1, none⟩ = some (.int .i64 r)) (h2 : w.cell? ⟨k, o + 2, none⟩ = some (.int .i64 0)) (h3 : w.cell? ⟨k, o + 3, none⟩ = some (.int .i64 0)) (h4 : w.cell? ⟨k, o + 4, none⟩ = some (.slice none 0 0)) (hp : Rep G w (ints ps) (.slice a ps.length c)) : FCell G w k o (mkF ps r) :=
  ⟨a, c, none, 0, h0, h1, h2, h3, h4, hp, Rep.nil _ _ _ _ _ (by omega)⟩
theorem farr4 {G : List Nat} {w : World} {p0 p1 p2 p3 : List Int} {r0 r1 r2 r3 : Int} {a0 a1 a2 a3 : Option Addr} {c0 c1 c2 c3 : Nat} (hG : ∀ g, g ∈ G → g < w.heap.size) (h0 : Rep G w (ints p0) (.slice a0 p0.length c0)) (h1 : Rep G w (ints p1) (.slice a1 p1.length c1)) (h2 : Rep G w (ints p2) (.slice a2 p2.length c2)) (h3 : Rep G w (ints p3) (.slice a3 p3.length c3)) :
    FArr G (w.alloc (.cells #[.slice a0 p0.length c0, .int .i64 r0, .int .i64 0, .int .i64 0, .slice none 0 0, .slice a1 p1.length c1, .int .i64 r1, .int .i64 0, .int .i64 0, .slice none 0 0, .slice a2 p2.length c2, .int .i64 r2, .int .i64 0, .int .i64 0, .slice none 0 0, .slice a3 p3.length c3, .int .i64 r3, .int .i64 0, .int .i64 0, .slice none 0 0] 57)) w.heap.size [mkF p0 r0, mkF p1 r1, mkF p2 r2, mkF p3 r3] := by
  have up : ∀ {d : D} {v : Value}, Rep G w d v → Rep (w.heap.size :: G) (w.alloc (.cells #[.slice a0 p0.length c0, .int .i64 r0, .int .i64 0, .int .i64 0, .slice none 0 0, .slice a1 p1.length c1, .int .i64 r1, .int .i64 0, .int .i64 0, .slice none 0 0, .slice a2 p2.length c2, .int .i64 r2, .int .i64 0, .int .i64 0, .slice none 0 0, .slice a3 p3.length c3, .int .i64 r3, .int .i64 0, .int .i64 0, .slice none 0 0] 57)) d v := fun h => (h.cons (Nat.le_refl _)).alloc _
  refine ⟨fun hm => by have := hG _ hm; omega, by simp, fun o => fz_of (heap_alloc_new w _), fun j hj => ?_⟩
  rcases (show j = 0 ∨ j = 1 ∨ j = 2 ∨ j = 3 by simp at hj; omega) with rfl | rfl | rfl | rfl
  · exact fcell_new (by rw [World.cell?_alloc_new]; rfl) (by rw [World.cell?_alloc_new]; rfl) (by rw [World.cell?_alloc_new]; rfl) (by rw [World.cell?_alloc_new]; rfl) (by rw [World.cell?_alloc_new]; rfl) (up h0)
  · exact fcell_new (by rw [World.cell?_alloc_new]; rfl) (by rw [World.cell?_alloc_new]; rfl) (by rw [World.cell?_alloc_new]; rfl) (by rw [World.cell?_alloc_new]; rfl) (by rw [World.cell?_alloc_new]; rfl) (up h1)
  · exact fcell_new (by rw [World.cell?_alloc_new]; rfl) (by rw [World.cell?_alloc_new]; rfl) (by rw [World.cell?_alloc_new]; rfl) (by rw [World.cell?_alloc_new]; rfl) (by rw [World.cell?_alloc_new]; rfl) (up h2)
  · exact fcell_new (by rw [World.cell?_alloc_new]; rfl) (by rw [World.cell?_alloc_new]; rfl) (by rw [World.cell?_alloc_new]; rfl) (by rw [World.cell?_alloc_new]; rfl) (by rw [World.cell?_alloc_new]; rfl) (up h3)
end Go.Proofs.YtnjincgemmgllaaDoor
