/- Memory read as plain data: the predicates Rep, Keep, Own and their laws (no function of the program is walked here). -/
import Derived.Test.YtnjincgemmgllaaDoorProg
import Derived.WalkKit
import Derived.WalkSpells
import Derived.WalkLawsBesides
import Derived.WalkSmall
import Derived.Deep.QuietTactic
import Derived.BigQuiet
import Derived.Lib.Hide
import Derived.Lib.QuietBelow
import Derived.Deep.OwnRows
import Derived.Maps.AppendAt
import Derived.Deep.RegionLaw
namespace Go.Proofs.YtnjincgemmgllaaDoor
open Go.RowKit

theorem ret_bool {a b : Bool} (h : a = b) : Ending.returned (.bool a) = .returned (.bool b) := by rw [h]
theorem ret_str {a b : ByteArray} (h : a = b) : Ending.returned (.string a) = .returned (.string b) := by rw [h]
theorem ret_int {k : IntKind} {a b : Int} (h : a = b) : Ending.returned (.int k a) = .returned (.int k b) := by rw [h]
theorem take_snoc' {α : Type} (l : List α) (k : Nat) (h : k < l.length) : l.take (k + 1) = l.take k ++ [l[k]] := by
  rw [List.take_succ_eq_append_getElem h]

/- Keep M w w': of the blocks that w has, only those in M may have changed. -/
structure Keep (M : List Nat) (w w' : World) : Prop where
  os : w'.os = w.os
  tape : w'.tape = w.tape
  output : w'.output = w.output
  size : w.heap.size ≤ w'.heap.size
  block : ∀ k, k < w.heap.size → k ∉ M → w'.heap[k]? = w.heap[k]?

theorem Keep.refl (M : List Nat) (w : World) : Keep M w w := ⟨rfl, rfl, rfl, Nat.le_refl _, fun _ _ _ => rfl⟩
theorem Keep.trans {M M' : List Nat} {a b c : World} (h : Keep M a b) (k : Keep M' b c) (hm : ∀ m, m ∈ M' → m ∈ M ∨ a.heap.size ≤ m) : Keep M a c :=
  ⟨k.os.trans h.os, k.tape.trans h.tape, k.output.trans h.output, Nat.le_trans h.size k.size, fun i hi hn =>
    (k.block i (Nat.lt_of_lt_of_le hi h.size) (fun hmem => by rcases hm i hmem with h1 | h1
                                                              · exact hn h1
                                                              · omega)).trans (h.block i hi hn)⟩
theorem Keep.then {M : List Nat} {a b c : World} (h : Keep M a b) (k : Keep M b c) : Keep M a c := h.trans k fun _ hm => .inl hm
theorem Keep.then0 {M : List Nat} {a b c : World} (h : Keep M a b) (k : Keep [] b c) : Keep M a c := h.trans k fun _ hm => by cases hm
theorem Keep.mono {M M' : List Nat} {a b : World} (h : Keep M a b) (hm : ∀ m, m ∈ M → m ∈ M' ∨ a.heap.size ≤ m) : Keep M' a b :=
  ⟨h.os, h.tape, h.output, h.size, fun i hi hn => h.block i hi (fun hmem => by rcases hm i hmem with h1 | h1
                                                                               · exact hn h1
                                                                               · omega)⟩
theorem Keep.sub {M M' : List Nat} {a b : World} (h : Keep M a b) (hm : ∀ m, m ∈ M → m ∈ M') : Keep M' a b := h.mono fun m hh => .inl (hm m hh)
theorem Keep.of0 {M : List Nat} {a b : World} (h : Keep [] a b) : Keep M a b := h.sub fun _ hm => by cases hm
theorem Keep.drew {M : List Nat} {a w : World} (h : Keep M a w) : Keep M a w.drew := ⟨h.os, h.tape, h.output, h.size, h.block⟩
theorem Keep.drewN {M : List Nat} {a w : World} (h : Keep M a w) (n : Nat) : Keep M a (w.drewN n) := ⟨h.os, h.tape, h.output, h.size, h.block⟩
theorem Keep.alloc {M : List Nat} {a w : World} (h : Keep M a w) (o : Obj) : Keep M a (w.alloc o) :=
  h.trans (M' := []) ⟨rfl, rfl, rfl, by simp, fun k hk _ => Below.heap_alloc _ _ _ hk⟩ fun _ hm => by cases hm
theorem Keep.setCell {M : List Nat} {a w : World} (h : Keep M a w) {p : Addr} (hp : p.block ∈ M ∨ a.heap.size ≤ p.block) (u : Value) : Keep M a (w.setCell p u) :=
  h.trans (M' := [p.block]) ⟨rfl, rfl, rfl, by simp [World.setCell], fun k _ hk => Below.heap_setCell _ _ _ _ (fun e => hk (by simp [e]))⟩ fun m hm => by
    rcases List.mem_singleton.1 hm with rfl
    exact hp
theorem Keep.below {M : List Nat} {B : Nat} {a b : World} (h : Keep M a b) (hB : B ≤ a.heap.size) (hM : ∀ m, m ∈ M → B ≤ m) : Below B a b :=
  ⟨h.os, h.tape, h.output, h.size, fun k hk => h.block k (by omega) (fun hm => by have := hM k hm; omega)⟩
theorem Keep.below0 {a b : World} (h : Keep [] a b) : Below a.heap.size a b := h.below (Nat.le_refl _) fun _ hm => by cases hm
theorem Keep.of_below {a b : World} (h : Below a.heap.size a b) : Keep [] a b := ⟨h.os, h.tape, h.output, h.size, fun k hk _ => h.block k hk⟩
theorem Keep.grown {M : List Nat} {a w w' : World} {row : Option Nat} (h : Keep M a w) (hg : w.grownBy w' row) (hr : ∀ k, row = some k → k ∈ M ∨ a.heap.size ≤ k) : Keep M a w' :=
  h.trans (M' := row.toList) ⟨hg.os, hg.tape, hg.output, hg.size, fun k hk hn => hg.block k hk (fun e => hn (by simp [← e]))⟩ fun m hm => hr m (by simpa using hm)
theorem Keep.cell {M : List Nat} {w w' : World} (h : Keep M w w') {p : Addr} (hp : p.block < w.heap.size) (hm : p.block ∉ M) : w'.cell? p = w.cell? p :=
  World.cell?_of_block (w := w) (h.block p.block hp hm)
theorem Keep.cellEq {M : List Nat} {w w' : World} (h : Keep M w w') {p : Addr} {v : Value} (hc : w.cell? p = some v) (hm : p.block ∉ M) : w'.cell? p = some v :=
  (h.cell (World.block_lt_of_cell? w p hc) hm).trans hc
theorem Keep.frozen {M : List Nat} {w w' : World} (h : Keep M w w') {p : Addr} (hp : p.block < w.heap.size) (hm : p.block ∉ M) : w'.frozen? p = w.frozen? p :=
  World.frozen?_of_block (w := w) (h.block p.block hp hm)

/- plain data: one cell each; a slice holds elements of sz cells -/
inductive D where
  | int (n : Int)
  | bool (b : Bool)
  | str (s : ByteArray)
  | arr (sz : Nat) (es : List (List D))

mutual
def Rep (G : List Nat) (w : World) : D → Value → Prop
  | .int n, v => v = .int .i64 n
  | .bool b, v => v = .bool b
  | .str s, v => v = .string s
  | .arr sz es, v => ∃ a cap, v = .slice a es.length cap ∧ es.length ≤ cap ∧ cap ≤ 9223372036854775807 ∧
      (es.length ≠ 0 → ∃ b off, a = some ⟨b, off, none⟩ ∧ b ∉ G ∧ b < w.heap.size ∧ RepE G w sz b es off)
def RepE (G : List Nat) (w : World) (sz b : Nat) : List (List D) → Nat → Prop
  | [], _ => True
  | e :: es, off => e.length = sz ∧ RepL G w b e off ∧ RepE G w sz b es (off + sz)
def RepL (G : List Nat) (w : World) (b : Nat) : List D → Nat → Prop
  | [], _ => True
  | d :: ds, off => (∃ c, w.cell? ⟨b, off, none⟩ = some c ∧ Rep G w d c) ∧ RepL G w b ds (off + 1)
end

/- how a world may change so that readings that avoid G stay: all blocks outside of G stay -/
mutual
theorem Rep.keepG {G G' : List Nat} {w w' : World} (hk : ∀ k, k < w.heap.size → k ∉ G → w'.heap[k]? = w.heap[k]? ∧ k ∉ G' ∧ k < w'.heap.size) : ∀ (d : D) (v : Value), Rep G w d v → Rep G' w' d v
  | .int _, _, h => h
  | .bool _, _, h => h
  | .str _, _, h => h
  | .arr sz es, v, h => by
    simp only [Rep] at h ⊢
    obtain ⟨a, cap, hv, hl, hc, hx⟩ := h
    refine ⟨a, cap, hv, hl, hc, fun hne => ?_⟩
    obtain ⟨b, off, ha, hb, hlt, he⟩ := hx hne
    obtain ⟨h1, h2, h3⟩ := hk b hlt hb
    exact ⟨b, off, ha, h2, h3, RepE.keepG hk sz b h1 es off he⟩
theorem RepE.keepG {G G' : List Nat} {w w' : World} (hk : ∀ k, k < w.heap.size → k ∉ G → w'.heap[k]? = w.heap[k]? ∧ k ∉ G' ∧ k < w'.heap.size) (sz b : Nat) (hb : w'.heap[b]? = w.heap[b]?) : ∀ (es : List (List D)) (off : Nat), RepE G w sz b es off → RepE G' w' sz b es off
  | [], _, h => h
  | e :: es, off, h => by
    simp only [RepE] at h ⊢
    exact ⟨h.1, RepL.keepG hk b hb e off h.2.1, RepE.keepG hk sz b hb es (off + sz) h.2.2⟩
theorem RepL.keepG {G G' : List Nat} {w w' : World} (hk : ∀ k, k < w.heap.size → k ∉ G → w'.heap[k]? = w.heap[k]? ∧ k ∉ G' ∧ k < w'.heap.size) (b : Nat) (hb : w'.heap[b]? = w.heap[b]?) : ∀ (ds : List D) (off : Nat), RepL G w b ds off → RepL G' w' b ds off
  | [], _, h => h
  | d :: ds, off, h => by
    simp only [RepL] at h ⊢
    obtain ⟨⟨c, hc, hr⟩, ht⟩ := h
    exact ⟨⟨c, (World.cell?_of_block (a := ⟨b, off, none⟩) hb).trans hc, Rep.keepG hk d c hr⟩, RepL.keepG hk b hb ds (off + 1) ht⟩
end

section
variable {G : List Nat} {w w' : World} {d : D} {v : Value}
theorem Rep.keep {M : List Nat} (h : Rep G w d v) (hk : Keep M w w') (hM : ∀ m, m ∈ M → m ∈ G ∨ w.heap.size ≤ m) : Rep G w' d v :=
  Rep.keepG (fun k hlt hn => ⟨hk.block k hlt (fun hm => by rcases hM k hm with h1 | h1
                                                           · exact hn h1
                                                           · omega), hn, Nat.lt_of_lt_of_le hlt hk.size⟩) d v h
theorem Rep.keep0 (h : Rep G w d v) (hk : Keep [] w w') : Rep G w' d v := h.keep hk fun _ hm => by cases hm
theorem Rep.sub {G' : List Nat} (h : Rep G w d v) (hs : ∀ g, g ∈ G' → g ∈ G ∨ w.heap.size ≤ g) : Rep G' w d v :=
  Rep.keepG (fun k hlt hn => ⟨rfl, fun hm => by rcases hs k hm with h1 | h1
                                                · exact hn h1
                                                · omega, hlt⟩) d v h
theorem Rep.alloc (h : Rep G w d v) (o : Obj) : Rep G (w.alloc o) d v := h.keep0 ((Keep.refl _ _).alloc o)
theorem Rep.drew (h : Rep G w d v) : Rep G w.drew d v := h.keep0 (Keep.refl _ _).drew
theorem Rep.drewN (h : Rep G w d v) (n : Nat) : Rep G (w.drewN n) d v := h.keep0 ((Keep.refl _ _).drewN n)
theorem Rep.setCell (h : Rep G w d v) {p : Addr} (hp : p.block ∈ G) (u : Value) : Rep G (w.setCell p u) d v :=
  h.keep (M := [p.block]) ((Keep.refl _ _).setCell (.inl (by simp)) u) fun m hm => by
    rcases List.mem_singleton.1 hm with rfl
    exact .inl hp
theorem Rep.cons (h : Rep G w d v) {g : Nat} (hg : w.heap.size ≤ g) : Rep (g :: G) w d v := h.sub fun x hx => by
  rcases List.mem_cons.1 hx with rfl | h1
  · exact .inr hg
  · exact .inl h1
theorem Rep.tail {g : Nat} (h : Rep (g :: G) w d v) : Rep G w d v := h.sub fun x hx => .inl (List.mem_cons_of_mem _ hx)
theorem Rep.grown {row : Option Nat} (h : Rep G w d v) (hg : w.grownBy w' row) (hr : ∀ k, row = some k → k ∈ G ∨ w.heap.size ≤ k) : Rep G w' d v :=
  h.keep (M := row.toList) ((Keep.refl _ _).grown hg fun k e => .inl (by simp [e])) fun m hm => hr m (by simpa using hm)
end

theorem RepE.at_ {G : List Nat} {w : World} {sz b : Nat} : ∀ {es : List (List D)} {off : Nat}, RepE G w sz b es off → ∀ (i : Nat) (hi : i < es.length), es[i].length = sz ∧ RepL G w b es[i] (off + i * sz)
  | [], _, _, i, hi => by simp at hi
  | e :: es, off, h, 0, _ => by simp only [RepE] at h; exact ⟨h.1, by simpa using h.2.1⟩
  | e :: es, off, h, i + 1, hi => by
    simp only [RepE] at h
    have := RepE.at_ h.2.2 i (by simpa using hi)
    refine ⟨this.1, ?_⟩
    rw [show off + (i + 1) * sz = off + sz + i * sz by rw [Nat.add_mul]; omega]
    exact this.2
theorem Rep.form {G : List Nat} {w : World} {sz : Nat} {es : List (List D)} {v : Value} (h : Rep G w (.arr sz es) v) : ∃ a cap, v = .slice a es.length cap ∧ es.length ≤ cap ∧ cap ≤ 9223372036854775807 := by
  simp only [Rep] at h
  obtain ⟨a, cap, hv, hl, hc, _⟩ := h
  exact ⟨a, cap, hv, hl, hc⟩
theorem Rep.at_ {G : List Nat} {w : World} {sz : Nat} {es : List (List D)} {a : Option Addr} {n cap : Nat} (h : Rep G w (.arr sz es) (.slice a n cap)) {i : Nat} (hi : i < es.length) :
    ∃ b off, a = some ⟨b, off, none⟩ ∧ b ∉ G ∧ b < w.heap.size ∧ es[i].length = sz ∧ RepL G w b es[i] (off + i * sz) := by
  simp only [Rep] at h
  obtain ⟨a', cap', hv, hl, hc, hx⟩ := h
  injection hv with h1 h2 h3
  obtain ⟨b, off, ha, hb, hlt, he⟩ := hx (by omega)
  obtain ⟨h4, h5⟩ := he.at_ i hi
  exact ⟨b, off, h1.trans ha, hb, hlt, h4, h5⟩
theorem Rep.nil (G : List Nat) (w : World) (sz : Nat) (a : Option Addr) (cap : Nat) (hc : cap ≤ 9223372036854775807) : Rep G w (.arr sz []) (.slice a 0 cap) := by
  simp only [Rep]
  exact ⟨a, cap, rfl, by simp, hc, fun h => absurd rfl h⟩

/- lists of integers -/
def intsE (zs : List Int) : List (List D) := zs.map fun n => [.int n]
def ints (zs : List Int) : D := .arr 1 (intsE zs)
theorem intsE_length (zs : List Int) : (intsE zs).length = zs.length := by simp [intsE]
theorem ints_form {G : List Nat} {w : World} {zs : List Int} {v : Value} (h : Rep G w (ints zs) v) : ∃ a cap, v = .slice a zs.length cap ∧ zs.length ≤ cap ∧ cap ≤ 9223372036854775807 := by
  obtain ⟨a, cap, hv, hl, hc⟩ := Rep.form h
  rw [intsE_length] at hv hl
  exact ⟨a, cap, hv, hl, hc⟩
theorem ints_at {G : List Nat} {w : World} {zs : List Int} {a : Option Addr} {n cap : Nat} (h : Rep G w (ints zs) (.slice a n cap)) {i : Nat} (hi : i < zs.length) :
    ∃ b off, a = some ⟨b, off, none⟩ ∧ b ∉ G ∧ b < w.heap.size ∧ w.cell? ⟨b, off + i, none⟩ = some (.int .i64 zs[i]) := by
  obtain ⟨b, off, ha, hb, hlt, _, hl⟩ := Rep.at_ h (i := i) (by simpa [intsE] using hi)
  refine ⟨b, off, ha, hb, hlt, ?_⟩
  simp only [intsE, List.getElem_map, RepL, Rep, Nat.mul_one] at hl
  obtain ⟨⟨c, hc, rfl⟩, _⟩ := hl
  exact hc

/- cells that read as data, one by one -/
def RepC (G : List Nat) (w : World) : List D → List Value → Prop
  | [], [] => True
  | d :: ds, v :: vs => Rep G w d v ∧ RepC G w ds vs
  | _, _ => False
theorem RepC.map {G G' : List Nat} {w w' : World} (h : ∀ d v, Rep G w d v → Rep G' w' d v) : ∀ {ds : List D} {vs : List Value}, RepC G w ds vs → RepC G' w' ds vs
  | [], [], _ => trivial
  | _ :: _, _ :: _, hh => ⟨h _ _ hh.1, RepC.map h hh.2⟩
  | [], _ :: _, hh => hh.elim
  | _ :: _, [], hh => hh.elim
theorem RepC.app {G : List Nat} {w : World} : ∀ {ds ds' : List D} {vs vs' : List Value}, RepC G w ds vs → RepC G w ds' vs' → RepC G w (ds ++ ds') (vs ++ vs')
  | [], _, [], _, _, h2 => h2
  | _ :: _, _, _ :: _, _, h1, h2 => ⟨h1.1, RepC.app h1.2 h2⟩
  | [], _, _ :: _, _, h1, _ => h1.elim
  | _ :: _, _, [], _, h1, _ => h1.elim
theorem RepC.length {G : List Nat} {w : World} : ∀ {ds : List D} {vs : List Value}, RepC G w ds vs → ds.length = vs.length
  | [], [], _ => rfl
  | _ :: _, _ :: _, h => by simp [RepC.length h.2]
  | [], _ :: _, h => h.elim
  | _ :: _, [], h => h.elim
theorem RepC.one {G : List Nat} {w : World} : ∀ {ds : List D} {vs : List Value}, RepC G w ds vs → ∀ u ∈ vs, u.oneCell' = true
  | [], [], _ => by simp
  | d :: _, v :: _, h => by
    intro u hu
    rcases List.mem_cons.1 hu with rfl | hu
    · cases d with
      | int n => have e : u = .int .i64 n := h.1; subst e; rfl
      | bool n => have e : u = .bool n := h.1; subst e; rfl
      | str n => have e : u = .string n := h.1; subst e; rfl
      | arr sz es => obtain ⟨a, cap, e, _⟩ := Rep.form h.1; subst e; rfl
    · exact RepC.one h.2 u hu
  | [], _ :: _, h => h.elim
  | _ :: _, [], h => h.elim
theorem RepL.of_cells {G : List Nat} {w : World} {b : Nat} : ∀ {ds : List D} {vs : List Value} {off : Nat}, RepC G w ds vs → (∀ j u, vs[j]? = some u → w.cell? ⟨b, off + j, none⟩ = some u) → RepL G w b ds off
  | [], [], _, _, _ => by simp only [RepL]
  | d :: ds, v :: vs, off, h, hc => by
    simp only [RepL]
    exact ⟨⟨v, by simpa using hc 0 v (by simp), h.1⟩, RepL.of_cells h.2 fun j u hu => by
      have := hc (j + 1) u (by simpa using hu)
      rwa [show off + (j + 1) = off + 1 + j by omega] at this⟩
  | [], _ :: _, _, h, _ => h.elim
  | _ :: _, [], _, h, _ => h.elim
theorem RepC.split {G : List Nat} {w : World} : ∀ {ds ds' : List D} {vs : List Value}, RepC G w (ds ++ ds') vs → ∃ v1 v2, vs = v1 ++ v2 ∧ RepC G w ds v1 ∧ RepC G w ds' v2
  | [], _, vs, h => ⟨[], vs, rfl, trivial, h⟩
  | d :: ds, ds', [], h => h.elim
  | d :: ds, ds', v :: vs, h => by
    obtain ⟨v1, v2, e, h1, h2⟩ := RepC.split (ds := ds) h.2
    exact ⟨v :: v1, v2, by rw [e]; rfl, ⟨h.1, h1⟩, h2⟩
theorem RepE.of_cells {G : List Nat} {w : World} {sz b : Nat} : ∀ {es : List (List D)} {vs : List Value} {off : Nat}, (∀ e ∈ es, e.length = sz) → RepC G w es.flatten vs → (∀ j u, vs[j]? = some u → w.cell? ⟨b, off + j, none⟩ = some u) → RepE G w sz b es off
  | [], _, _, _, _, _ => by simp only [RepE]
  | e :: es, vs, off, hs, h, hc => by
    simp only [RepE]
    have he := hs e (by simp)
    obtain ⟨v1, v2, rfl, h1, h2⟩ := RepC.split (ds := e) (by simpa using h)
    have hl := h1.length
    refine ⟨he, RepL.of_cells h1 fun j u hu => hc j u (by rw [List.getElem?_append_left]; exact hu; rcases Nat.lt_or_ge j v1.length with h | h; exact h; rw [List.getElem?_eq_none h] at hu; cases hu), RepE.of_cells (fun x hx => hs x (by simp [hx])) h2 fun j u hu => ?_⟩
    have := hc (sz + j) u (by rw [List.getElem?_append_right (by omega), show sz + j - v1.length = j by omega]; exact hu)
    rwa [show off + (sz + j) = off + sz + j by omega] at this

theorem RepL.cells {G : List Nat} {w : World} {b : Nat} : ∀ {ds : List D} {off : Nat}, RepL G w b ds off → ∃ vs, RepC G w ds vs ∧ ∀ j u, vs[j]? = some u → w.cell? ⟨b, off + j, none⟩ = some u
  | [], _, _ => ⟨[], trivial, by simp⟩
  | d :: ds, off, h => by
    simp only [RepL] at h
    obtain ⟨⟨c, hc, hr⟩, ht⟩ := h
    obtain ⟨vs, h1, h2⟩ := RepL.cells ht
    refine ⟨c :: vs, ⟨hr, h1⟩, fun j u hu => ?_⟩
    cases j with
    | zero => simp at hu; subst hu; simpa using hc
    | succ j => rw [show off + (j + 1) = off + 1 + j by omega]; exact h2 j u (by simpa using hu)
theorem RepE.cells {G : List Nat} {w : World} {sz b : Nat} : ∀ {fs : List (List D)} {off : Nat}, RepE G w sz b fs off → ∃ news, RepC G w fs.flatten news ∧ news.length = fs.length * sz ∧ ∀ j u, news[j]? = some u → w.cell? ⟨b, off + j, none⟩ = some u
  | [], _, _ => ⟨[], trivial, by simp, by simp⟩
  | f :: fs, off, he => by
    simp only [RepE] at he
    obtain ⟨hlen, hl, ht⟩ := he
    obtain ⟨v1, h1, h2⟩ := RepL.cells hl
    obtain ⟨v2, h3, h4, h5⟩ := RepE.cells ht
    have hv1 := h1.length
    refine ⟨v1 ++ v2, by rw [List.flatten_cons]; exact h1.app h3, by simp [h4, Nat.add_mul]; omega, fun j u hu => ?_⟩
    rcases Nat.lt_or_ge j v1.length with hj | hj
    · exact h2 j u (by rwa [List.getElem?_append_left hj] at hu)
    · rw [List.getElem?_append_right hj] at hu
      have := h5 _ u hu
      rwa [show off + sz + (j - v1.length) = off + j by omega] at this

/- a slice that the call itself makes by append: it owns its row -/
def ob (v : Value) : List Nat := v.ownBlock.toList
theorem Rep.ob {G : List Nat} {w w1 : World} {d : D} {v : Value} (h : Rep G w d v) (hk : Keep [] w w1) {x : Value} (hx : ∀ g, g ∈ ob x → w.heap.size ≤ g) : Rep (ob x ++ G) w1 d v :=
  (h.sub (G' := Go.Proofs.YtnjincgemmgllaaDoor.ob x ++ G) fun g hg => (List.mem_append.1 hg).elim (fun h1 => .inr (hx g h1)) .inl).keep0 hk
structure Own (G : List Nat) (B : Nat) (w : World) (E : TypeId) (sz : Nat) (v : Value) (es : List (List D)) : Prop where
  row : ∃ cs, w.ownsRow B E sz v es.length cs ∧ RepC (ob v ++ G) w es.flatten cs
  size : ∀ e ∈ es, e.length = sz
  apart : ∀ g, g ∈ ob v → g ∉ G

theorem Own.rep {G : List Nat} {B : Nat} {w : World} {E : TypeId} {sz : Nat} {v : Value} {es : List (List D)} (h : Own G B w E sz v es) : Rep G w (.arr sz es) v := by
  obtain ⟨⟨cs, hr, hc⟩, hs, ha⟩ := h
  simp only [Rep]
  have hc' : RepC G w es.flatten cs := hc.map fun d v hh => hh.sub fun g hg => .inl (List.mem_append_right _ hg)
  rcases hr.2 with ⟨rfl, hn⟩ | ⟨g, cap, cur, rfl, hb, hh, hn, hm, hcs, ht⟩
  · exact ⟨none, 0, by rw [hn], by omega, by omega, fun hne => absurd hn hne⟩
  · refine ⟨some ⟨g, 0, none⟩, cap, rfl, hn, by simp only [maxLen] at hm; omega, fun _ => ⟨g, 0, rfl, ha g (by simp [ob, Value.ownBlock]), (Array.getElem?_eq_some_iff.1 hh).1, ?_⟩⟩
    refine RepE.of_cells hs hc' fun j u hu => ?_
    have := hr.cells (g := g) rfl j u hu
    rwa [Addr.add_lit] at this
theorem Own.form {G : List Nat} {B : Nat} {w : World} {E : TypeId} {sz : Nat} {v : Value} {es : List (List D)} (h : Own G B w E sz v es) : ∃ a cap, v = .slice a es.length cap := by
  obtain ⟨a, cap, hv, _⟩ := Rep.form h.rep
  exact ⟨a, cap, hv⟩
theorem Own.lt {G : List Nat} {B : Nat} {w : World} {E : TypeId} {sz : Nat} {v : Value} {es : List (List D)} (h : Own G B w E sz v es) : ∀ g, g ∈ ob v → B ≤ g ∧ g < w.heap.size := by
  obtain ⟨⟨cs, hr, _⟩, _, _⟩ := h
  intro g hg
  exact hr.lt g (by simpa [ob] using hg)
theorem Own.keep {G : List Nat} {B : Nat} {w w' : World} {E : TypeId} {sz : Nat} {v : Value} {es : List (List D)} {M : List Nat} (h : Own G B w E sz v es) (hk : Keep M w w') (hM : ∀ m, m ∈ M → m ∈ G ∨ w.heap.size ≤ m) : Own G B w' E sz v es := by
  have hlt := h.lt
  obtain ⟨⟨cs, hr, hc⟩, hs, ha⟩ := h
  refine ⟨⟨cs, ⟨hr.1, ?_⟩, hc.map fun d v hh => hh.keep hk fun m hm => (hM m hm).imp (List.mem_append_right _) id⟩, hs, ha⟩
  rcases hr.2 with h1 | ⟨g, cap, cur, rfl, hb, hh, r⟩
  · exact .inl h1
  · refine .inr ⟨g, cap, cur, rfl, hb, ?_, r⟩
    have hg : g ∈ ob (.slice (some ⟨g, 0, none⟩) es.length cap) := by simp [ob, Value.ownBlock]
    rw [hk.block g (hlt g hg).2 (fun hm => by rcases hM g hm with h1 | h1
                                              · exact ha g hg h1
                                              · have := (hlt g hg).2; omega)]
    exact hh
theorem Own.sub {G G' : List Nat} {B : Nat} {w : World} {E : TypeId} {sz : Nat} {v : Value} {es : List (List D)} (h : Own G B w E sz v es) (hs : ∀ g, g ∈ G' → g ∈ G ∨ w.heap.size ≤ g) : Own G' B w E sz v es := by
  have hlt := h.lt
  obtain ⟨⟨cs, h1, h2⟩, h3, h4⟩ := h
  refine ⟨⟨cs, h1, h2.map fun d v hh => hh.sub fun x hx => (List.mem_append.1 hx).elim (fun h => .inl (List.mem_append_left _ h)) (fun h => (hs x h).imp (List.mem_append_right _) id)⟩, h3, fun g hg hm => ?_⟩
  rcases hs g hm with h | h
  · exact h4 g hg h
  · have := (hlt g hg).2; omega
theorem Own.tail {g : Nat} {G : List Nat} {B : Nat} {w : World} {E : TypeId} {sz : Nat} {v : Value} {es : List (List D)} (h : Own (g :: G) B w E sz v es) : Own G B w E sz v es := h.sub fun _ hg => .inl (List.mem_cons_of_mem _ hg)
theorem Own.base {G : List Nat} {B B' : Nat} {w : World} {E : TypeId} {sz : Nat} {v : Value} {es : List (List D)} (h : Own G B w E sz v es) (hB : B' ≤ B) : Own G B' w E sz v es := by
  obtain ⟨⟨cs, h1, h2⟩, h3, h4⟩ := h
  refine ⟨⟨cs, ⟨h1.1, h1.2.imp id ?_⟩, h2⟩, h3, h4⟩
  rintro ⟨g, cap, cur, hv, hb, r⟩
  exact ⟨g, cap, cur, hv, Nat.le_trans hB hb, r⟩
theorem Own.keep0 {G : List Nat} {B : Nat} {w w' : World} {E : TypeId} {sz : Nat} {v : Value} {es : List (List D)} (h : Own G B w E sz v es) (hk : Keep [] w w') : Own G B w' E sz v es := h.keep hk fun _ hm => by cases hm
theorem Own.alloc {G : List Nat} {B : Nat} {w : World} {E : TypeId} {sz : Nat} {v : Value} {es : List (List D)} (h : Own G B w E sz v es) (o : Obj) : Own G B (w.alloc o) E sz v es := h.keep0 ((Keep.refl _ _).alloc o)
theorem Own.nil (G : List Nat) (B : Nat) (w : World) (E : TypeId) (sz : Nat) : Own G B w E sz (.slice none 0 0) [] :=
  ⟨⟨[], World.ownsRow_nil w B E sz, trivial⟩, by simp, by simp [ob, Value.ownBlock]⟩
theorem Own.made (G : List Nat) (B : Nat) (w : World) (E : TypeId) (sz : Nat) (hB : B ≤ w.heap.size) (hG : ∀ g, g ∈ G → g < w.heap.size) : Own G B (w.alloc (.cells #[] E)) E sz (.slice (some ⟨w.heap.size, 0, none⟩) 0 0) [] :=
  ⟨⟨[], World.ownsRow_made w #[] 0 hB (by simp [maxLen]) (by simp), trivial⟩, by simp, fun g hg hgG => by
    have := hG g hgG
    simp [ob, Value.ownBlock] at hg
    omega⟩

/- the step of an append: what it leaves -/
structure Grew (G : List Nat) (v v' : Value) (w w' : World) : Prop where
  keep : Keep (ob v) w w'
  rep : ∀ d c, Rep (ob v ++ G) w d c → Rep (ob v' ++ G) w' d c
  at_ : v'.ownBlock = v.ownBlock ∨ v'.ownBlock = some w.heap.size

section
variable {P : Program}
theorem run_append_rep (G : List Nat) (B : Nat) (w : World) (t ty e : TypeId) (z : Value) (sz bytes : Nat) (ht : P.underlying t = some (.slice e)) (hi : (P.info? e).map (fun i => (i.zero, i.size, i.bytes)) = some (some z, sz, bytes))
    (hzs : z.cells.size = sz) (hsz : 0 < sz) (v : Value) (es : List (List D)) (hown : Own G B w e sz v es) (x : Value) (fs : List (List D)) (hx : Rep (ob v ++ G) w (.arr sz fs) x) (hfs : ∀ f ∈ fs, f.length = sz)
    (hb : (es.length + fs.length) * bytes ≤ 140737488355328) (h63 : es.length + fs.length ≤ 140737488355328) (hB : B ≤ w.heap.size) (hG : ∀ g, g ∈ G → g < w.heap.size) :
    ∃ v' w', (Builtin.append_ #[t, t] ty #[v, x]).run P w = .ok v' w' ∧ Own G B w' e sz v' (es ++ fs) ∧ Grew G v v' w w' := by
  obtain ⟨i, hi0, hz0, hz1, hz2⟩ := info_parts hi
  have hlt := hown.lt
  obtain ⟨⟨cs, hr, hc⟩, hs, ha⟩ := hown
  obtain ⟨a, cap, hxv, hl, hcap⟩ := Rep.form hx
  subst hxv
  have grew : ∀ v' w', w.grownBy w' v.ownBlock → (v'.ownBlock = v.ownBlock ∨ v'.ownBlock = some w.heap.size) → Grew G v v' w w' := by
    intro v' w' hg hat
    refine ⟨(Keep.refl _ _).grown hg fun k e => .inl (by simp [ob, e]), fun d c hd => ?_, hat⟩
    have h1 := hd.grown hg fun k e => .inl (List.mem_append_left _ (by simp [ob, e]))
    rcases hat with e | e
    · rw [show ob v' = ob v by simp [ob, e]]; exact h1
    · have h2 : Rep G w d c := hd.sub fun g hg => .inl (List.mem_append_right _ hg)
      have h3 : Rep (w.heap.size :: G) w d c := h2.cons (Nat.le_refl _)
      refine Rep.keepG (G := ob v ++ G) (w := w) (fun k hk hn => ⟨hg.block k hk (fun e => hn (List.mem_append_left _ (by simp [ob, ← e]))), ?_, Nat.lt_of_lt_of_le hk hg.size⟩) d c hd
      intro hm
      rcases List.mem_append.1 hm with hm | hm
      · simp [ob, e] at hm; omega
      · exact hn (List.mem_append_right _ hm)
  have finish : ∀ v' w' news, RepC (ob v ++ G) w fs.flatten news → w'.ownsRow B e sz v' (es.length + fs.length) (cs ++ news) → Grew G v v' w w' → Own G B w' e sz v' (es ++ fs) := by
    intro v' w' news hn ho hgr
    refine ⟨⟨cs ++ news, by rw [List.length_append]; exact ho, by rw [List.flatten_append]; exact (hc.map hgr.rep).app (hn.map hgr.rep)⟩, fun f hf => ?_, fun g hg hgG => ?_⟩
    · rcases List.mem_append.1 hf with h | h
      · exact hs f h
      · exact hfs f h
    · rcases hgr.at_ with e | e
      · exact ha g (by rw [ob, ← e]; exact hg) hgG
      · simp [ob, e] at hg
        have := hG g hgG
        omega
  by_cases h0 : fs.length = 0
  · have hf0 : fs = [] := List.eq_nil_of_length_eq_zero h0
    subst hf0
    have hrun : ∃ c0, (Builtin.append_ #[t, t] ty #[v, .slice a 0 cap]).run P w = .ok v w ∧ c0 = cap := by
      refine ⟨cap, ?_, rfl⟩
      rcases hr.2 with ⟨rfl, hn⟩ | ⟨g, cap', cur, rfl, _, _, hnc, _⟩
      · cases a with
        | none => simp [Builtin.append_, run_underlying ht, sizeOf, typeInfo, hi0, Builtin.lenOf, Builtin.firstCells]
        | some ad => simp [Builtin.append_, run_underlying ht, sizeOf, typeInfo, hi0, Builtin.lenOf, Builtin.firstCells, loadCells, loadCellsFrom]
      · cases a with
        | none => simp [Builtin.append_, run_underlying ht, sizeOf, typeInfo, hi0, Builtin.lenOf, Builtin.firstCells, hnc, storeCells]
        | some ad => simp [Builtin.append_, run_underlying ht, sizeOf, typeInfo, hi0, Builtin.lenOf, Builtin.firstCells, hnc, storeCells, loadCells, loadCellsFrom]
    obtain ⟨_, hrun, _⟩ := hrun
    have hg := grew v w (World.grownBy.refl w _) (.inl rfl)
    exact ⟨v, w, by simpa using hrun, finish v w [] trivial (by simpa using hr) hg, hg⟩
  · simp only [Rep] at hx
    obtain ⟨a', cap', hv', _, _, hx'⟩ := hx
    obtain ⟨b, off, ha', hb', hlt', he⟩ := hx' h0
    injection hv' with e1 e2 e3
    subst e1 ha'
    obtain ⟨news, hn1, hn2, hn3⟩ := RepE.cells he
    obtain ⟨v', w', hrun, h2, h3, _, h5⟩ := run_append_own_at (P := P) w B t ty e i z sz bytes ht hi0 hz0 hz1 hz2 hzs hsz v es.length cs hr ⟨b, off, none⟩ fs.length cap news hn2 (fun j u hu => by rw [Addr.add_lit]; exact hn3 j u hu) hn1.one (by simp only [maxLen]; omega) hb hB
    have hg := grew v' w' h3 h5
    exact ⟨v', w', hrun, finish v' w' news hn1 h2 hg, hg⟩

theorem wpl_append {ops : Array Oper} {rest : List Oper} {o : Oper} {a : Act} {Q : Exit → Act → World → Prop} {w : World} (hgd : o.guard = none) (s x : Operand) (t : TypeId)
    (ho : o.op = .call { callee := .builtin .append, args := #[s, x], argTypes := #[t, t] })
    (G : List Nat) (B : Nat) (e : TypeId) (z : Value) (sz bytes : Nat) (ht : P.underlying t = some (.slice e)) (hi : (P.info? e).map (fun i => (i.zero, i.size, i.bytes)) = some (some z, sz, bytes))
    (hzs : z.cells.size = sz) (hsz : 0 < sz) (v : Value) (es : List (List D)) (hs : a.eval s = v) (hown : Own G B w e sz v es) (xv : Value) (fs : List (List D)) (hxv : a.eval x = xv) (hx : Rep (ob v ++ G) w (.arr sz fs) xv) (hfs : ∀ f ∈ fs, f.length = sz)
    (hb : (es.length + fs.length) * bytes ≤ 140737488355328) (h63 : es.length + fs.length ≤ 140737488355328) (hB : B ≤ w.heap.size) (hG : ∀ g, g ∈ G → g < w.heap.size)
    (h : ∀ v' w', Own G B w' e sz v' (es ++ fs) → Grew G v v' w w' → wpList P ops Q rest (a.put o.dst v') w') : wpList P ops Q (o :: rest) a w := by
  refine wpList_plain hgd fun K hK => ?_
  obtain ⟨v', w', hrun, h2, h3⟩ := run_append_rep (P := P) G B w t o.type e z sz bytes ht hi hzs hsz v es hown xv fs hx hfs hb h63 hB hG
  unfold Oper.wp execOp
  simp only [ho, resolve, invoke, builtin, Sem.run_bind, Sem.run_pure, Result.andThen_ok, List.map_toArray, List.map_cons, List.map_nil, hs, hxv, hrun]
  exact hK _ _ (h v' w' h2 h3)
theorem step_append {ops : Array Oper} {o : Oper} {a : Act} {K : Act → World → Prop} {Q : Exit → Act → World → Prop} {w : World} {X : Prop} (hgd : o.guard = none) (s x : Operand) (t : TypeId)
    (ho : o.op = .call { callee := .builtin .append, args := #[s, x], argTypes := #[t, t] })
    (G : List Nat) (B : Nat) (e : TypeId) (z : Value) (sz bytes : Nat) (ht : P.underlying t = some (.slice e)) (hi : (P.info? e).map (fun i => (i.zero, i.size, i.bytes)) = some (some z, sz, bytes))
    (hzs : z.cells.size = sz) (hsz : 0 < sz) (v : Value) (es : List (List D)) (hs : a.eval s = v) (hown : Own G B w e sz v es) (xv : Value) (fs : List (List D)) (hxv : a.eval x = xv) (hx : Rep (ob v ++ G) w (.arr sz fs) xv) (hfs : ∀ f ∈ fs, f.length = sz)
    (hb : (es.length + fs.length) * bytes ≤ 140737488355328) (h63 : es.length + fs.length ≤ 140737488355328) (hB : B ≤ w.heap.size) (hG : ∀ g, g ∈ G → g < w.heap.size)
    (h : ∀ v' w', Own G B w' e sz v' (es ++ fs) → Grew G v v' w w' → K (a.put o.dst v') w') : if Region.wanted o (yielded ops a.tmps) = true then Oper.wp P o a w K Q else X := by
  have hw : Region.wanted o (yielded ops a.tmps) = true := by simp [Region.wanted, hgd]
  rw [if_pos hw]
  obtain ⟨v', w', hrun, h2, h3⟩ := run_append_rep (P := P) G B w t o.type e z sz bytes ht hi hzs hsz v es hown xv fs hx hfs hb h63 hB hG
  unfold Oper.wp execOp
  simp only [ho, resolve, invoke, builtin, Sem.run_bind, Sem.run_pure, Result.andThen_ok, List.map_toArray, List.map_cons, List.map_nil, hs, hxv, hrun]
  exact h v' w' h2 h3
end

/- one element laid in a block of its own, as append's source -/
theorem Rep.new {G : List Nat} {w : World} {sz : Nat} {es : List (List D)} {cs : Array Value} {E : TypeId} (hs : ∀ e ∈ es, e.length = sz) (hc : RepC G w es.flatten cs.toList) (hG : ∀ g, g ∈ G → g < w.heap.size) (hl : es.length ≤ 9223372036854775807) :
    Rep G (w.alloc (.cells cs E)) (.arr sz es) (.slice (some ⟨w.heap.size, 0, none⟩) es.length es.length) := by
  simp only [Rep]
  refine ⟨_, _, rfl, Nat.le_refl _, hl, fun _ => ⟨w.heap.size, 0, rfl, fun hm => by have := hG _ hm; omega, by simp, ?_⟩⟩
  refine RepE.of_cells (vs := cs.toList) hs (hc.map fun d v h => h.alloc _) fun j u hu => ?_
  rw [Nat.zero_add, World.cell?_alloc_new]
  simpa using hu
theorem ob_fresh {G : List Nat} {B : Nat} {w : World} {E : TypeId} {sz : Nat} {v : Value} {es : List (List D)} (h : Own G B w E sz v es) (hG : ∀ g, g ∈ G → g < w.heap.size) : ∀ g, g ∈ ob v ++ G → g < w.heap.size := fun g hg => by
  rcases List.mem_append.1 hg with h1 | h1
  · exact (h.lt g h1).2
  · exact hG g h1
end Go.Proofs.YtnjincgemmgllaaDoor
