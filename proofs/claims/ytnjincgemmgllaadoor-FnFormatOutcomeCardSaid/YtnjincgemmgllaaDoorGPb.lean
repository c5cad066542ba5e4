/- The walk of goodProgram: plain facts. -/
import Derived.Test.YtnjincgemmgllaaDoorGPa
import Derived.Test.YtnjincgemmgllaaDoorGBody
import Derived.Test.YtnjincgemmgllaaDoorEvC
import Derived.Deep.RegionHeld3
import Derived.Deep.DrawnRows
namespace Go.Proofs.YtnjincgemmgllaaDoor
open Go.RowKit
attribute [local go_sem ↓] Go.wp_at_zero Go.wp_at_succ

def mkF (ps : List Int) (r : Int) : Fn := ⟨⟨ps, r⟩, .mk 0 0 []⟩
/- an array of signatures without bodies -/
structure ArrF (G : List Nat) (w : World) (b n : Nat) (pr : Nat → List Int) (rs : Nat → Int) (pa : Nat → Option Addr) (pc : Nat → Nat) : Prop where
  c0 : ∀ j, j < n → w.cell? ⟨b, j * 5, none⟩ = some (.slice (pa j) (pr j).length (pc j))
  c1 : ∀ j, j < n → w.cell? ⟨b, j * 5 + 1, none⟩ = some (.int .i64 (rs j))
  c2 : ∀ j, j < n → w.cell? ⟨b, j * 5 + 2, none⟩ = some (.int .i64 0)
  c3 : ∀ j, j < n → w.cell? ⟨b, j * 5 + 3, none⟩ = some (.int .i64 0)
  c4 : ∀ j, j < n → w.cell? ⟨b, j * 5 + 4, none⟩ = some (.slice none 0 0)
  rp : ∀ j, j < n → Rep G w (ints (pr j)) (.slice (pa j) (pr j).length (pc j))
theorem ArrF.keep {G : List Nat} {w w' : World} {b n : Nat} {pr : Nat → List Int} {rs : Nat → Int} {pa : Nat → Option Addr} {pc : Nat → Nat} {M : List Nat} (h : ArrF G w b n pr rs pa pc) (hk : Keep M w w') (hb : b ∉ M) (hM : ∀ m, m ∈ M → m ∈ G) : ArrF G w' b n pr rs pa pc :=
  ⟨fun j hj => hk.cellEq (h.c0 j hj) hb, fun j hj => hk.cellEq (h.c1 j hj) hb, fun j hj => hk.cellEq (h.c2 j hj) hb, fun j hj => hk.cellEq (h.c3 j hj) hb, fun j hj => hk.cellEq (h.c4 j hj) hb, fun j hj => (h.rp j hj).keep hk fun m hm => .inl (hM m hm)⟩
theorem arr6 {G : List Nat} {w : World} {T : TypeId} {a0 a1 a2 a3 a4 a5 : Option Addr} {c0 c1 c2 c3 c4 c5 : Nat} {p0 p1 p2 p3 p4 p5 : List Int} {r0 r1 r2 r3 r4 r5 : Int} (h0 : Rep G w (ints p0) (.slice a0 p0.length c0)) (h1 : Rep G w (ints p1) (.slice a1 p1.length c1)) (h2 : Rep G w (ints p2) (.slice a2 p2.length c2)) (h3 : Rep G w (ints p3) (.slice a3 p3.length c3)) (h4 : Rep G w (ints p4) (.slice a4 p4.length c4)) (h5 : Rep G w (ints p5) (.slice a5 p5.length c5)) :
    ArrF G (w.alloc (.cells #[.slice a0 p0.length c0, .int .i64 r0, .int .i64 0, .int .i64 0, .slice none 0 0, .slice a1 p1.length c1, .int .i64 r1, .int .i64 0, .int .i64 0, .slice none 0 0, .slice a2 p2.length c2, .int .i64 r2, .int .i64 0, .int .i64 0, .slice none 0 0, .slice a3 p3.length c3, .int .i64 r3, .int .i64 0, .int .i64 0, .slice none 0 0, .slice a4 p4.length c4, .int .i64 r4, .int .i64 0, .int .i64 0, .slice none 0 0, .slice a5 p5.length c5, .int .i64 r5, .int .i64 0, .int .i64 0, .slice none 0 0] T)) w.heap.size 6 (fun j => [p0, p1, p2, p3, p4, p5].getD j []) (fun j => [r0, r1, r2, r3, r4, r5].getD j 0) (fun j => [a0, a1, a2, a3, a4, a5].getD j none) (fun j => [c0, c1, c2, c3, c4, c5].getD j 0) := by
  refine ⟨fun j hj => ?_, fun j hj => ?_, fun j hj => ?_, fun j hj => ?_, fun j hj => ?_, fun j hj => ?_⟩
  all_goals rcases (show j = 0 ∨ j = 1 ∨ j = 2 ∨ j = 3 ∨ j = 4 ∨ j = 5 by omega) with rfl | rfl | rfl | rfl | rfl | rfl
  all_goals first | (rw [World.cell?_alloc_new]; rfl) | skip
  · exact h0.alloc _
  · exact h1.alloc _
  · exact h2.alloc _
  · exact h3.alloc _
  · exact h4.alloc _
  · exact h5.alloc _
theorem arr4 {G : List Nat} {w : World} {T : TypeId} {a0 a1 a2 a3 : Option Addr} {c0 c1 c2 c3 : Nat} {p0 p1 p2 p3 : List Int} {r0 r1 r2 r3 : Int} (h0 : Rep G w (ints p0) (.slice a0 p0.length c0)) (h1 : Rep G w (ints p1) (.slice a1 p1.length c1)) (h2 : Rep G w (ints p2) (.slice a2 p2.length c2)) (h3 : Rep G w (ints p3) (.slice a3 p3.length c3)) :
    ArrF G (w.alloc (.cells #[.slice a0 p0.length c0, .int .i64 r0, .int .i64 0, .int .i64 0, .slice none 0 0, .slice a1 p1.length c1, .int .i64 r1, .int .i64 0, .int .i64 0, .slice none 0 0, .slice a2 p2.length c2, .int .i64 r2, .int .i64 0, .int .i64 0, .slice none 0 0, .slice a3 p3.length c3, .int .i64 r3, .int .i64 0, .int .i64 0, .slice none 0 0] T)) w.heap.size 4 (fun j => [p0, p1, p2, p3].getD j []) (fun j => [r0, r1, r2, r3].getD j 0) (fun j => [a0, a1, a2, a3].getD j none) (fun j => [c0, c1, c2, c3].getD j 0) := by
  refine ⟨fun j hj => ?_, fun j hj => ?_, fun j hj => ?_, fun j hj => ?_, fun j hj => ?_, fun j hj => ?_⟩
  all_goals rcases (show j = 0 ∨ j = 1 ∨ j = 2 ∨ j = 3 by omega) with rfl | rfl | rfl | rfl
  all_goals first | (rw [World.cell?_alloc_new]; rfl) | skip
  · exact h0.alloc _
  · exact h1.alloc _
  · exact h2.alloc _
  · exact h3.alloc _

/- a signature that the generator lays -/
structure SgG (l : List Dc) (s : Sg) : Prop where
  plen : s.params.length ≤ 3
  ptys : ∀ t ∈ s.params, t = 0 ∨ t = 1 ∨ t = 2 ∨ t = 3
  res : s.result = 0 ∨ s.result = 1 ∨ s.result = 3
  clos : 0 < aof l (s.params.getD (s.params.length - 1) 0) s.result → ∀ t ∈ s.params, t = 0 ∨ t = 1 ∨ t = 3
  flat : s.result = 3 → ∀ i : Nat, s.params[i]? ≠ some 1
  tree : ∀ h : 0 < s.params.length, s.params[0] = 3 → (s.result = 0 ∨ s.result = 3) → s.params = [3] ∨ s.params = [3, 0]
theorem GS.of_sgs {l : List Dc} {sg : List Sg} (h1 : 1 ≤ sg.length ∧ sg.length ≤ 4) (h : ∀ i (h : i < sg.length), SgG l sg[i]) : GS l sg :=
  ⟨h1, fun i hi => (h i hi).plen, fun i hi => (h i hi).ptys, fun i hi => (h i hi).res, fun i hi => (h i hi).clos⟩
theorem sgG_of {l : List Dc} (hl : GD l) (ps : List Int) (r : Int) (h1 : ps.length ≤ 3) (h2 : ∀ t ∈ ps, t = 0 ∨ t = 1 ∨ t = 2 ∨ t = 3) (h3 : r = 0 ∨ r = 1 ∨ r = 3) (h4 : (∀ t ∈ ps, t = 0 ∨ t = 1 ∨ t = 3) ∨ (ps.getD (ps.length - 1) 0 = 1 ∧ r = 1)) (h5 : r = 3 → 1 ∉ ps) (h6 : ∀ h : 0 < ps.length, ps[0] = 3 → (r = 0 ∨ r = 3) → ps = [3] ∨ ps = [3, 0]) : SgG l ⟨ps, r⟩ :=
  ⟨h1, h2, h3, fun ha => by
    rcases h4 with h4 | ⟨h4, h7⟩
    · exact h4
    · simp only [h4, h7] at ha
      rcases hl.aof 1 1 with h | ⟨_, _, h⟩
      · omega
      · exact absurd ⟨rfl, rfl⟩ h, fun h i hi => h5 h (List.mem_of_getElem? hi), h6⟩
def pr1 : Nat → List Int := (fun j => [[1], [1, 1], [1], [1, 0], [2, 1], [1, 1]].getD j [])
def rs1 : Nat → Int := (fun j => [0, 1, 1, 1, 1, 0].getD j 0)
def pr2 : Nat → List Int := (fun j => [[3], [0], [0, 1], [3, 0], [3], [1, 3, 0]].getD j [])
def rs2 : Nat → Int := (fun j => [0, 1, 1, 3, 1, 0].getD j 0)
def pr3 : Nat → List Int := (fun j => [[0], [0, 0], [1, 0], [0]].getD j [])
def rs3 : Nat → Int := (fun j => [0, 0, 0, 1].getD j 0)
theorem sg_one {l : List Dc} (hl : GD l) : ∀ j, j < 6 → SgG l ⟨pr1 j, rs1 j⟩ := fun j hj => by
  rcases (show j = 0 ∨ j = 1 ∨ j = 2 ∨ j = 3 ∨ j = 4 ∨ j = 5 by omega) with rfl | rfl | rfl | rfl | rfl | rfl
  all_goals exact sgG_of hl _ _ (by decide) (by decide) (by decide) (by decide) (by decide) (by decide)
theorem sg_two {l : List Dc} (hl : GD l) : ∀ j, j < 6 → SgG l ⟨pr2 j, rs2 j⟩ := fun j hj => by
  rcases (show j = 0 ∨ j = 1 ∨ j = 2 ∨ j = 3 ∨ j = 4 ∨ j = 5 by omega) with rfl | rfl | rfl | rfl | rfl | rfl
  all_goals exact sgG_of hl _ _ (by decide) (by decide) (by decide) (by decide) (by decide) (by decide)
theorem sg_three {l : List Dc} (hl : GD l) : ∀ j, j < 4 → SgG l ⟨pr3 j, rs3 j⟩ := fun j hj => by
  rcases (show j = 0 ∨ j = 1 ∨ j = 2 ∨ j = 3 by omega) with rfl | rfl | rfl | rfl
  all_goals exact sgG_of hl _ _ (by decide) (by decide) (by decide) (by decide) (by decide) (by decide)
theorem sg_main {l : List Dc} (hl : GD l) : SgG l ⟨[], 0⟩ := sgG_of hl _ _ (by decide) (by decide) (by decide) (by decide) (by decide) (by decide)
theorem GD.of_gd {x : List Dc} (h : x = [] ∨ ∃ k, k < 4 ∧ x = [dLast k]) : GD (gd x) := by
  rcases h with rfl | ⟨k, hk, rfl⟩
  · exact GD.of3
  · exact GD.of4 k hk
theorem fn_row {G : List Nat} {w : World} {ps : List Int} {r : Int} {a : Option Addr} {c : Nat} (h : Rep G w (ints ps) (.slice a ps.length c)) {ds : List D} {vs : List Value} (hr : RepC G w ds vs) : RepC G w (encF (mkF ps r) ++ ds) (.slice a ps.length c :: .int .i64 r :: .int .i64 0 :: .int .i64 0 :: .slice none 0 0 :: vs) :=
  ⟨h, rfl, rfl, rfl, Rep.nil _ _ _ _ _ (by omega), hr⟩
theorem encF_len (f : Fn) : (encF f).length = 5 := rfl
end Go.Proofs.YtnjincgemmgllaaDoor
