/- Walks of the reference's small helpers over types (spec l1_type.go). -/
import Derived.Test.YtnjincgemmgllaaDoorCore
namespace Go.Proofs.YtnjincgemmgllaaDoor
open Go.RowKit

def inB (lo n hi : Int) : Bool := decide (lo ≤ n) && decide (n ≤ hi)
theorem inB_true {lo n hi : Int} (h1 : lo ≤ n) (h2 : n ≤ hi) : inB lo n hi = true := by simp [inB, h1, h2]
theorem inB_of {lo n hi : Int} (h : inB lo n hi = true) : lo ≤ n ∧ n ≤ hi := by simpa [inB] using h
theorem inB_false {lo n hi : Int} (h : n < lo ∨ hi < n) : inB lo n hi = false := by
  cases hh : inB lo n hi
  · rfl
  · obtain ⟨a, b⟩ := inB_of hh; omega
theorem inB_not {lo n hi : Int} (h : inB lo n hi = false) : n < lo ∨ hi < n := by
  rcases Classical.em (lo ≤ n ∧ n ≤ hi) with h1 | h1
  · rw [inB_true h1.1 h1.2] at h; cases h
  · omega

set_option maxHeartbeats 400000 in
theorem inRange_any (n lo hi : Int) (w : World) :
    Calls Tryd.prog 12 #[.int .i64 n, .int .i64 lo, .int .i64 hi] w fun e w' => e = .returned (.bool (inB lo n hi)) ∧ w = w' := by
  by_cases h : lo ≤ n
  · go_enter Tryd.func12, Tryd.ntmps12
    go_wp2
    go_ret
    exact ⟨by simp [h, inB], rfl⟩
  · go_enter Tryd.func12, Tryd.ntmps12
    go_wp2
    go_ret
    exact ⟨by simp [h, inB]; omega, rfl⟩

def hasI (zs : List Int) (n : Int) : Bool := zs.any fun x => x == n
theorem hasI_snoc (l : List Int) (x n : Int) : hasI (l ++ [x]) n = (hasI l n || x == n) := by simp [hasI]
theorem hasI_at {zs : List Int} {k : Nat} (hk : k < zs.length) {n : Int} (h : (zs[k] == n) = true) : hasI zs n = true := by
  rw [hasI, List.any_eq_true]
  exact ⟨zs[k], List.getElem_mem hk, h⟩
theorem hasI_iff {zs : List Int} {n : Int} : hasI zs n = true ↔ n ∈ zs := by simp [hasI]

set_option maxHeartbeats 400000 in
theorem isIn_any {G : List Nat} (v : Value) (zs : List Int) (n : Int) (w : World) (hz : Rep G w (ints zs) v) :
    Calls Tryd.prog 88 #[v, .int .i64 n] w fun e w' => e = .returned (.bool (hasI zs n)) ∧ w = w' := by
  have HZ := Lib.hid hz
  obtain ⟨a, cap, rfl, hl, hc⟩ := ints_form hz
  clear hz
  go_enter Tryd.func88, Tryd.ntmps88
  go_wp2
  go_loop [5] (fun i => ∃ k : Nat, k ≤ zs.length ∧ i = .int .i64 k ∧ hasI (zs.take k) n = false) (fun i => zs.length - (intOf i).toNat)
  case atStart => exact ⟨0, Nat.zero_le _, rfl, by simp [hasI]⟩
  case round =>
    obtain ⟨k, hk, rfl, hall⟩ := hrel
    have HA := Lib.hid hall
    clear hall
    by_cases hlt : k < zs.length
    · obtain ⟨b, off, rfl, _, hb, hcl⟩ := ints_at HZ.out hlt
      cases hin : (zs[k] == n)
      · go_wp2
        go_round
        case rel => exact ⟨k + 1, by omega, by go_num, by rw [take_snoc' _ _ hlt, hasI_snoc, HA.out, hin]; rfl⟩
        case measure => simp [intOf]; omega
      · go_wp2
        go_ret
        exact ⟨ret_bool (hasI_at hlt hin).symm, rfl⟩
    · go_wp2
      go_ret
      exact ⟨ret_bool (by rw [← HA.out, List.take_of_length_le (by omega)]), rfl⟩

theorem infoInt : (Tryd.prog.info? 3).map (fun i => (i.zero, i.size, i.bytes)) = some (some (.int .i64 0), 1, 8) := by kernel_rfl
theorem intsE_app (a b : List Int) : intsE a ++ intsE b = intsE (a ++ b) := by simp [intsE]
theorem intsE_size (zs : List Int) : ∀ f ∈ intsE zs, f.length = 1 := by simp [intsE]

theorem repC_ints (G : List Nat) (w : World) : ∀ l : List Int, RepC G w (intsE l).flatten (l.map fun n => .int .i64 n)
  | [] => trivial
  | n :: l => by
    have := repC_ints G w l
    simp only [intsE, List.map_cons, List.flatten_cons, List.cons_append, List.nil_append] at this ⊢
    exact ⟨rfl, this⟩
theorem ints_new {G : List Nat} {w : World} {E : TypeId} (l : List Int) (hG : ∀ g, g ∈ G → g < w.heap.size) (hl : l.length ≤ 9223372036854775807) :
    Rep G (w.alloc (.cells (l.map fun n => Value.int .i64 n).toArray E)) (ints l) (.slice (some ⟨w.heap.size, 0, none⟩) l.length l.length) := by
  have := Rep.new (G := G) (w := w) (sz := 1) (es := intsE l) (cs := (l.map fun n => Value.int .i64 n).toArray) (E := E) (intsE_size l) (by simpa using repC_ints G w l) hG (by rw [intsE_length]; exact hl)
  rwa [intsE_length] at this

set_option maxHeartbeats 400000 in
theorem copyInts_any {G : List Nat} (v : Value) (zs : List Int) (w : World) (hz : Rep G w (ints zs) v) (hs : zs.length ≤ 1073741824) (hG : ∀ g, g ∈ G → g < w.heap.size) :
    Calls Tryd.prog 50 #[v] w fun e w' => ∃ r, e = .returned r ∧ Keep [] w w' ∧ Own G w.heap.size w' 3 1 r (intsE zs) := by
  have HZ := Lib.hid hz
  have HG := Lib.hid hG
  obtain ⟨a, cap, rfl, hl, hc⟩ := ints_form hz
  clear hz hG
  go_enter Tryd.func50, Tryd.ntmps50
  go_wp2_with (first
    | (at_builtin
       refine wpl_append rfl _ _ 22 rfl G w.heap.size 3 (.int .i64 0) 1 8 Tryd.underlying22 infoInt rfl (by decide) (.slice (some ⟨w.heap.size, 0, none⟩) 0 0) [] rfl (Own.made G _ w _ _ (Nat.le_refl _) HG.out) (.slice a zs.length cap) (intsE zs) rfl
         ((HZ.out.cons (Nat.le_refl _)).alloc _) (intsE_size zs) (by rw [intsE_length]; simp; omega) (by rw [intsE_length]; simp; omega) (by simp) (fun g hg => by have := HG.out g hg; simp; omega) ?_
       intro v' w' ho hgr
       have HO := Lib.hid ho
       have HR := Lib.hid hgr
       clear ho hgr))
  go_ret
  refine ⟨_, rfl, ((Keep.refl _ _).alloc _).trans HR.out.keep fun m hm => ?_, by simpa using HO.out⟩
  simp [ob, Value.ownBlock] at hm
  omega
set_option maxHeartbeats 400000 in
theorem extend_any {G : List Nat} (v u : Value) (zs ys : List Int) (w : World) (hz : Rep G w (ints zs) v) (hy : Rep G w (ints ys) u) (hs : zs.length ≤ 1073741824) (ht : ys.length ≤ 1073741824) (hG : ∀ g, g ∈ G → g < w.heap.size) :
    Calls Tryd.prog 60 #[v, u] w fun e w' => ∃ r, e = .returned r ∧ Keep [] w w' ∧ Own G w.heap.size w' 3 1 r (intsE (zs ++ ys)) := by
  have HZ := Lib.hid hz
  have HY := Lib.hid hy
  have HG := Lib.hid hG
  obtain ⟨a, cap, rfl, hl, hc⟩ := ints_form hz
  obtain ⟨a', cap', rfl, hl', hc'⟩ := ints_form hy
  clear hz hy hG
  go_enter Tryd.func60, Tryd.ntmps60
  go_wp2_with fail
  refine (copyInts_any _ zs w HZ.out hs HG.out).mono ?_
  rintro e w1 ⟨r, rfl, hk, ho⟩
  have HK := Lib.hid hk
  have HO := Lib.hid ho
  have hsz := hk.size
  clear hk ho
  go_wp2_with (first
    | (at_builtin
       refine wpl_append rfl _ _ 22 rfl G w.heap.size 3 (.int .i64 0) 1 8 Tryd.underlying22 infoInt rfl (by decide) r (intsE zs) rfl HO.out (.slice a' ys.length cap') (intsE ys) rfl
         (HY.out.ob HK.out fun g hg => (HO.out.lt g hg).1) (intsE_size ys) (by rw [intsE_length, intsE_length]; omega) (by rw [intsE_length, intsE_length]; omega) (by omega) (fun g hg => by have := HG.out g hg; omega) ?_
       intro v' w' ho hgr
       have HO2 := Lib.hid ho
       have HR := Lib.hid hgr
       clear ho hgr))
  go_ret
  refine ⟨_, rfl, HK.out.trans HR.out.keep fun m hm => .inr ?_, by rw [← intsE_app]; exact HO2.out⟩
  exact (HO.out.lt m hm).1
end Go.Proofs.YtnjincgemmgllaaDoor
