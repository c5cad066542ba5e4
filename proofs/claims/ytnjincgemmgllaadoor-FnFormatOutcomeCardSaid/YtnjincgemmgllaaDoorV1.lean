/- Walks of the small helpers. -/
import Derived.Test.YtnjincgemmgllaaDoorProg
import Derived.WalkKit
import Derived.WalkSpells
import Derived.WalkLawsBesides
import Derived.Deep.QuietTactic
import Derived.BigQuiet
import Derived.Lib.Hide
import Derived.Lib.ItoaNum
import Derived.Lib.Join
import Derived.WalkSmall
import Derived.Deep.OwnRows
namespace Go.Proofs.YtnjincgemmgllaaDoor.W
open Go.RowKit

theorem ret_bool {a b : Bool} (h : a = b) : Ending.returned (.bool a) = .returned (.bool b) := by rw [h]
theorem ret_str {a b : ByteArray} (h : a = b) : Ending.returned (.string a) = .returned (.string b) := by rw [h]
def inB (lo n hi : Int) : Bool := decide (lo ≤ n) && decide (n ≤ hi)
theorem inB_true {lo n hi : Int} (h1 : lo ≤ n) (h2 : n ≤ hi) : inB lo n hi = true := by simp [inB, h1, h2]
theorem inB_of {lo n hi : Int} (h : inB lo n hi = true) : lo ≤ n ∧ n ≤ hi := by simpa [inB] using h
theorem inB_not {lo n hi : Int} (h : inB lo n hi = false) : ¬ (lo ≤ n ∧ n ≤ hi) := by
  intro hh; rw [inB_true hh.1 hh.2] at h; cases h

set_option maxHeartbeats 400000 in
theorem szIntS_any (a : Option Addr) (len cap : Nat) (left : Int) (w : World) (h0 : 0 ≤ left) (h1 : left ≤ 1048576) (hl : len ≤ 9223372036854775807) :
    Calls Tryd.prog 11 #[.slice a len cap, .int .i64 left] w fun e w' => e = .returned (.int .i64 (if left - len < 0 then -1 else left - len)) ∧ w = w' := by
  by_cases h : left - len < 0
  · go_enter Tryd.func11, Tryd.ntmps11
    go_wp2
    go_ret
    exact ⟨by simp [h], rfl⟩
  · go_enter Tryd.func11, Tryd.ntmps11
    go_wp2
    go_ret
    exact ⟨by simp [h], rfl⟩

set_option maxHeartbeats 400000 in
theorem inRange_any (n lo hi : Int) (w : World) :
    Calls Tryd.prog 12 #[.int .i64 n, .int .i64 lo, .int .i64 hi] w fun e w' => e = .returned (.bool (inB lo n hi)) ∧ w = w' := by
  by_cases h : lo ≤ n
  · go_enter Tryd.func12, Tryd.ntmps12
    go_wp2
    go_ret
    exact ⟨by simp [h, inB], rfl⟩
  · go_enter Tryd.func12, Tryd.ntmps12
    go_wp2
    go_ret
    exact ⟨by simp [h, inB]; omega, rfl⟩

set_option maxHeartbeats 400000 in
theorem isInt_any (n : Int) (w : World) :
    Calls Tryd.prog 17 #[.int .i64 n] w fun e w' => e = .returned (.bool (inB (-999) n 999)) ∧ w = w' := by
  by_cases h : -999 ≤ n
  · go_enter Tryd.func17, Tryd.ntmps17
    go_wp2
    go_ret
    exact ⟨by simp [h, inB], rfl⟩
  · go_enter Tryd.func17, Tryd.ntmps17
    go_wp2
    go_ret
    exact ⟨by simp [h, inB]; omega, rfl⟩

/-- an int slice (nil let in) reads as zs -/
def Ints (lo : Nat) (w : World) (v : Value) (zs : List Int) : Prop :=
  ∃ a len cap, v = .slice a len cap ∧ zs.length = len ∧ len ≤ cap ∧ cap ≤ 9223372036854775807 ∧
    ∀ k (hk : k < zs.length), ∃ b off, a = some ⟨b, off, none⟩ ∧ b < w.heap.size ∧ lo ≤ b ∧ w.cell? ⟨b, off + k, none⟩ = some (.int .i64 zs[k])

def okAll (zs : List Int) : Bool := zs.all fun n => inB (-999) n 999
theorem okAll_snoc (l : List Int) (n : Int) : okAll (l ++ [n]) = (okAll l && inB (-999) n 999) := by simp [okAll]
theorem take_snoc' {α : Type} (l : List α) (k : Nat) (h : k < l.length) : l.take (k + 1) = l.take k ++ [l[k]] := by
  rw [List.take_succ_eq_append_getElem h]
theorem takes_eq {zs ys : List Int} {k : Nat} (h1 : k < zs.length) (h2 : k < ys.length) (h : zs.take k = ys.take k) (e : zs[k] = ys[k]) : zs.take (k + 1) = ys.take (k + 1) := by
  rw [take_snoc' _ _ h1, take_snoc' _ _ h2, h, e]
theorem okAll_false {zs : List Int} {k : Nat} (hk : k < zs.length) (h : inB (-999) zs[k] 999 = false) : okAll zs = false := by
  rw [okAll, List.all_eq_false]
  exact ⟨zs[k], List.getElem_mem hk, by simp [h]⟩
theorem okAll_getElem {zs : List Int} (h : okAll zs = true) {k : Nat} (hk : k < zs.length) : -999 ≤ zs[k] ∧ zs[k] ≤ 999 :=
  inB_of (List.all_eq_true.1 h _ (List.getElem_mem hk))

set_option maxHeartbeats 400000 in
theorem allInRange_any {lo : Nat} (v : Value) (zs : List Int) (w : World) (hz : Ints lo w v zs) :
    Calls Tryd.prog 13 #[v] w fun e w' => e = .returned (.bool (okAll zs)) ∧ w = w' := by
  obtain ⟨a, len, cap, rfl, rfl, hc, hm, hcell⟩ := hz
  have HC := Lib.hid hcell
  clear hcell
  go_enter Tryd.func13, Tryd.ntmps13
  go_wp2
  go_loop [3] (fun i => ∃ k : Nat, k ≤ zs.length ∧ i = .int .i64 k ∧ okAll (zs.take k) = true) (fun i => zs.length - (intOf i).toNat)
  case atStart => exact ⟨0, Nat.zero_le _, rfl, by simp [okAll]⟩
  case round =>
    obtain ⟨k, hk, rfl, hall⟩ := hrel
    have HA := Lib.hid hall
    clear hall
    by_cases hlt : k < zs.length
    · obtain ⟨b, off, rfl, hb, _, hcl⟩ := HC.out k hlt
      cases hin : inB (-999) zs[k] 999
      · go_wp2_with (go_at_call 12; refine (inRange_any _ _ _ _).mono ?_; rintro e w' ⟨rfl, rfl⟩)
        go_ret
        exact ⟨ret_bool (okAll_false hlt hin).symm, rfl⟩
      · go_wp2_with (go_at_call 12; refine (inRange_any _ _ _ _).mono ?_; rintro e w' ⟨rfl, rfl⟩)
        go_round
        case rel => exact ⟨k + 1, by omega, by go_num, by rw [take_snoc' _ _ hlt, okAll_snoc, HA.out, hin]; rfl⟩
        case measure => simp [intOf]; omega
    · go_wp2
      go_ret
      exact ⟨ret_bool (by rw [← HA.out, List.take_of_length_le (by omega)]), rfl⟩

set_option maxHeartbeats 400000 in
theorem eqIntS_any {lo lo' : Nat} (v u : Value) (zs ys : List Int) (w : World) (hz : Ints lo w v zs) (hy : Ints lo' w u ys) :
    Calls Tryd.prog 20 #[v, u] w fun e w' => e = .returned (.bool (decide (zs = ys))) ∧ Below w.heap.size w w' := by
  obtain ⟨a, len, cap, rfl, rfl, hc, hm, hcell⟩ := hz
  obtain ⟨a', len', cap', rfl, rfl, hc', hm', hcell'⟩ := hy
  have HC := Lib.hid hcell
  have HC' := Lib.hid hcell'
  clear hcell hcell'
  by_cases hlen : zs.length = ys.length
  · have HL := Lib.hid hlen
    have hb : ((zs.length : Int) != ys.length) = false := by simp [hlen]
    clear hlen
    go_enter Tryd.func20, Tryd.ntmps20
    go_wp2
    go_loopw [5] (fun i wr => ∃ k : Nat, k ≤ zs.length ∧ i = .int .i64 k ∧ zs.take k = ys.take k ∧ Below w.heap.size w wr) (fun i _ => zs.length - (intOf i).toNat)
    case atStart => exact ⟨0, Nat.zero_le _, rfl, by simp, Below.refl _ _⟩
    case round =>
      obtain ⟨k, hk, rfl, hall, hbl⟩ := hrel
      have HA := Lib.hid hall
      clear hall
      by_cases hlt : k < zs.length
      · obtain ⟨b, off, rfl, hb, _, hcl⟩ := HC.out k hlt
        obtain ⟨b', off', rfl, hb', _, hcl'⟩ := HC'.out k (by have := HL.out; omega)
        have hd1 : wr.cell? ⟨b, off + k, none⟩ = some (.int .i64 zs[k]) := (hbl.cell (p := ⟨b, off + k, none⟩) hb).trans hcl
        have hd2 : wr.cell? ⟨b', off' + k, none⟩ = some (.int .i64 (ys[k]'(by have := HL.out; omega))) := (hbl.cell (p := ⟨b', off' + k, none⟩) hb').trans hcl'
        clear hcl hcl'
        have hlt' : k < ys.length := by have := HL.out; omega
        go_wp2
        go_quiet (fail)
        cases hq : (zs[k] != ys[k])
        · go_wp2
          go_roundw
          case rel => exact ⟨k + 1, by omega, by go_num, takes_eq hlt hlt' HA.out (by simpa using hq), below_drewN hbl _⟩
          case measure => simp [intOf]; omega
        · go_wp2
          go_ret
          refine ⟨ret_bool (by simp; rintro rfl; simp at hq), below_drewN hbl _⟩
      · go_wp2
        go_ret
        refine ⟨ret_bool ?_, hbl⟩
        have := HA.out
        rw [List.take_of_length_le (by omega), List.take_of_length_le (by have := HL.out; omega)] at this
        simp [this]
  · have hb : ((zs.length : Int) != ys.length) = true := by simp; omega
    have hne : zs ≠ ys := fun h => hlen (by rw [h])
    have HN := Lib.hid hne
    clear hlen hne
    go_enter Tryd.func20, Tryd.ntmps20
    go_wp2
    go_ret
    exact ⟨ret_bool (by simp [HN.out]), Below.refl _ _⟩

theorem info3 : (Tryd.prog.info? 3).map (fun i => (i.zero, i.size, i.bytes)) = some (some (.int .i64 0), 1, 8) := by kernel_rfl

theorem Ints.below {lo : Nat} {w w' : World} {v : Value} {zs : List Int} (h : Ints lo w v zs) (hb : Below w.heap.size w w') : Ints lo w' v zs := by
  obtain ⟨a, len, cap, rfl, hl, hc, hm, hcell⟩ := h
  refine ⟨a, len, cap, rfl, hl, hc, hm, fun k hk => ?_⟩
  obtain ⟨b, off, ha, hlt, hlo, hcl⟩ := hcell k hk
  exact ⟨b, off, ha, Nat.lt_of_lt_of_le hlt hb.size, hlo, (hb.cell (p := ⟨b, off + k, none⟩) hlt).trans hcl⟩

theorem row_step {wr : World} {B k : Nat} {zs : List Int} (h : k < zs.length)
    (hrow : wr.rowIs B 3 zs.length (fun j => if j < k then .int .i64 (zs.getD j 0) else .int .i64 0)) :
    (wr.setCell ⟨B, k, none⟩ (.int .i64 zs[k])).rowIs B 3 zs.length (fun j => if j < k + 1 then .int .i64 (zs.getD j 0) else .int .i64 0) := by
  refine (hrow.set k (.int .i64 zs[k])).congr fun i _ => ?_
  by_cases e : i = k
  · subst e; simp [h]
  · by_cases e2 : i < k
    · simp [e, e2, show i < k + 1 by omega]
    · simp [e, e2, show ¬ i < k + 1 by omega]
theorem ints_of_row {wr : World} {B k : Nat} {zs : List Int} (h : zs.length ≤ k)
    (hrow : wr.rowIs B 3 zs.length (fun j => if j < k then .int .i64 (zs.getD j 0) else .int .i64 0)) (hs : zs.length ≤ 1048576) :
    Ints B wr (.slice (some ⟨B, 0, none⟩) zs.length zs.length) zs := by
  refine ⟨_, _, _, rfl, rfl, Nat.le_refl _, by omega, fun i hi => ⟨B, 0, rfl, hrow.lt, Nat.le_refl _, ?_⟩⟩
  have := hrow.cell hi
  simp [show i < k by omega, hi] at this
  simpa using this

theorem Ints.setCell {lo : Nat} {w : World} {v : Value} {zs : List Int} (h : Ints lo w v zs) {p : Addr} (hp : p.block < lo) (u : Value) : Ints lo (w.setCell p u) v zs := by
  obtain ⟨a, len, cap, rfl, hl, hc, hm, hcell⟩ := h
  refine ⟨a, len, cap, rfl, hl, hc, hm, fun k hk => ?_⟩
  obtain ⟨b, off, ha, hlt, hlo, hcl⟩ := hcell k hk
  exact ⟨b, off, ha, by simpa [World.setCell] using hlt, hlo, (World.cell?_setCell_other w p ⟨b, off + k, none⟩ u (fun e => by subst e; simp at hp; omega)).trans hcl⟩
theorem Ints.mono {lo lo' : Nat} {w : World} {v : Value} {zs : List Int} (h : Ints lo w v zs) (hl : lo' ≤ lo) : Ints lo' w v zs := by
  obtain ⟨a, len, cap, rfl, hl, hc, hm, hcell⟩ := h
  refine ⟨a, len, cap, rfl, hl, hc, hm, fun k hk => ?_⟩
  obtain ⟨b, off, ha, hlt, hlo, hcl⟩ := hcell k hk
  exact ⟨b, off, ha, hlt, by omega, hcl⟩

set_option maxHeartbeats 400000 in
theorem toIntS_any {lo : Nat} (v : Value) (zs : List Int) (w : World) (hz : Ints lo w v zs) (hs : zs.length ≤ 1048576) :
    Calls Tryd.prog 16 #[v] w fun e w' => ∃ r, e = .returned r ∧ Ints w.heap.size w' r zs ∧ Below w.heap.size w w' := by
  obtain ⟨a, len, cap, rfl, rfl, hc, hm, hcell⟩ := hz
  have HC := Lib.hid hcell
  clear hcell
  have hmk := run_make_row' (P := Tryd.prog) 22 3 (.int .i64 0) 8 Tryd.underlying22 info3 rfl .i64 .i64 zs.length (by omega) (by omega)
  go_enter Tryd.func16, Tryd.ntmps16
  go_wp2
  clear hmk
  go_loopw [4] (fun i wr => ∃ k : Nat, k ≤ zs.length ∧ i = .int .i64 k ∧ wr.rowIs w.heap.size 3 zs.length (fun j => if j < k then .int .i64 (zs.getD j 0) else .int .i64 0) ∧ Below w.heap.size w wr) (fun i _ => zs.length - (intOf i).toNat)
  case atStart => exact ⟨0, Nat.zero_le _, rfl, (World.rowIs_made _ _ _ _).congr (fun i _ => by simp), (Below.refl _ _).alloc (Nat.le_refl _) _⟩
  case round =>
    obtain ⟨k, hk, rfl, hrow, hbl⟩ := hrel
    by_cases hlt : k < zs.length
    · obtain ⟨b, off, rfl, hb, _, hcl⟩ := HC.out k hlt
      have hcl2 : wr.cell? ⟨b, off + k, none⟩ = some (.int .i64 zs[k]) := (hbl.cell (p := ⟨b, off + k, none⟩) hb).trans hcl
      have hc3 := hrow.cell hlt
      have hf3 := hrow.frozen k
      clear hcl
      go_wp2
      go_roundw
      case rel => exact ⟨k + 1, by omega, by go_num, row_step hlt hrow, hbl.setCell (Nat.le_refl _) _⟩
      case measure => simp [intOf]; omega
    · go_wp2
      go_ret
      exact ⟨_, rfl, ints_of_row (by omega) hrow (by omega), hbl⟩
end Go.Proofs.YtnjincgemmgllaaDoor.W
