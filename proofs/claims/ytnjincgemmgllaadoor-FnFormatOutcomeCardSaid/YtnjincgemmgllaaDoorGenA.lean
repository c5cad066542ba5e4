/- The reader of the generator: newReader, pick, one. -/
import Derived.Test.YtnjincgemmgllaaDoorSpecE
namespace Go.Proofs.YtnjincgemmgllaaDoor
open Go.RowKit

/- bytes that can be read, below block B, not in block br -/
def BytesAt (B br : Nat) (w : World) (a : Option Addr) (len : Nat) : Prop :=
  ∀ j, j < len → ∃ b off n, a = some ⟨b, off, none⟩ ∧ b < B ∧ b ≠ br ∧ 0 ≤ n ∧ n ≤ 255 ∧ w.cell? ⟨b, off + j, none⟩ = some (.int .u8 n)
structure RdAt (B : Nat) (w : World) (br : Nat) (p : Nat) : Prop where
  lt : br < B
  ex : ∃ a len cap, len ≤ 2000 ∧ w.heap[br]? = some (.cells #[.slice a len cap, .int .i64 p] 70 (0, 0)) ∧ BytesAt B br w a len
theorem BytesAt.keep {B br : Nat} {M : List Nat} {w w' : World} {a : Option Addr} {len : Nat} (h : BytesAt B br w a len) (hk : Keep M w w') (hM : ∀ m, m ∈ M → m = br ∨ B ≤ m) : BytesAt B br w' a len := fun j hj => by
  obtain ⟨b, off, n, ha, hb, hne, h0, h1, hc⟩ := h j hj
  refine ⟨b, off, n, ha, hb, hne, h0, h1, hk.cellEq hc fun hm => ?_⟩
  rcases hM b hm with h | h
  · exact hne h
  · omega
theorem RdAt.keep {B : Nat} {M : List Nat} {w w' : World} {br p : Nat} (h : RdAt B w br p) (hk : Keep M w w') (hM : ∀ m, m ∈ M → B ≤ m) : RdAt B w' br p := by
  obtain ⟨hm, a, len, cap, hl, hh, hb⟩ := h
  exact ⟨hm, a, len, cap, hl, (hk.block br (Array.getElem?_eq_some_iff.1 hh).1 (fun h => by have := hM br h; omega)).trans hh, hb.keep hk fun m hm => .inr (hM m hm)⟩
theorem RdAt.keep0 {B : Nat} {w w' : World} {br p : Nat} (h : RdAt B w br p) (hk : Keep [] w w') : RdAt B w' br p := h.keep hk (fun _ hm => by cases hm)

def PickK (B : Nat) (w : World) (br p : Nat) (n : Int) (e : Ending) (w' : World) : Prop :=
  ∃ r : Int, e = .returned (.int .i64 r) ∧ 0 ≤ r ∧ (1 ≤ n → r < n) ∧ Keep [br] w w' ∧ RdAt B w' br (p + 1)

theorem rd_set {B : Nat} {w : World} {br p : Nat} (h : RdAt B w br p) : RdAt B (w.setCell ⟨br, 1, none⟩ (.int .i64 ((p : Int) + 1))) br (p + 1) := by
  obtain ⟨hm, a, len, cap, hl, hh, hb⟩ := h
  refine ⟨hm, a, len, cap, hl, ?_, hb.keep (M := [br]) ((Keep.refl _ _).setCell (.inl (by simp)) _) fun m hm' => ?_⟩
  · simp [World.setCell, Array.getElem?_modify, hh]
  · exact .inl (List.mem_singleton.1 hm')

theorem xor_nn (m : Nat) (h : (m : Int) ≤ 144115188075855872) : 0 ≤ bits .xor .i64 (m : Int) ((m : Int) / 64) := by
  have hb : m < 2 ^ 62 := by omega
  have d : ((m : Int) / 64) = ((m / 64 : Nat) : Int) := by omega
  have hd : m / 64 < 2 ^ 62 := by omega
  rw [d]
  generalize m / 64 = q at *
  have hx : m ^^^ q < 2 ^ 62 := Nat.xor_lt_two_pow hb hd
  have h1 : (BitVec.ofInt 64 (m : Int)).toNat = m := by
    rw [BitVec.ofInt_natCast, BitVec.toNat_ofNat]; exact Nat.mod_eq_of_lt (by omega)
  have h2 : (BitVec.ofInt 64 (q : Int)).toNat = q := by
    rw [BitVec.ofInt_natCast, BitVec.toNat_ofNat]; exact Nat.mod_eq_of_lt (by omega)
  show 0 ≤ IntKind.i64.wrap ((BitVec.ofInt 64 (m : Int) ^^^ BitVec.ofInt 64 (q : Int)).toNat : Int)
  rw [BitVec.toNat_xor, h1, h2, IntWalk.i64_in _ (by omega)]
  omega
set_option maxRecDepth 100000 in
set_option maxHeartbeats 1000000 in
theorem pick_any {B : Nat} (br p : Nat) (n : Int) (w : World) (hr : RdAt B w br p) (hp : p ≤ 1125899906842624) (hn : n ≤ 1000000) :
    Calls Tryd.prog 25 #[.pointer (some ⟨br, 0, none⟩), .int .i64 n] w (PickK B w br p n) := by
  have HR := Lib.hid (rd_set hr)
  have HK := Lib.hid (show Keep [br] w (w.setCell ⟨br, 1, none⟩ (.int .i64 ((p : Int) + 1))) from (Keep.refl _ _).setCell (.inl (by simp)) _)
  obtain ⟨hm, a, len, cap, hl, hh, hb⟩ := hr
  have HB := Lib.hid hb
  have c0 : w.cell? ⟨br, 0, none⟩ = some (.slice a len cap) := by rw [cell_of_row w br 0 _ _ _ hh]; rfl
  have c1 : w.cell? ⟨br, 1, none⟩ = some (.int .i64 p) := by rw [cell_of_row w br 1 _ _ _ hh]; rfl
  have f1 : w.frozen? ⟨br, 1, none⟩ = false := by simp [World.frozen?, hh]
  clear hb hh
  by_cases h1 : n < 1
  · go_enter Tryd.func25, Tryd.ntmps25
    go_wp2
    go_ret
    exact ⟨0, rfl, by omega, fun h => by omega, HK.out, HR.out⟩
  by_cases h2 : len = 0
  · have h2' : ((len : Int) == 0) = true := by simp [h2]
    clear h2
    go_enter Tryd.func25, Tryd.ntmps25
    go_wp2
    go_ret
    exact ⟨0, rfl, by omega, fun h => by omega, HK.out, HR.out⟩
  have h2' : ((len : Int) == 0) = false := by simp; omega
  by_cases h3 : p < len
  · obtain ⟨b, off, x, rfl, hblt, hbG, x0, x1, hcx⟩ := HB.out p h3
    have hne : br ≠ b := fun e => hbG e.symm
    go_enter Tryd.func25, Tryd.ntmps25
    go_wp2
    go_ret
    exact ⟨x % n, rfl, Int.emod_nonneg _ (by omega), fun _ => Int.emod_lt_of_pos _ (by omega), HK.out, HR.out⟩
  · obtain ⟨i1, hi1⟩ : ∃ i : Nat, i = p % len := ⟨_, rfl⟩
    obtain ⟨i2, hi2⟩ : ∃ i : Nat, i = (p * 7 + 3) % len := ⟨_, rfl⟩
    have l1 : i1 < len := by rw [hi1]; exact Nat.mod_lt _ (by omega)
    have l2 : i2 < len := by rw [hi2]; exact Nat.mod_lt _ (by omega)
    obtain ⟨b, off, x1, ha, hblt, hbG, x10, x11, hc1⟩ := HB.out i1 l1
    obtain ⟨b', off', x2, ha', _, _, x20, x21, hc2⟩ := HB.out i2 l2
    rw [ha] at ha'
    injection ha' with ha''
    injection ha'' with e1 e2
    subst e1 e2 ha
    have hne : br ≠ b := fun e => hbG e.symm
    have T1 : (p : Int).tmod (len : Int) = (i1 : Int) := by rw [hi1, Int.tmod_eq_emod_of_nonneg (by omega)]; rfl
    have T2 : ((p : Int) * 7 + 3).tmod (len : Int) = (i2 : Int) := by rw [hi2, Int.tmod_eq_emod_of_nonneg (by omega)]; rfl
    have W0 : IntKind.i64.wrap (i1 : Int) = i1 := IntWalk.i64_in _ (by omega)
    have W1 : IntKind.i64.wrap (i2 : Int) = i2 := IntWalk.i64_in _ (by omega)
    have W2 : IntKind.i64.wrap ((p : Int) * 7) = (p : Int) * 7 := IntWalk.i64_in _ (by omega)
    have W3 : IntKind.i64.wrap ((p : Int) * 7 + 3) = (p : Int) * 7 + 3 := IntWalk.i64_in _ (by omega)
    have D1 : (p : Int).tdiv (len : Int) = ((p / len : Nat) : Int) := by rw [Int.tdiv_eq_ediv_of_nonneg (by omega)]; rfl
    have D2 : p / len ≤ p := Nat.div_le_self _ _
    generalize p / len = d at *
    have W4 : IntKind.i64.wrap (d : Int) = d := IntWalk.i64_in _ (by omega)
    clear hi1 hi2
    go_enter Tryd.func25, Tryd.ntmps25
    go_wp2
    go_quiet (fail)
    have s0 : 0 ≤ x1 * 131 + x2 * 1117 + (p : Int) * 29 + (d : Int) * 53 := by omega
    have s1 : x1 * 131 + x2 * 1117 + (p : Int) * 29 + (d : Int) * 53 ≤ 144115188075855872 := by omega
    clear T1 T2 W0 W1 W2 W3 W4 D1
    generalize x1 * 131 + x2 * 1117 + (p : Int) * 29 + (d : Int) * 53 = S at *
    obtain ⟨m, rfl⟩ := Int.eq_ofNat_of_zero_le s0
    go_wp2
    have hx := xor_nn m (by omega)
    generalize bits .xor .i64 (m : Int) ((m : Int) / 64) = X at *
    go_ret
    exact ⟨X.tmod n, rfl, Int.tmod_nonneg _ hx, fun _ => Int.tmod_lt_of_pos _ (by omega), HK.out.drewN _, HR.out.keep0 ((Keep.refl _ _).drewN _)⟩

def OneK (B : Nat) (w : World) (br p : Nat) (l : List Int) (e : Ending) (w' : World) : Prop :=
  ∃ r : Int, e = .returned (.int .i64 r) ∧ r ∈ l ∧ Keep [br] w w' ∧ RdAt B w' br (p + 1)
set_option maxHeartbeats 400000 in
theorem one_any {G : List Nat} {B : Nat} (br p : Nat) (v : Value) (l : List Int) (w : World) (hr : RdAt B w br p) (hm : br ∈ G) (hp : p ≤ 1125899906842624) (hl : Rep G w (ints l) v) (h0 : 0 < l.length) (h1 : l.length ≤ 1000) :
    Calls Tryd.prog 24 #[.pointer (some ⟨br, 0, none⟩), v] w (OneK B w br p l) := by
  have HR := Lib.hid hr
  have HL := Lib.hid hl
  obtain ⟨a, cap, rfl, hcl, hc⟩ := ints_form hl
  clear hr hl
  go_enter Tryd.func24, Tryd.ntmps24
  go_wp2_with fail
  refine (pick_any br p _ _ HR.out hp (by omega)).mono ?_
  rintro e w1 ⟨r, rfl, r0, r1, hk, hrd⟩
  have HK := Lib.hid hk
  have HD := Lib.hid hrd
  obtain ⟨k, rfl⟩ := Int.eq_ofNat_of_zero_le r0
  have hkl : k < l.length := by have := r1 (by omega); omega
  have hl1 : Rep G w1 (ints l) (.slice a l.length cap) := HL.out.keep HK.out fun m h => by
    rcases List.mem_singleton.1 h with rfl
    exact .inl hm
  obtain ⟨b, off, rfl, hbG, hlt, hcell⟩ := ints_at hl1 hkl
  clear hk hrd hl1 r1
  go_wp2
  go_ret
  exact ⟨l[k], rfl, List.getElem_mem hkl, HK.out, HD.out⟩
end Go.Proofs.YtnjincgemmgllaaDoor
