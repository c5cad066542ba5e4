/- Declarations as plain data, and the walks of the reference's functions over them. -/
import Derived.Test.YtnjincgemmgllaaDoorSpecA
namespace Go.Proofs.YtnjincgemmgllaaDoor
open Go.RowKit

structure Dc where
  fr : Int
  to : Int
  cons : List (List Int)
def encCon (f : List Int) : List D := [ints f]
def encCons (l : List (List Int)) : D := .arr 1 (l.map encCon)
def encDc (d : Dc) : List D := [.int d.fr, .int d.to, encCons d.cons]
def decls (l : List Dc) : D := .arr 3 (l.map encDc)

theorem decls_form {G : List Nat} {w : World} {l : List Dc} {v : Value} (h : Rep G w (decls l) v) : ∃ a cap, v = .slice a l.length cap ∧ l.length ≤ cap ∧ cap ≤ 9223372036854775807 := by
  obtain ⟨a, cap, hv, hl, hc⟩ := Rep.form h
  rw [List.length_map] at hv hl
  exact ⟨a, cap, hv, hl, hc⟩
theorem decls_at {G : List Nat} {w : World} {l : List Dc} {a : Option Addr} {n cap : Nat} (h : Rep G w (decls l) (.slice a n cap)) {i : Nat} (hi : i < l.length) :
    ∃ b off ca cc, a = some ⟨b, off, none⟩ ∧ b < w.heap.size ∧ w.cell? ⟨b, off + i * 3, none⟩ = some (.int .i64 l[i].fr) ∧ w.cell? ⟨b, off + i * 3 + 1, none⟩ = some (.int .i64 l[i].to) ∧
      w.cell? ⟨b, off + i * 3 + 2, none⟩ = some (.slice ca l[i].cons.length cc) ∧ Rep G w (encCons l[i].cons) (.slice ca l[i].cons.length cc) := by
  obtain ⟨b, off, ha, _, hlt, _, hl⟩ := Rep.at_ h (i := i) (by simpa using hi)
  simp only [List.getElem_map, encDc, RepL, Rep] at hl
  obtain ⟨⟨c0, h0, rfl⟩, ⟨c1, h1, rfl⟩, ⟨c2, h2, r2⟩, _⟩ := hl
  have r3 : Rep G w (encCons l[i].cons) c2 := r2
  obtain ⟨ca, cc, rfl, _⟩ := Rep.form r3
  rw [List.length_map] at h2 r3
  exact ⟨b, off, ca, cc, ha, hlt, h0, h1, h2, r3⟩
theorem cons_at {G : List Nat} {w : World} {l : List (List Int)} {a : Option Addr} {n cap : Nat} (h : Rep G w (encCons l) (.slice a n cap)) {i : Nat} (hi : i < l.length) :
    ∃ b off ca cc, a = some ⟨b, off, none⟩ ∧ b < w.heap.size ∧ w.cell? ⟨b, off + i, none⟩ = some (.slice ca l[i].length cc) ∧ Rep G w (ints l[i]) (.slice ca l[i].length cc) := by
  obtain ⟨b, off, ha, _, hlt, _, hl⟩ := Rep.at_ h (i := i) (by simpa using hi)
  simp only [List.getElem_map, encCon, RepL, Nat.mul_one] at hl
  obtain ⟨⟨c0, h0, r0⟩, _⟩ := hl
  obtain ⟨ca, cc, rfl, _⟩ := ints_form r0
  exact ⟨b, off, ca, cc, ha, hlt, h0, r0⟩

def fcon (l : List Dc) (k : Nat) : Int := ((l.take k).map fun d => (d.cons.length : Int)).sum
theorem fcon_zero (l : List Dc) : fcon l 0 = 0 := by simp [fcon]
theorem fcon_succ {l : List Dc} {k : Nat} (hk : k < l.length) : fcon l (k + 1) = fcon l k + l[k].cons.length := by
  unfold fcon
  rw [take_snoc' _ _ hk, List.map_append, List.sum_append]
  simp only [List.map_cons, List.map_nil, List.sum_cons, List.sum_nil]
  omega
theorem fcon_nonneg (l : List Dc) (k : Nat) : 0 ≤ fcon l k := by
  unfold fcon
  generalize l.take k = m
  induction m with
  | nil => simp
  | cons d m ih => simp; omega
theorem fcon_le (l : List Dc) : ∀ (j k : Nat), j ≤ k → k ≤ l.length → fcon l j ≤ fcon l k := by
  intro j k hjk hk
  induction k with
  | zero => have : j = 0 := by omega
            subst this; exact Int.le_refl _
  | succ k ih =>
    rcases Nat.lt_or_ge j (k + 1) with h | h
    · have := ih (by omega) (by omega)
      rw [fcon_succ (by omega)]; omega
    · have : j = k + 1 := by omega
      subst this; exact Int.le_refl _

set_option maxHeartbeats 400000 in
theorem firstCon_any {G : List Nat} (v : Value) (l : List Dc) (t : Int) (w : World) (hz : Rep G w (decls l) v) (h0 : 0 ≤ t) (h1 : t ≤ l.length) (hb : fcon l l.length ≤ 1073741824) :
    Calls Tryd.prog 64 #[v, .int .i64 t] w fun e w' => e = .returned (.int .i64 (fcon l t.toNat)) ∧ w = w' := by
  obtain ⟨m, rfl⟩ := Int.eq_ofNat_of_zero_le h0
  rw [Int.toNat_natCast]
  have hm : m ≤ l.length := by omega
  have HZ := Lib.hid hz
  obtain ⟨a, cap, rfl, hl, hc⟩ := decls_form hz
  clear hz h0 h1
  go_enter Tryd.func64, Tryd.ntmps64
  go_wp2
  go_loop [5, 6] (fun n i => ∃ k : Nat, k ≤ m ∧ i = .int .i64 k ∧ n = .int .i64 (fcon l k)) (fun _ i => m - (intOf i).toNat)
  case atStart => exact ⟨0, Nat.zero_le _, rfl, by rw [fcon_zero]⟩
  case round =>
    obtain ⟨k, hk, rfl, rfl⟩ := hrel
    have hn := fcon_nonneg l k
    have hx := fcon_le l k l.length (by omega) (Nat.le_refl _)
    by_cases hlt : k < m
    · obtain ⟨b, off, ca, cc, rfl, hb2, _, _, hcl, _⟩ := decls_at HZ.out (show k < l.length by omega)
      have hs := fcon_succ (show k < l.length by omega)
      have hy := fcon_le l (k + 1) l.length (by omega) (Nat.le_refl _)
      have hq : fcon l k + l[k].cons.length ≤ 1073741824 := by omega
      have HS := Lib.hid hs
      clear hs hy
      go_wp2
      go_round
      case rel => exact ⟨k + 1, by omega, by go_num, by rw [HS.out]⟩
      case measure => simp [intOf]; omega
    · have hkm : k = m := by omega
      subst hkm
      go_wp2
      go_ret
      exact ⟨rfl, rfl⟩

def nco (l : List Dc) (i : Nat) : Int := match l[i]? with | some d => d.cons.length | none => 0
theorem nco_at {l : List Dc} {i : Nat} (h : i < l.length) : nco l i = l[i].cons.length := by simp [nco, h]
def cin (l : List Dc) (c : Int) (i : Nat) : Bool := inB (fcon l i) c (fcon l i + nco l i - 1)
def ctyp (l : List Dc) (c : Int) : Int := match (List.range l.length).find? (cin l c) with | some i => i + 1 | none => -1
theorem ctyp_some {l : List Dc} {c : Int} {k : Nat} (hk : k < l.length) (h : cin l c k = true) (hb : ∀ i, i < k → cin l c i = false) : ctyp l c = k + 1 := by
  have : (List.range l.length).find? (cin l c) = some k := by
    rw [List.find?_eq_some_iff_getElem]
    exact ⟨h, k, by simpa using hk, by simp, fun j hj => by simp [hb j hj]⟩
  simp [ctyp, this]
theorem ctyp_none {l : List Dc} {c : Int} (hb : ∀ i, i < l.length → cin l c i = false) : ctyp l c = -1 := by
  have : (List.range l.length).find? (cin l c) = none := by
    rw [List.find?_eq_none]
    intro x hx
    simp [hb x (by simpa using hx)]
  simp [ctyp, this]
theorem ctyp_cases (l : List Dc) (c : Int) : ctyp l c = -1 ∨ ∃ i, i < l.length ∧ ctyp l c = i + 1 ∧ cin l c i = true := by
  unfold ctyp
  cases h : (List.range l.length).find? (cin l c) with
  | none => exact .inl rfl
  | some i => exact .inr ⟨i, by simpa using List.mem_of_find?_eq_some h, rfl, List.find?_some h⟩

set_option maxHeartbeats 400000 in
theorem conType_any {G : List Nat} (v : Value) (l : List Dc) (c : Int) (w : World) (hz : Rep G w (decls l) v) (hb : fcon l l.length ≤ 1073741824) :
    Calls Tryd.prog 89 #[v, .int .i64 c] w fun e w' => e = .returned (.int .i64 (ctyp l c)) ∧ w = w' := by
  have HZ := Lib.hid hz
  obtain ⟨a, cap, rfl, hl, hc⟩ := decls_form hz
  clear hz
  go_enter Tryd.func89, Tryd.ntmps89
  go_wp2
  go_loop [5] (fun i => ∃ k : Nat, k ≤ l.length ∧ i = .int .i64 k ∧ ∀ i, i < k → cin l c i = false) (fun i => l.length - (intOf i).toNat)
  case atStart => exact ⟨0, Nat.zero_le _, rfl, fun i hi => by omega⟩
  case round =>
    obtain ⟨k, hk, rfl, hall⟩ := hrel
    have HA := Lib.hid hall
    clear hall
    by_cases hlt : k < l.length
    · obtain ⟨b, off, ca, cc, rfl, hb2, _, _, hcl, _⟩ := decls_at HZ.out hlt
      have hn := fcon_nonneg l k
      have hs := fcon_succ hlt
      have hy := fcon_le l (k + 1) l.length (by omega) (Nat.le_refl _)
      have hq : fcon l k + l[k].cons.length ≤ 1073741824 := by omega
      have he : cin l c k = inB (fcon l k) c (fcon l k + l[k].cons.length - 1) := by rw [cin, nco_at hlt]
      have HE := Lib.hid he
      clear hs hy he
      cases hin : inB (fcon l k) c (fcon l k + l[k].cons.length - 1)
      · go_wp2_with (first
          | (go_at_call 64; refine (firstCon_any _ l _ _ HZ.out (by omega) (by omega) hb).mono ?_; rintro e w' ⟨rfl, rfl⟩; rw [Int.toNat_natCast])
          | (go_at_call 12; refine (inRange_any _ _ _ _).mono ?_; rintro e w' ⟨rfl, rfl⟩))
        go_round
        case rel => exact ⟨k + 1, by omega, by go_num, fun i hi => by
          rcases Nat.lt_or_ge i k with h | h
          · exact HA.out i h
          · rw [show i = k by omega, HE.out, hin]⟩
        case measure => simp [intOf]; omega
      · go_wp2_with (first
          | (go_at_call 64; refine (firstCon_any _ l _ _ HZ.out (by omega) (by omega) hb).mono ?_; rintro e w' ⟨rfl, rfl⟩; rw [Int.toNat_natCast])
          | (go_at_call 12; refine (inRange_any _ _ _ _).mono ?_; rintro e w' ⟨rfl, rfl⟩))
        go_ret
        exact ⟨ret_int (by rw [ctyp_some hlt (by rw [HE.out, hin]) HA.out]), rfl⟩
    · go_wp2
      go_ret
      exact ⟨ret_int (by rw [ctyp_none (fun i hi => HA.out i (by omega))]), rfl⟩
end Go.Proofs.YtnjincgemmgllaaDoor
