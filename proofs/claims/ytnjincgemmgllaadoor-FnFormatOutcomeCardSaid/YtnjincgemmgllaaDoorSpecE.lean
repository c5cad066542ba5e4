/- Walks of the reference's arrowOf, isArrow, varsOfType, placeIn. -/
import Derived.Test.YtnjincgemmgllaaDoorSpecD
namespace Go.Proofs.YtnjincgemmgllaaDoor
open Go.RowKit

def isAr (l : List Dc) (f t : Int) (i : Nat) : Bool := (dat l i).cons.length == 0 && (dat l i).fr == f && (dat l i).to == t
def aof (l : List Dc) (f t : Int) : Int := match (List.range l.length).find? (isAr l f t) with | some i => i + 1 | none => -1
theorem aof_some {l : List Dc} {f t : Int} {k : Nat} (hk : k < l.length) (h : isAr l f t k = true) (hb : ∀ i, i < k → isAr l f t i = false) : aof l f t = k + 1 := by
  have : (List.range l.length).find? (isAr l f t) = some k := by
    rw [List.find?_eq_some_iff_getElem]
    exact ⟨h, k, by simpa using hk, by simp, fun j hj => by simp [hb j hj]⟩
  simp [aof, this]
theorem aof_none {l : List Dc} {f t : Int} (hb : ∀ i, i < l.length → isAr l f t i = false) : aof l f t = -1 := by
  have : (List.range l.length).find? (isAr l f t) = none := by
    rw [List.find?_eq_none]
    intro x hx
    simp [hb x (by simpa using hx)]
  simp [aof, this]
theorem aof_cases (l : List Dc) (f t : Int) : aof l f t = -1 ∨ ∃ i, i < l.length ∧ aof l f t = i + 1 ∧ isAr l f t i = true := by
  unfold aof
  cases h : (List.range l.length).find? (isAr l f t) with
  | none => exact .inl rfl
  | some i => exact .inr ⟨i, by simpa using List.mem_of_find?_eq_some h, rfl, List.find?_some h⟩

set_option maxHeartbeats 800000 in
theorem arrowOf_any {G : List Nat} (v : Value) (l : List Dc) (f t : Int) (w : World) (hz : Rep G w (decls l) v) :
    Calls Tryd.prog 90 #[v, .int .i64 f, .int .i64 t] w fun e w' => e = .returned (.int .i64 (aof l f t)) ∧ w = w' := by
  have HZ := Lib.hid hz
  obtain ⟨a, cap, rfl, hl, hc⟩ := decls_form hz
  clear hz
  go_enter Tryd.func90, Tryd.ntmps90
  go_wp2
  go_loop [7] (fun i => ∃ k : Nat, k ≤ l.length ∧ i = .int .i64 k ∧ ∀ i, i < k → isAr l f t i = false) (fun i => l.length - (intOf i).toNat)
  case atStart => exact ⟨0, Nat.zero_le _, rfl, fun i hi => by omega⟩
  case round =>
    obtain ⟨k, hk, rfl, hall⟩ := hrel
    have HA := Lib.hid hall
    clear hall
    by_cases hlt : k < l.length
    · obtain ⟨b, off, ca, cc, rfl, hb2, c0, c1, c2, _⟩ := decls_at HZ.out hlt
      have he : isAr l f t k = (l[k].cons.length == 0 && l[k].fr == f && l[k].to == t) := by rw [isAr, dat_at hlt]
      have HE := Lib.hid he
      have step : isAr l f t k = false → ∀ i, i < k + 1 → isAr l f t i = false := fun hf i hi => by
        rcases Nat.lt_or_ge i k with h | h
        · exact HA.out i h
        · rw [show i = k by omega, hf]
      have ST := Lib.hid step
      clear he step
      cases q1 : ((l[k].cons.length : Int) == 0)
      · have q1' : (l[k].cons.length == 0) = false := by simp at q1 ⊢; omega
        have hfin := Lib.hid (show isAr l f t k = false by rw [HE.out, q1']; rfl)
        clear q1'
        go_wp2
        go_round
        case rel => exact ⟨k + 1, by omega, by go_num, ST.out hfin.out⟩
        case measure => simp [intOf]; omega
      · have q1' : (l[k].cons.length == 0) = true := by simp at q1 ⊢; omega
        cases q2 : (l[k].fr == f)
        · have hfin := Lib.hid (show isAr l f t k = false by rw [HE.out, q1', q2]; rfl)
          clear q1'
          go_wp2
          go_round
          case rel => exact ⟨k + 1, by omega, by go_num, ST.out hfin.out⟩
          case measure => simp [intOf]; omega
        · cases q3 : (l[k].to == t)
          · have hfin := Lib.hid (show isAr l f t k = false by rw [HE.out, q1', q2, q3]; rfl)
            clear q1'
            go_wp2
            go_round
            case rel => exact ⟨k + 1, by omega, by go_num, ST.out hfin.out⟩
            case measure => simp [intOf]; omega
          · have hfin := Lib.hid (show isAr l f t k = true by rw [HE.out, q1', q2, q3]; rfl)
            clear q1'
            go_wp2
            go_ret
            exact ⟨ret_int (by rw [aof_some hlt hfin.out HA.out]), rfl⟩
    · go_wp2
      go_ret
      exact ⟨ret_int (by rw [aof_none (fun i hi => HA.out i (by omega))]), rfl⟩

def isArr (l : List Dc) (t : Int) : Bool := inB 1 t l.length && (dat l (t - 1).toNat).cons.length == 0
set_option maxHeartbeats 400000 in
theorem isArrow_any {G : List Nat} (v : Value) (l : List Dc) (t : Int) (w : World) (hz : Rep G w (decls l) v) :
    Calls Tryd.prog 84 #[v, .int .i64 t] w fun e w' => e = .returned (.bool (isArr l t)) ∧ w = w' := by
  have HZ := Lib.hid hz
  obtain ⟨a, cap, rfl, hl, hc⟩ := decls_form hz
  clear hz
  cases hin : inB 1 t l.length
  · have hf := Lib.hid (show isArr l t = false by rw [isArr, hin]; rfl)
    go_enter Tryd.func84, Tryd.ntmps84
    go_wp2_with (go_at_call 12; refine (inRange_any _ _ _ _).mono ?_; rintro e w' ⟨rfl, rfl⟩)
    go_ret
    exact ⟨ret_bool hf.out.symm, rfl⟩
  · obtain ⟨t1, t2⟩ := inB_of hin
    obtain ⟨i, hi⟩ := Int.eq_ofNat_of_zero_le (show 0 ≤ t - 1 by omega)
    obtain rfl : t = i + 1 := by omega
    have hil : i < l.length := by omega
    have hf : isArr l ((i : Int) + 1) = ((l[i].cons.length : Int) == 0) := by
      rw [isArr, hin, show ((i : Int) + 1 - 1).toNat = i by omega, dat_at hil]
      rw [Bool.true_and, Bool.eq_iff_iff]; simp
    have HF := Lib.hid hf
    obtain ⟨b, off, ca, cc, rfl, hb2, _, _, hcl, _⟩ := decls_at HZ.out hil
    clear hf hi
    go_enter Tryd.func84, Tryd.ntmps84
    go_wp2_with (go_at_call 12; refine (inRange_any _ _ _ _).mono ?_; rintro e w' ⟨rfl, rfl⟩)
    go_ret
    exact ⟨ret_bool HF.out.symm, rfl⟩

def plIn (l : List Int) (n : Int) : Int := match (List.range l.length).find? (fun i => l.getD i 0 == n) with | some i => i | none => -1
theorem plIn_some {l : List Int} {n : Int} {k : Nat} (hk : k < l.length) (h : (l[k] == n) = true) (hb : ∀ i, i < k → (l.getD i 0 == n) = false) : plIn l n = k := by
  have : (List.range l.length).find? (fun i => l.getD i 0 == n) = some k := by
    rw [List.find?_eq_some_iff_getElem]
    exact ⟨by simpa [hk] using h, k, by simpa using hk, by simp, fun j hj => by
      have := hb j hj
      simp only [List.getElem_range]
      rw [this]; rfl⟩
  unfold plIn; rw [this]
theorem plIn_none {l : List Int} {n : Int} (hb : ∀ i, i < l.length → (l.getD i 0 == n) = false) : plIn l n = -1 := by
  have : (List.range l.length).find? (fun i => l.getD i 0 == n) = none := by
    rw [List.find?_eq_none]
    intro x hx
    rw [hb x (by simpa using hx)]; simp
  unfold plIn; rw [this]
theorem plIn_cases (l : List Int) (n : Int) : plIn l n = -1 ∨ ∃ i, ∃ h : i < l.length, plIn l n = i ∧ l[i] = n := by
  unfold plIn
  cases h : (List.range l.length).find? (fun i => l.getD i 0 == n) with
  | none => exact .inl rfl
  | some i =>
    have hi : i < l.length := by simpa using List.mem_of_find?_eq_some h
    have := List.find?_some h
    simp [hi] at this
    exact .inr ⟨i, hi, rfl, this⟩
set_option maxHeartbeats 400000 in
theorem placeIn_any {G : List Nat} (v : Value) (zs : List Int) (n : Int) (w : World) (hz : Rep G w (ints zs) v) :
    Calls Tryd.prog 39 #[v, .int .i64 n] w fun e w' => e = .returned (.int .i64 (plIn zs n)) ∧ w = w' := by
  have HZ := Lib.hid hz
  obtain ⟨a, cap, rfl, hl, hc⟩ := ints_form hz
  clear hz
  go_enter Tryd.func39, Tryd.ntmps39
  go_wp2
  go_loop [5] (fun i => ∃ k : Nat, k ≤ zs.length ∧ i = .int .i64 k ∧ ∀ i, i < k → (zs.getD i 0 == n) = false) (fun i => zs.length - (intOf i).toNat)
  case atStart => exact ⟨0, Nat.zero_le _, rfl, fun i hi => by omega⟩
  case round =>
    obtain ⟨k, hk, rfl, hall⟩ := hrel
    have HA := Lib.hid hall
    clear hall
    by_cases hlt : k < zs.length
    · obtain ⟨b, off, rfl, _, hb, hcl⟩ := ints_at HZ.out hlt
      cases hin : (zs[k] == n)
      · go_wp2
        go_round
        case rel => exact ⟨k + 1, by omega, by go_num, fun i hi => by
          rcases Nat.lt_or_ge i k with h | h
          · exact HA.out i h
          · have : i = k := by omega
            subst this
            simpa [hlt] using hin⟩
        case measure => simp [intOf]; omega
      · go_wp2
        go_ret
        exact ⟨ret_int (by rw [plIn_some hlt hin HA.out]), rfl⟩
    · go_wp2
      go_ret
      exact ⟨ret_int (by rw [plIn_none (fun i hi => HA.out i (by omega))]), rfl⟩

def vot (vs : List Int) (t : Int) : List Int := ((List.range vs.length).filter fun i => vs.getD i 0 == t).map fun (i : Nat) => (i : Int)
def votK (vs : List Int) (t : Int) (k : Nat) : List Int := ((List.range k).filter fun i => vs.getD i 0 == t).map fun (i : Nat) => (i : Int)
theorem votK_len (vs : List Int) (t : Int) (k : Nat) : (votK vs t k).length ≤ k := by
  have := List.length_filter_le (fun i => vs.getD i 0 == t) (List.range k)
  simpa [votK] using this
theorem votK_yes {vs : List Int} {t : Int} {k : Nat} (hk : k < vs.length) (h : (vs[k] == t) = true) : votK vs t (k + 1) = votK vs t k ++ [(k : Int)] := by
  simp [votK, List.range_succ, List.filter_append, hk, h]
theorem votK_no {vs : List Int} {t : Int} {k : Nat} (hk : k < vs.length) (h : (vs[k] == t) = false) : votK vs t (k + 1) = votK vs t k := by
  simp [votK, List.range_succ, List.filter_append, hk, h]
theorem vot_mem {vs : List Int} {t x : Int} (h : x ∈ vot vs t) : ∃ i, ∃ hi : i < vs.length, x = (i : Int) ∧ vs[i] = t := by
  simp [vot] at h
  obtain ⟨i, ⟨hi, hv⟩, rfl⟩ := h
  exact ⟨i, hi, rfl, by simpa [hi] using hv⟩
theorem vot_nil {vs : List Int} {t : Int} (h : vot vs t = []) : t ∉ vs := by
  intro hm
  obtain ⟨i, hi, he⟩ := List.getElem_of_mem hm
  have : (i : Int) ∈ vot vs t := by simp [vot]; exact ⟨i, ⟨hi, by simp [hi, he]⟩, rfl⟩
  rw [h] at this
  cases this

set_option maxHeartbeats 800000 in
theorem varsOfType_any {G : List Nat} (v : Value) (vs : List Int) (t : Int) (w : World) (hz : Rep G w (ints vs) v) (hs : vs.length ≤ 1073741824) (hG : ∀ g, g ∈ G → g < w.heap.size) :
    Calls Tryd.prog 78 #[v, .int .i64 t] w (OwnK G w 3 1 (intsE (vot vs t))) := by
  have HZ := Lib.hid hz
  have HG := Lib.hid hG
  obtain ⟨a, cap, rfl, hl, hc⟩ := ints_form hz
  clear hz hG
  go_enter Tryd.func78, Tryd.ntmps78
  go_wp2
  go_loopw [5, 6] (fun s i' wr => ∃ k : Nat, k ≤ vs.length ∧ i' = .int .i64 k ∧ Keep [] w wr ∧ Own G w.heap.size wr 3 1 s (intsE (votK vs t k))) (fun _ i' _ => vs.length - (intOf i').toNat)
  case atStart => exact ⟨0, Nat.zero_le _, rfl, (Keep.refl _ _).alloc _, Own.made G _ w _ _ (Nat.le_refl _) HG.out⟩
  case round =>
    obtain ⟨k, hk, rfl, hkp, ho⟩ := hrel
    have HK := Lib.hid hkp
    have HO := Lib.hid ho
    have hsz := hkp.size
    clear hkp ho
    by_cases hlt : k < vs.length
    · obtain ⟨b, off, rfl, _, hb, hcl⟩ := ints_at (HZ.out.keep0 HK.out) hlt
      have hvl := votK_len vs t k
      cases hin : (vs[k] == t)
      · go_wp2
        go_roundw
        case rel => exact ⟨k + 1, by omega, by go_num, HK.out, by rw [votK_no hlt hin]; exact HO.out⟩
        case measure => simp [intOf]; omega
      · go_wp2_with (first
          | (at_builtin
             refine wpl_append rfl _ _ 22 rfl G w.heap.size 3 (.int .i64 0) 1 8 Tryd.underlying22 infoInt rfl (by decide) u5 _ rfl (HO.out.alloc _) (.slice (some ⟨wr.heap.size, 0, none⟩) 1 1) (intsE [(k : Int)]) rfl
               (Rep.new (es := intsE [(k : Int)]) (intsE_size _) ⟨rfl, trivial⟩ (ob_fresh HO.out fun g hg => by have := HG.out g hg; omega) (by simp [intsE])) (intsE_size _) (by simp [intsE]; omega) (by simp [intsE]; omega) (by simp; omega) (fun g hg => by have := HG.out g hg; simp; omega) ?_
             intro v' w' ho hgr
             have HO2 := Lib.hid ho
             have HR := Lib.hid hgr
             clear ho hgr))
        go_roundw
        case rel => exact ⟨k + 1, by omega, by go_num, (HK.out.alloc _).trans HR.out.keep fun m hm => .inr (HO.out.lt m hm).1, by rw [votK_yes hlt hin, ← intsE_app]; exact HO2.out⟩
        case measure => simp [intOf]; omega
    · have hkm : k = vs.length := by omega
      subst hkm
      go_wp2
      go_ret
      exact ⟨_, rfl, HK.out, HO.out⟩
end Go.Proofs.YtnjincgemmgllaaDoor
