/- Walks of the reference's conFields, consOf, arrowOf, isArrow, varsOfType, placeIn. -/
import Derived.Test.YtnjincgemmgllaaDoorSpecB
import Derived.IntWalk
namespace Go.Proofs.YtnjincgemmgllaaDoor
open Go.RowKit

theorem quiet_left {P : Program} {f : FuncId} {args : Array Value} {w : World} {n : Nat} {v : Value}
    (h : Calls P f args (w.drewN n) fun e w' => e = .returned v ∧ w.drewN n = w') :
    Calls P f args (w.drewN n) fun e w'' => e = .returned v ∧ ∃ m, w'' = w.drewN m :=
  h.mono fun _ _ ⟨he, hm⟩ => ⟨he, n, hm.symm⟩

def dat (l : List Dc) (i : Nat) : Dc := l.getD i ⟨0, 0, []⟩
theorem dat_at {l : List Dc} {i : Nat} (h : i < l.length) : dat l i = l[i] := by simp [dat, h]
def cflds (l : List Dc) (c : Int) : List Int := if ctyp l c < 1 then [] else (dat l (ctyp l c - 1).toNat).cons.getD (c - fcon l (ctyp l c - 1).toNat).toNat []
def RepK (G : List Nat) (w : World) (d : D) (e : Ending) (w' : World) : Prop := ∃ r, e = .returned r ∧ Keep [] w w' ∧ Rep G w' d r

set_option maxHeartbeats 400000 in
theorem conFields_any {G : List Nat} (v : Value) (l : List Dc) (c : Int) (w : World) (hz : Rep G w (decls l) v) (hb : fcon l l.length ≤ 1073741824) :
    Calls Tryd.prog 86 #[v, .int .i64 c] w (RepK G w (ints (cflds l c))) := by
  have HZ := Lib.hid hz
  obtain ⟨a, cap, rfl, hl, hc⟩ := decls_form hz
  clear hz
  rcases ctyp_cases l c with ht | ⟨i, hi, ht, hin⟩
  · have hf : cflds l c = [] := by simp [cflds, ht]
    rw [hf]
    have HT := Lib.hid ht
    clear hf ht
    go_enter Tryd.func86, Tryd.ntmps86
    go_wp2_with (go_at_call 89; refine (conType_any _ l _ _ HZ.out hb).mono ?_; rintro e w' ⟨rfl, rfl⟩; rw [HT.out])
    go_ret
    exact ⟨_, rfl, (Keep.refl _ _).alloc _, Rep.nil _ _ _ _ _ (by omega)⟩
  · obtain ⟨b, off, ca, cc, rfl, hb2, _, _, hcl, hcr⟩ := decls_at HZ.out hi
    have hin2 : inB (fcon l i) c (fcon l i + l[i].cons.length - 1) = true := by rw [cin, nco_at hi] at hin; exact hin
    obtain ⟨q1, q2⟩ := inB_of hin2
    have hn := fcon_nonneg l i
    have hs := fcon_succ hi
    have hy := fcon_le l (i + 1) l.length (by omega) (Nat.le_refl _)
    obtain ⟨m, hm⟩ := Int.eq_ofNat_of_zero_le (show 0 ≤ c - fcon l i by omega)
    have hml : m < l[i].cons.length := by omega
    have hf : cflds l c = l[i].cons[m] := by
      unfold cflds
      rw [if_neg (by omega), ht, show ((i : Int) + 1 - 1).toNat = i by omega, dat_at hi, hm, Int.toNat_natCast]
      simp [hml]
    obtain ⟨b3, off3, ca3, cc3, rfl, hb3, hcl3, hcr3⟩ := cons_at hcr hml
    rw [hf]
    have HT := Lib.hid ht
    have HM := Lib.hid hm
    have HR := Lib.hid hcr3
    have hil : (i : Int) < l.length := by omega
    have hq : fcon l i ≤ 1073741824 := by omega
    have hcb : c ≤ 2147483648 := by omega
    have hcb0 : 0 ≤ c := by omega
    have hcm : m ≤ 2147483648 := by omega
    clear hf ht hm hcr hcr3 hin hin2 hs hy
    go_enter Tryd.func86, Tryd.ntmps86
    go_wp2_with (go_at_call 89; refine (conType_any _ l _ _ HZ.out hb).mono ?_; rintro e w' ⟨rfl, rfl⟩; rw [HT.out])
    have e0 : IntKind.i64.wrap (i : Int) = i := IntWalk.i64_in _ (by omega)
    have e1 : IntKind.i64.wrap ((i : Int) + 1 - 1) = i := by rw [show (i : Int) + 1 - 1 = i by omega]; exact e0
    have e2 : IntKind.i64.wrap (c - fcon l i) = m := by rw [HM.out]; exact IntWalk.i64_in _ (by omega)
    have hfc : ∀ n, Calls Tryd.prog 64 #[.slice (some ⟨b, off, none⟩) l.length cap, .int .i64 i] (w.drewN n) fun e w' => e = .returned (.int .i64 (fcon l i)) ∧ w.drewN n = w' := fun n => by
      have := firstCon_any _ l i (w.drewN n) (HZ.out.drewN n) (by omega) (by omega) hb
      rwa [Int.toNat_natCast] at this
    have HF := Lib.hid hfc
    clear hfc
    go_quiet ((go_at_call 64; exact quiet_left (HF.out _)))
    clear e0 e1 e2
    go_wp2
    go_ret
    exact ⟨_, rfl, (Keep.refl _ _).drewN _, HR.out.drewN _⟩

/- the constructors of a type -/
def consL (l : List Dc) (t : Int) : List Int := if inB 1 t l.length then (List.range (dat l (t - 1).toNat).cons.length).map fun (i : Nat) => fcon l (t - 1).toNat + i else []
def OwnK (G : List Nat) (w : World) (E : TypeId) (sz : Nat) (es : List (List D)) (e : Ending) (w' : World) : Prop := ∃ r, e = .returned r ∧ Keep [] w w' ∧ Own G w.heap.size w' E sz r es
theorem OwnK.rep {G : List Nat} {w : World} {E : TypeId} {sz : Nat} {es : List (List D)} {e : Ending} {w' : World} (h : OwnK G w E sz es e w') : RepK G w (.arr sz es) e w' := by
  obtain ⟨r, he, hk, ho⟩ := h
  exact ⟨r, he, hk, ho.rep⟩
theorem range_map_snoc (f : Nat → Int) (k : Nat) : (List.range (k + 1)).map f = (List.range k).map f ++ [f k] := by
  rw [List.range_succ, List.map_append]; rfl

set_option maxHeartbeats 800000 in
theorem consOf_any {G : List Nat} (v : Value) (l : List Dc) (t : Int) (w : World) (hz : Rep G w (decls l) v) (hb : fcon l l.length ≤ 1073741824) (hG : ∀ g, g ∈ G → g < w.heap.size) :
    Calls Tryd.prog 85 #[v, .int .i64 t] w (OwnK G w 3 1 (intsE (consL l t))) := by
  have HZ := Lib.hid hz
  have HG := Lib.hid hG
  obtain ⟨a, cap, rfl, hl, hc⟩ := decls_form hz
  clear hz hG
  cases hin : inB 1 t l.length
  · have hf : consL l t = [] := by simp [consL, hin]
    rw [hf]
    clear hf
    go_enter Tryd.func85, Tryd.ntmps85
    go_wp2_with (first
      | (go_at_call 12; refine (inRange_any _ _ _ _).mono ?_; rintro e w' ⟨rfl, rfl⟩))
    go_ret
    exact ⟨_, rfl, (Keep.refl _ _).alloc _, Own.made G _ w _ _ (Nat.le_refl _) HG.out⟩
  · obtain ⟨t1, t2⟩ := inB_of hin
    obtain ⟨i, hi⟩ := Int.eq_ofNat_of_zero_le (show 0 ≤ t - 1 by omega)
    obtain rfl : t = i + 1 := by omega
    have hil : i < l.length := by omega
    have hf : consL l ((i : Int) + 1) = (List.range l[i].cons.length).map fun (k : Nat) => fcon l i + k := by
      unfold consL
      rw [if_pos hin, show ((i : Int) + 1 - 1).toNat = i by omega, dat_at hil]
    rw [hf]
    have hn := fcon_nonneg l i
    have hs := fcon_succ hil
    have hy := fcon_le l (i + 1) l.length (by omega) (Nat.le_refl _)
    have hq : fcon l i + l[i].cons.length ≤ 1073741824 := by omega
    clear hf hi hs hy
    go_enter Tryd.func85, Tryd.ntmps85
    go_wp2_with (first
      | (go_at_call 12; refine (inRange_any _ _ _ _).mono ?_; rintro e w' ⟨rfl, rfl⟩))
    go_loopw [5, 6] (fun s i' wr => ∃ k : Nat, k ≤ l[i].cons.length ∧ i' = .int .i64 k ∧ Keep [] w wr ∧ Own G w.heap.size wr 3 1 s (intsE ((List.range k).map fun (j : Nat) => fcon l i + j))) (fun _ i' _ => l[i].cons.length - (intOf i').toNat)
    case atStart => exact ⟨0, Nat.zero_le _, rfl, (Keep.refl _ _).alloc _, Own.made G _ w _ _ (Nat.le_refl _) HG.out⟩
    case round =>
      obtain ⟨k, hk, rfl, hkp, ho⟩ := hrel
      have HK := Lib.hid hkp
      have HO := Lib.hid ho
      have hsz := hkp.size
      clear hkp ho
      obtain ⟨b, off, ca, cc, rfl, hb2, _, _, hcl, _⟩ := decls_at (HZ.out.keep0 HK.out) hil
      by_cases hlt : k < l[i].cons.length
      · go_wp2_with (first
          | (go_at_call 64; refine (firstCon_any _ l _ _ (HZ.out.keep0 HK.out) (by omega) (by omega) hb).mono ?_; rintro e w' ⟨rfl, rfl⟩; (first | rw [Int.toNat_natCast] | rw [show ((i : Int) + 1 - 1).toNat = i by omega]))
          | (at_builtin
             refine wpl_append rfl _ _ 22 rfl G w.heap.size 3 (.int .i64 0) 1 8 Tryd.underlying22 infoInt rfl (by decide) u5 _ rfl (HO.out.alloc _) (.slice (some ⟨wr.heap.size, 0, none⟩) 1 1) (intsE [fcon l i + k]) rfl
               (Rep.new (es := intsE [fcon l i + k]) (intsE_size _) ⟨rfl, trivial⟩ (ob_fresh HO.out fun g hg => by have := HG.out g hg; omega) (by simp [intsE])) (intsE_size _) (by simp [intsE]; omega) (by simp [intsE]; omega) (by simp; omega) (fun g hg => by have := HG.out g hg; simp; omega) ?_
             intro v' w' ho hgr
             have HO2 := Lib.hid ho
             have HR := Lib.hid hgr
             clear ho hgr))
        go_roundw
        case rel => exact ⟨k + 1, by omega, by go_num, (HK.out.alloc _).trans HR.out.keep fun m hm => .inr (HO.out.lt m hm).1, by rw [range_map_snoc, ← intsE_app]; exact HO2.out⟩
        case measure => simp [intOf]; omega
      · have hkm : k = l[i].cons.length := by omega
        subst hkm
        go_wp2
        go_ret
        exact ⟨_, rfl, HK.out, HO.out⟩
end Go.Proofs.YtnjincgemmgllaaDoor
