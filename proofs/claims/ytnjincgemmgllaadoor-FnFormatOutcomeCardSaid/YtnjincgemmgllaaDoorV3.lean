/- Walks of the two functions FormatOutcome. -/
import Derived.Test.YtnjincgemmgllaaDoorV2
namespace Go.Proofs.YtnjincgemmgllaaDoor.W
open Go.RowKit

def word (st va : Int) : List UInt8 :=
  if st = 0 then [100, 111, 110, 101, 32] ++ dec va else if st = 1 then [115, 112, 101, 110, 116] else [102, 97, 117, 108, 116]
def fo (st va ca : Int) (zs : List Int) : List UInt8 := word st va ++ [32] ++ dec ca ++ [32] ++ cm zs
theorem fo0 (va ca : Int) (zs : List Int) : ((⟨[100, 111, 110, 101, 32].toArray⟩ ++ ⟨(dec va).toArray⟩) ++ ⟨[32].toArray⟩ ++ ⟨(dec ca).toArray⟩ ++ ⟨[32].toArray⟩ ++ ⟨(cm zs).toArray⟩ : ByteArray) = ⟨(fo 0 va ca zs).toArray⟩ := by
  simp only [ByteArray.mk_append_mk]; rw [fo, word, if_pos rfl]
theorem fo1 (va ca : Int) (zs : List Int) : (⟨[115, 112, 101, 110, 116].toArray⟩ ++ ⟨[32].toArray⟩ ++ ⟨(dec ca).toArray⟩ ++ ⟨[32].toArray⟩ ++ ⟨(cm zs).toArray⟩ : ByteArray) = ⟨(fo 1 va ca zs).toArray⟩ := by
  simp only [ByteArray.mk_append_mk]; rw [fo, word, if_neg (by decide), if_pos rfl]
theorem fo2 (va ca : Int) (zs : List Int) : (⟨[102, 97, 117, 108, 116].toArray⟩ ++ ⟨[32].toArray⟩ ++ ⟨(dec ca).toArray⟩ ++ ⟨[32].toArray⟩ ++ ⟨(cm zs).toArray⟩ : ByteArray) = ⟨(fo 2 va ca zs).toArray⟩ := by
  simp only [ByteArray.mk_append_mk]; rw [fo, word, if_neg (by decide), if_neg (by decide)]
theorem quiet_left {P : Program} {f : FuncId} {args : Array Value} {w : World} {n : Nat} {v : Value}
    (h : Calls P f args (w.drewN n) fun e w' => e = .returned v ∧ w.drewN n = w') :
    Calls P f args (w.drewN n) fun e w'' => e = .returned v ∧ ∃ m, w'' = w.drewN m :=
  h.mono fun _ _ ⟨he, hm⟩ => ⟨he, n, hm.symm⟩
theorem Ints.drewN {lo : Nat} {w : World} {v : Value} {zs : List Int} (h : Ints lo w v zs) (n : Nat) : Ints lo (w.drewN n) v zs := h

set_option maxHeartbeats 1000000 in
theorem specFO_bad {lo : Nat} (st va ca : Int) (v : Value) (zs : List Int) (w : World) (hz : Ints lo w v zs)
    (hbad : inB 0 st 2 = false ∨ (inB 0 st 2 = true ∧ inB (-999) va 999 = false) ∨ (inB 0 st 2 = true ∧ inB (-999) va 999 = true ∧ (st != 0) = true ∧ (va != 0) = true) ∨
      (inB 0 st 2 = true ∧ inB (-999) va 999 = true ∧ ((st != 0) = false ∨ ((st != 0) = true ∧ (va != 0) = false)) ∧ (inB 0 ca 40 = false ∨ (inB 0 ca 40 = true ∧ okAll zs = false)))) :
    Calls Tryd.prog 6 #[.agg #[.int .i64 st, .int .i64 va, .int .i64 ca, v]] w fun e w' => e = .returned (.string ⟨#[]⟩) ∧ Below w.heap.size w w' := by
  have hb0 : Below w.heap.size w (w.alloc (.cells #[.int .i64 st, .int .i64 va, .int .i64 ca, v] 27)) := (Below.refl _ _).alloc (Nat.le_refl _) _
  have hz1 := hz.below hb0
  have HZ := Lib.hid hz1
  obtain ⟨a1, n1, c1, rfl, _⟩ := hz1
  have HB := Lib.hid hb0
  clear hz hb0
  rcases hbad with h | ⟨h, h'⟩ | ⟨h, h', h2, h3⟩ | ⟨h, h', h2 | ⟨h2, h3⟩, h4 | ⟨h4, h5⟩⟩
  all_goals
    go_enter Tryd.func6, Tryd.ntmps6
    go_wp2_with (first
      | (go_at_call 12; refine (inRange_any _ _ _ _).mono ?_; rintro e w' ⟨rfl, rfl⟩)
      | (go_at_call 13; refine (allInRange_any _ zs _ HZ.out).mono ?_; rintro e w' ⟨rfl, rfl⟩))
    go_ret
    exact ⟨rfl, HB.out⟩

set_option maxHeartbeats 1000000 in
theorem specFO_good {lo : Nat} (st va ca : Int) (v : Value) (zs : List Int) (w : World) (hz : Ints lo w v zs) (hlen : zs.length ≤ 1048576)
    (h : inB 0 st 2 = true) (h' : inB (-999) va 999 = true) (h2 : (st != 0) = false ∨ ((st != 0) = true ∧ (va != 0) = false)) (h4 : inB 0 ca 40 = true) (h5 : okAll zs = true) :
    Calls Tryd.prog 6 #[.agg #[.int .i64 st, .int .i64 va, .int .i64 ca, v]] w fun e w' => e = .returned (.string ⟨(fo st va ca zs).toArray⟩) ∧ Below w.heap.size w w' := by
  have hb0 : Below w.heap.size w (w.alloc (.cells #[.int .i64 st, .int .i64 va, .int .i64 ca, v] 27)) := (Below.refl _ _).alloc (Nat.le_refl _) _
  have hz1 := hz.below hb0
  have HZ := Lib.hid hz1
  obtain ⟨a1, n1, c1, rfl, _⟩ := hz1
  have HB := Lib.hid hb0
  have HO := Lib.hid h5
  obtain ⟨s0, s2⟩ := inB_of h
  obtain ⟨v0, v9⟩ := inB_of h'
  obtain ⟨c0, c40⟩ := inB_of h4
  have l1 := dec_len va (by omega) (by omega)
  have l2 := dec_len ca (by omega) (by omega)
  have l3 := cm_len zs h5
  clear hz hb0
  have hst : st = 0 ∨ st = 1 ∨ st = 2 := by omega
  rcases hst with rfl | rfl | rfl
  all_goals
    rcases h2 with h2 | ⟨h2, h3⟩
    all_goals first
      | (exfalso; revert h2; decide)
      | skip
  all_goals
    go_enter Tryd.func6, Tryd.ntmps6
    go_wp2_with (first
      | (go_at_call 12; refine (inRange_any _ _ _ _).mono ?_; rintro e w' ⟨rfl, rfl⟩)
      | (go_at_call 13; refine (allInRange_any _ zs _ HZ.out).mono ?_; rintro e w' ⟨rfl, rfl⟩)
      | (go_at_call 14; refine (decimal_any _ (by omega) (by omega) _).mono ?_; rintro e w' ⟨rfl, rfl⟩))
    go_quiet ((first
      | (go_at_call 14; exact quiet_left (decimal_any _ (by omega) (by omega) _))
      | (go_at_call 15; exact quiet_left (commas_any _ zs _ (HZ.out.drewN _) HO.out hlen))))
    go_wp2
    go_ret
    exact ⟨ret_str (by first | exact fo0 va ca zs | exact fo1 va ca zs | exact fo2 va ca zs), below_drewN HB.out _⟩
end Go.Proofs.YtnjincgemmgllaaDoor.W
