/- Walks of the helpers over Outcome. -/
import Derived.Test.YtnjincgemmgllaaDoorV1
import Derived.Lib.ItoaLen
namespace Go.Proofs.YtnjincgemmgllaaDoor.W
open Go.RowKit

theorem bcell {W w1 : World} (hb : Below W.heap.size W w1) : (∀ b o, b < W.heap.size → w1.cell? ⟨b, o, none⟩ = W.cell? ⟨b, o, none⟩) ∧ (∀ b o, b < W.heap.size → w1.frozen? ⟨b, o, none⟩ = W.frozen? ⟨b, o, none⟩) :=
  ⟨fun b o h => hb.cell (p := ⟨b, o, none⟩) h, fun b o h => hb.frozen (p := ⟨b, o, none⟩) h⟩

set_option maxHeartbeats 400000 in
theorem szOutcome_any {lo : Nat} (st va ca : Int) (v : Value) (zs : List Int) (w : World) (hz : Ints lo w v zs) :
    Calls Tryd.prog 5 #[.agg #[.int .i64 st, .int .i64 va, .int .i64 ca, v], .int .i64 1048576] w fun e w' =>
      e = .returned (.int .i64 (if (1048576 : Int) - zs.length < 0 then -1 else 1048576 - zs.length)) ∧ Below w.heap.size w w' := by
  obtain ⟨a, len, cap, rfl, rfl, hc, hm, hcell⟩ := hz
  clear hcell
  by_cases h : (1048576 : Int) - zs.length < 0
  all_goals
    go_enter Tryd.func5, Tryd.ntmps5
    go_wp2_with (go_at_call 11; refine (szIntS_any _ _ _ _ _ (by omega) (by omega) (by omega)).mono ?_; rintro e w' ⟨rfl, rfl⟩)
    go_ret
    exact ⟨by simp [h], (Below.refl _ _).alloc (Nat.le_refl _) _⟩

set_option maxHeartbeats 400000 in
theorem toOutcome_any {lo : Nat} (st va ca : Int) (v : Value) (zs : List Int) (w : World) (hz : Ints lo w v zs) (hs : zs.length ≤ 1048576) :
    Calls Tryd.prog 7 #[.agg #[.int .i64 st, .int .i64 va, .int .i64 ca, v]] w fun e w' =>
      ∃ r, e = .returned (.agg #[.int .i64 st, .int .i64 va, .int .i64 ca, r]) ∧ Ints w.heap.size w' r zs ∧ Below w.heap.size w w' := by
  go_enter Tryd.func7, Tryd.ntmps7
  go_wp2_with fail
  refine (toIntS_any v zs _ (hz.below ?_) hs).mono ?_
  · repeat (first | exact Below.refl _ _ | refine Below.setCell ?_ (by simp; try omega) _ | refine Below.alloc ?_ (by simp; try omega) _)
  rintro e w1 ⟨r, rfl, hr, hb⟩
  obtain ⟨hcl, hfz⟩ := bcell hb
  have hsz := hb.size
  simp at hsz
  have HR := Lib.hid hr
  have HB := Lib.hid hb
  obtain ⟨a1, n1, c1, rfl, _⟩ := hr
  clear hb
  go_wp2
  refine bodyPost_ret (v := .agg #[.int .i64 st, .int .i64 va, .int .i64 ca, .slice a1 n1 c1]) (by simp [results, Tryd.results7, go_sem, hcl, hfz, hsz]) rfl ⟨_, rfl, ?_, ?_⟩
  · exact (((((HR.out.setCell (by simp) _).setCell (by simp) _).setCell (by simp) _).setCell (by simp) _).setCell (by simp) _).mono (by simp; omega)
  · refine Below.setCell (Below.setCell (Below.setCell (Below.setCell (Below.setCell (Below.trans ?_ (HB.out.mono (by simp; omega))) (by simp; omega) _) (by simp) _) (by simp) _) (by simp) _) (by simp) _
    repeat (first | exact Below.refl _ _ | refine Below.setCell ?_ (by simp; try omega) _ | refine Below.alloc ?_ (by simp; try omega) _)

set_option maxHeartbeats 400000 in
theorem eqOutcome_same {lo lo' : Nat} (st va ca : Int) (v u : Value) (zs : List Int) (w : World) (hz : Ints lo w v zs) (hy : Ints lo' w u zs) :
    Calls Tryd.prog 9 #[.agg #[.int .i64 st, .int .i64 va, .int .i64 ca, v], .agg #[.int .i64 st, .int .i64 va, .int .i64 ca, u]] w fun e w' =>
      e = .returned (.bool true) ∧ Below w.heap.size w w' := by
  have h1 : (st != st) = false := by simp
  have h2 : (va != va) = false := by simp
  have h3 : (ca != ca) = false := by simp
  go_enter Tryd.func9, Tryd.ntmps9
  go_wp2_with fail
  refine (eqIntS_any v u zs zs _ (hz.below ?_) (hy.below ?_)).mono ?_
  · exact ((Below.refl _ _).alloc (Nat.le_refl _) _).alloc (by simp) _
  · exact ((Below.refl _ _).alloc (Nat.le_refl _) _).alloc (by simp) _
  rintro e w1 ⟨rfl, hb⟩
  have HB := Lib.hid hb
  have hd : decide (zs = zs) = true := by simp
  clear hb
  go_wp2
  go_ret
  exact ⟨rfl, Below.trans (((Below.refl _ _).alloc (Nat.le_refl _) _).alloc (by simp) _) (HB.out.mono (by simp; omega))⟩

/-- the decimal text -/
def dec (n : Int) : List UInt8 := Lib.itoa n
theorem dec_small {n : Nat} (h : n < 10) : dec n = [UInt8.ofNat (48 + n)] := by
  unfold dec Lib.itoa; rw [if_neg (by omega)]; rw [Int.toNat_natCast, Lib.decDigits, dif_pos h]
theorem dec_big {n : Nat} (h : ¬ n < 10) : dec n = dec ((n / 10 : Nat) : Int) ++ dec ((n % 10 : Nat) : Int) := by
  rw [dec_small (n := n % 10) (by omega)]
  unfold dec Lib.itoa; rw [if_neg (by omega), if_neg (by omega)]; simp only [Int.toNat_natCast]; rw [Lib.decDigits, dif_neg h]
theorem dec_len (n : Int) (h0 : -1000000 ≤ n) (h1 : n ≤ 1000000) : (dec n).length ≤ 21 := Lib.itoa_length_le n (by omega) (by omega)
theorem dec_neg {n : Int} (h : n < 0) : dec n = 45 :: dec (-n) := by
  unfold dec Lib.itoa; rw [if_pos h, if_neg (by omega)]; congr 2; omega

theorem dig10 : ∀ n, n < 10 → ((⟨#[48, 49, 50, 51, 52, 53, 54, 55, 56, 57]⟩ : ByteArray).extract n (n + 1)) = ⟨[UInt8.ofNat (48 + n)].toArray⟩ := by decide

set_option maxHeartbeats 400000 in
theorem decimal_nat (n : Nat) (h : n ≤ 1000000) (w : World) :
    Calls Tryd.prog 14 #[.int .i64 n] w fun e w' => e = .returned (.string ⟨(dec n).toArray⟩) ∧ w = w' := by
  induction n using Nat.strongRecOn generalizing w with
  | _ n ih =>
    have IH := Lib.hid ih
    clear ih
    by_cases h10 : n < 10
    · have hs := Lib.hid (dec_small h10)
      go_enter Tryd.func14, Tryd.ntmps14
      go_wp2_with fail
      go_ret
      exact ⟨ret_str (by rw [dig10 n h10, hs.out]), rfl⟩
    · have hs := dec_big h10
      have hl1 := dec_len ((n / 10 : Nat) : Int) (by omega) (by omega)
      have hl2 := dec_len ((n % 10 : Nat) : Int) (by omega) (by omega)
      have e1 : (n : Int) / 10 = ((n / 10 : Nat) : Int) := by omega
      have e2 : (n : Int) % 10 = ((n % 10 : Nat) : Int) := by omega
      have q1 : n / 10 < n := by omega
      have r1 : n % 10 < n := by omega
      generalize n / 10 = q at *
      generalize n % 10 = r at *
      have HS := Lib.hid hs
      have E1 := Lib.hid e1
      have E2 := Lib.hid e2
      clear hs e1 e2
      go_enter Tryd.func14, Tryd.ntmps14
      go_wp2_with fail
      rw [E1.out]
      refine (IH.out q (by omega) (by omega) _).mono ?_
      rintro e w1 ⟨rfl, rfl⟩
      go_wp2_with fail
      rw [E2.out]
      refine (IH.out r (by omega) (by omega) _).mono ?_
      rintro e w1 ⟨rfl, rfl⟩
      go_wp2
      go_ret
      exact ⟨ret_str (by rw [HS.out, ← ByteArray.mk_append_mk]), rfl⟩

set_option maxHeartbeats 400000 in
theorem decimal_any (n : Int) (h0 : -1000000 ≤ n) (h1 : n ≤ 1000000) (w : World) :
    Calls Tryd.prog 14 #[.int .i64 n] w fun e w' => e = .returned (.string ⟨(dec n).toArray⟩) ∧ w = w' := by
  by_cases h : 0 ≤ n
  · obtain ⟨m, rfl⟩ := Int.eq_ofNat_of_zero_le h
    exact decimal_nat m (by omega) w
  · obtain ⟨m, hm⟩ := Int.eq_ofNat_of_zero_le (show 0 ≤ -n by omega)
    have hd := dec_neg (n := n) (by omega)
    rw [hm] at hd
    have HD := Lib.hid hd
    have hn : n = -(m : Int) := by omega
    subst hn
    have hne : ((-(m : Int)) == (m : Int)) = false := by simp; omega
    clear hd hm
    have hl1 := dec_len (m : Int) (by omega) (by omega)
    go_enter Tryd.func14, Tryd.ntmps14
    go_wp2_with fail
    refine (decimal_nat m (by omega) _).mono ?_
    rintro e w1 ⟨rfl, rfl⟩
    go_wp2
    go_ret
    exact ⟨ret_str (by rw [HD.out]; rfl), rfl⟩

def cm (zs : List Int) : List UInt8 := Lib.join (zs.map dec) [44]
theorem cm_snoc (l : List Int) (n : Int) : cm (l ++ [n]) = if l = [] then dec n else cm l ++ [44] ++ dec n := by
  cases l with
  | nil => simp [cm, Lib.join_one]
  | cons x r => simp [cm, Lib.join_cons, Lib.joinTail]

theorem cm_len (zs : List Int) (h : okAll zs = true) : (cm zs).length ≤ 22 * zs.length := by
  unfold cm
  cases zs with
  | nil => simp [Lib.join]
  | cons x r =>
    rw [List.map_cons, Lib.join_cons]
    have hx := dec_len x (by have := okAll_getElem h (k := 0) (by simp); simp at this; omega) (by have := okAll_getElem h (k := 0) (by simp); simp at this; omega)
    have ht : ∀ l : List Int, okAll l = true → (Lib.joinTail [44] (l.map dec)).length ≤ 22 * l.length := by
      intro l
      induction l with
      | nil => simp [Lib.joinTail]
      | cons y l ih =>
        intro hl
        have h2 : inB (-999) y 999 = true ∧ okAll l = true := by simpa [okAll] using hl
        have hy := dec_len y (by have := inB_of h2.1; omega) (by have := inB_of h2.1; omega)
        have := ih h2.2
        simp [Lib.joinTail] at this ⊢
        omega
    have h2 : inB (-999) x 999 = true ∧ okAll r = true := by simpa [okAll] using h
    have := ht r h2.2
    simp
    omega
theorem okAll_take {zs : List Int} (h : okAll zs = true) (k : Nat) : okAll (zs.take k) = true := by
  rw [okAll, List.all_eq_true] at h ⊢
  exact fun x hx => h x (List.mem_of_mem_take hx)
theorem cm_step {zs : List Int} {k : Nat} (hk : k < zs.length) (h0 : 0 < k) : cm (zs.take (k + 1)) = cm (zs.take k) ++ [44] ++ dec zs[k] := by
  rw [take_snoc' _ _ hk, cm_snoc, if_neg]
  intro h
  have := congrArg List.length h
  rw [List.length_take, List.length_nil] at this
  omega
theorem str3 (a b c : List UInt8) : ((⟨a.toArray⟩ ++ ⟨b.toArray⟩ ++ ⟨c.toArray⟩ : ByteArray)) = ⟨(a ++ b ++ c).toArray⟩ := by rw [ByteArray.mk_append_mk, ByteArray.mk_append_mk]
theorem str2 (a b : List UInt8) : ((⟨a.toArray⟩ ++ ⟨b.toArray⟩ : ByteArray)) = ⟨(a ++ b).toArray⟩ := by rw [ByteArray.mk_append_mk]
theorem cm_first {zs : List Int} (hk : 0 < zs.length) : cm (zs.take 1) = dec zs[0] := by
  cases zs with
  | nil => simp at hk
  | cons x r => simp [cm, Lib.join_one]

set_option maxHeartbeats 400000 in
theorem commas_any {lo : Nat} (v : Value) (zs : List Int) (w : World) (hz : Ints lo w v zs) (hok : okAll zs = true) (hlen : zs.length ≤ 1048576) :
    Calls Tryd.prog 15 #[v] w fun e w' => e = .returned (.string ⟨(cm zs).toArray⟩) ∧ w = w' := by
  obtain ⟨a, len, cap, rfl, rfl, hc, hm, hcell⟩ := hz
  have HC := Lib.hid hcell
  have HO := Lib.hid hok
  clear hcell hok
  go_enter Tryd.func15, Tryd.ntmps15
  go_wp2
  go_loop [3, 4] (fun t i => ∃ k : Nat, k ≤ zs.length ∧ i = .int .i64 k ∧ t = .string ⟨(cm (zs.take k)).toArray⟩) (fun _ i => zs.length - (intOf i).toNat)
  case atStart => exact ⟨0, Nat.zero_le _, rfl, rfl⟩
  case round =>
    obtain ⟨k, hk, rfl, rfl⟩ := hrel
    by_cases hlt : k < zs.length
    · obtain ⟨b, off, rfl, hb, _, hcl⟩ := HC.out k hlt
      have hr := okAll_getElem HO.out hlt
      obtain ⟨hr1, hr2⟩ := hr
      have hl1 := dec_len zs[k] (by omega) (by omega)
      have hl2 := cm_len (zs.take k) (okAll_take HO.out k)
      have hl3 : (zs.take k).length ≤ 1048576 := by simp; omega
      by_cases h0 : 0 < k
      · go_wp2_with (go_at_call 14; refine (decimal_any _ (by omega) (by omega) _).mono ?_; rintro e w' ⟨rfl, rfl⟩)
        go_round
        case rel => exact ⟨k + 1, by omega, by go_num, by rw [cm_step hlt h0]; exact congrArg Value.string (str3 _ [44] _)⟩
        case measure => simp [intOf]; omega
      · have hk0 : k = 0 := by omega
        subst hk0
        have hc0 : cm [] = [] := rfl
        have hcl0 : w.cell? ⟨b, off, none⟩ = some (.int .i64 zs[0]) := by simpa using hcl
        go_wp2_with (go_at_call 14; refine (decimal_any _ (by omega) (by omega) _).mono ?_; rintro e w' ⟨rfl, rfl⟩)
        go_round
        case rel => exact ⟨1, by omega, by go_num, by rw [cm_first hlt]; exact congrArg Value.string (str2 [] _)⟩
        case measure => simp [intOf]; omega
    · go_wp2
      go_ret
      exact ⟨ret_str (by rw [List.take_of_length_le (by omega)]), rfl⟩
end Go.Proofs.YtnjincgemmgllaaDoor.W
