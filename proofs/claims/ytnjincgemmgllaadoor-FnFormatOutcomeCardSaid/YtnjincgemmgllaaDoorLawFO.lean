/- The walk of the law FnFormatOutcome. -/
import Derived.Test.YtnjincgemmgllaaDoorDrFO
import Derived.Test.YtnjincgemmgllaaDoorV6
namespace Go.Proofs.YtnjincgemmgllaaDoor
open Go.RowKit

theorem ints_of_rep {w : World} {zs : List Int} {a : Option Addr} {n cap : Nat} (h : Rep [] w (ints zs) (.slice a n cap)) : W.Ints 0 w (.slice a n cap) zs := by
  obtain ⟨a', cap', hv, hl, hc⟩ := ints_form h
  injection hv with h1 h2 h3
  subst h1 h2 h3
  refine ⟨a, zs.length, cap, rfl, rfl, hl, hc, fun k hk => ?_⟩
  obtain ⟨b, off, ha, _, hb, hcell⟩ := ints_at h hk
  exact ⟨b, off, ha, hb, Nat.zero_le _, hcell⟩
theorem dec_one {n : Nat} (h : n < 10) : W.dec (n : Int) = [UInt8.ofNat (48 + n)] := W.dec_small h
theorem dec_two {n : Nat} (h : ¬ n < 10) (h' : n < 100) : W.dec (n : Int) = [UInt8.ofNat (48 + n / 10), UInt8.ofNat (48 + n % 10)] := by
  rw [W.dec_big h, dec_one (by omega), dec_one (by omega)]
  rfl
theorem two_ne : ∀ n : Nat, n < 50 → ([UInt8.ofNat (48 + n / 10), UInt8.ofNat (48 + n % 10)] : List UInt8) ≠ [UInt8.ofNat (48 + (n + 1) / 10), UInt8.ofNat (48 + (n + 1) % 10)] := by decide
theorem one_ne : ∀ n : Nat, n < 9 → ([UInt8.ofNat (48 + n)] : List UInt8) ≠ [UInt8.ofNat (48 + (n + 1))] := by decide
theorem dec_ne (n : Nat) (h : n < 40) : W.dec (n : Int) ≠ W.dec ((n : Int) + 1) := by
  rw [show (n : Int) + 1 = ((n + 1 : Nat) : Int) by omega]
  by_cases h9 : n < 9
  · rw [dec_one (by omega), dec_one (by omega)]
    exact one_ne n h9
  · by_cases h10 : n < 10
    · rw [dec_one h10, dec_two (by omega) (by omega)]
      simp
    · rw [dec_two h10 (by omega), dec_two (by omega) (by omega)]
      exact two_ne n (by omega)
theorem dec_ne' {n : Int} (h0 : 0 ≤ n) (h1 : n < 40) : W.dec n ≠ W.dec (n + 1) := by
  obtain ⟨k, rfl⟩ := Int.eq_ofNat_of_zero_le h0
  exact dec_ne k (by omega)
theorem foT_law {st va ca : Int} {zs : List Int} (h : W.foT st va ca zs ≠ []) : W.foT st va (ca + 1) zs ≠ W.foT st va ca zs ∧ (W.foT st va (ca + 1) zs = [] ↔ ca = 40) := by
  unfold W.foT at h ⊢
  cases hh : W.headOk st va ca
  · simp [hh] at h
  simp only [hh, if_true] at h ⊢
  cases ho : W.okAll zs
  · simp [W.foR, ho] at h
  simp only [W.headOk, Bool.and_eq_true] at hh
  obtain ⟨⟨⟨h1, h2⟩, h3⟩, h4⟩ := hh
  obtain ⟨h5, h6⟩ := W.inB_of h4
  by_cases h40 : ca = 40
  · subst h40
    have h7 : W.headOk st va (40 + 1) = false := by simp [W.headOk, W.inB]
    rw [h7]
    exact ⟨fun e => h e.symm, by simp⟩
  · have h7 : W.headOk st va (ca + 1) = true := by
      simp only [W.headOk, Bool.and_eq_true]
      exact ⟨⟨⟨h1, h2⟩, h3⟩, W.inB_true (by omega) (by omega)⟩
    rw [h7]
    simp only [if_true, W.foR, ho, W.fo]
    refine ⟨fun e => ?_, ?_⟩
    · simp only [List.append_assoc] at e
      have e1 := List.append_cancel_left e
      have e2 := List.append_cancel_left e1
      have e3 := List.append_cancel_right e2
      exact dec_ne' h5 (by omega) e3.symm
    · simp [h40]
theorem bytes_eq {a b : List UInt8} : ((⟨a.toArray⟩ : ByteArray) = ⟨b.toArray⟩) ↔ a = b := by
  constructor
  · intro h
    injection h with h
    simpa using h
  · rintro rfl; rfl
set_option maxRecDepth 100000 in
set_option maxHeartbeats 4000000 in
theorem lawFO_any (a : Option Addr) (len cap : Nat) (w : World) (hb : BytesIn w a len) (hl : len ≤ cap) (hc : cap ≤ 9223372036854775807) (ht : W.Tab w) (h0 : 0 < w.heap.size) :
    Calls Tryd.prog 4 #[.slice a len cap] w (fun e w' => e = .returned (.bool true) ∧ Below w.heap.size w w') := by
  have HB := Lib.hid hb
  have HT := Lib.hid ht
  clear hb ht
  by_cases hbig : (1048576 : Int) < (len : Int)
  · go_enter Tryd.func4, Tryd.ntmps4
    go_wp2
    go_ret
    exact ⟨rfl, Below.refl _ _⟩
  · go_enter Tryd.func4, Tryd.ntmps4
    go_wp2_with fail
    refine (drawFO_any a len cap _ HB.out hl hc).mono ?_
    rintro e w1 ⟨st, va, ca, oa, oc, os, rfl, hk, hr, hos, c0, c1⟩
    have B1 := Lib.hid hk.below0
    have I1 := Lib.hid (ints_of_rep hr)
    have s1 := hk.size
    clear hk hr
    go_upto_region 4 with fail
    obtain ⟨W1, hW⟩ : ∃ W, W = w1.alloc (.cells #[.int .i64 st, .int .i64 va, .int .i64 ca, .slice oa os.length oc] 27) := ⟨_, rfl⟩
    rw [← hW]
    have BW := Lib.hid (show Below w.heap.size w W1 from by rw [hW]; exact B1.out.alloc (by omega) _)
    have CW := Lib.hid (show W.C4 W1 w1.heap.size (.int .i64 st) (.int .i64 va) (.int .i64 ca) (.slice oa os.length oc) from by rw [hW]; exact W.C4.new w1 _ _ _ _ _)
    have IW := Lib.hid (show W.Ints 0 W1 (.slice oa os.length oc) os from by rw [hW]; exact I1.out.below ((Below.refl _ _).alloc (Nat.le_refl _) _))
    have sW : w1.heap.size < W1.heap.size := by rw [hW]; simp
    clear hW
    obtain ⟨b1, p0, p1, p2, p3⟩ := CW.out
    go_wp2_with fail
    refine (W.implFO_any st va ca _ os _ IW.out (HT.out.below BW.out h0) (by omega) (by omega)).mono ?_
    rintro e w2 ⟨rfl, hb2⟩
    have B2 := Lib.hid (show Below w.heap.size w w2 from BW.out.trans (hb2.mono (by omega)))
    have C2 := Lib.hid (CW.out.below hb2)
    have I2 := Lib.hid (IW.out.below hb2)
    have s2 := hb2.size
    clear hb2 p0 p1 p2 p3
    obtain ⟨b2, p0, p1, p2, p3⟩ := C2.out
    have FL := Lib.hid (fun h => foT_law (st := st) (va := va) (ca := ca) (zs := os) h)
    obtain ⟨T, hT⟩ : ∃ T, T = W.foT st va ca os := ⟨_, rfl⟩
    rw [← hT]
    have HTT := Lib.hid hT
    clear hT
    by_cases hTe : T = []
    · subst hTe
      go_wp2_with fail
      refine (W.specFO_any st va ca _ os _ I2.out (by omega)).mono ?_
      rintro e w3 ⟨rfl, hb3⟩
      rw [← HTT.out]
      have B3 := Lib.hid (show Below w.heap.size w w3 from B2.out.trans (hb3.mono (by omega)))
      have C3 := Lib.hid (C2.out.below hb3)
      have I3 := Lib.hid (I2.out.below hb3)
      have s3 := hb3.size
      clear hb3 p0 p1 p2 p3
      obtain ⟨b3, p0, p1, p2, p3⟩ := C3.out
      go_wp2_with fail
      refine (W.specFO_any st va ca _ os _ I3.out (by omega)).mono ?_
      rintro e w4 ⟨rfl, hb4⟩
      rw [← HTT.out]
      have B4 := Lib.hid (show Below w.heap.size w w4 from B3.out.trans (hb4.mono (by omega)))
      clear hb4
      go_wp2
      go_ret
      exact ⟨rfl, B4.out⟩
    · have hTi : T.isEmpty = false := by cases T; exact absurd rfl hTe; rfl
      go_wp2_with fail
      refine (W.specFO_any st va ca _ os _ I2.out (by omega)).mono ?_
      rintro e w3 ⟨rfl, hb3⟩
      rw [← HTT.out]
      have B3 := Lib.hid (show Below w.heap.size w w3 from B2.out.trans (hb3.mono (by omega)))
      have C3 := Lib.hid (C2.out.below hb3)
      have I3 := Lib.hid (I2.out.below hb3)
      have s3 := hb3.size
      clear hb3 p0 p1 p2 p3
      obtain ⟨b3, p0, p1, p2, p3⟩ := C3.out
      go_wp2_with fail
      refine (W.implFO_any st va (ca + 1) _ os _ (I3.out.below ((Below.refl _ _).alloc (Nat.le_refl _) _)) (HT.out.below (B3.out.alloc (by omega) _) h0) (by omega) (by simp)).mono ?_
      rintro e w4 ⟨rfl, hb4⟩
      have B4 := Lib.hid (show Below w.heap.size w w4 from (B3.out.alloc (by omega) _).trans (hb4.mono (by simp; omega)))
      have C4 := Lib.hid ((C3.out.alloc _).below hb4)
      clear hb4 p0 p1 p2 p3
      obtain ⟨b4, p0, p1, p2, p3⟩ := C4.out
      have FF := FL.out (by rw [← HTT.out]; exact hTe)
      rw [← HTT.out] at FF
      obtain ⟨T2, hT2⟩ : ∃ T, T = W.foT st va (ca + 1) os := ⟨_, rfl⟩
      rw [← hT2] at FF ⊢
      obtain ⟨hne, hiff⟩ := FF
      have hne' : ¬ T = T2 := fun h => hne h.symm
      clear hT2
      by_cases h40 : ca = 40
      · obtain rfl := hiff.2 h40
        subst h40
        clear hiff
        go_wp2
        go_ret
        exact ⟨rfl, B4.out⟩
      · have h2i : T2.isEmpty = false := by cases T2; exact absurd (hiff.1 rfl) h40; rfl
        clear hiff
        go_wp2
        go_ret
        exact ⟨ret_bool (by simp [hne, h40]), B4.out⟩
end Go.Proofs.YtnjincgemmgllaaDoor
