/- Both functions FormatOutcome return one text; the law's walk. -/
import Derived.Test.YtnjincgemmgllaaDoorV5
namespace Go.Proofs.YtnjincgemmgllaaDoor.W
open Go.RowKit

def headOk (st va ca : Int) : Bool := inB 0 st 2 && inB (-999) va 999 && !(st != 0 && va != 0) && inB 0 ca 40
def foT (st va ca : Int) (zs : List Int) : List UInt8 := if headOk st va ca then foR st va ca zs else []

theorem inB_false {lo n hi : Int} (h : n < lo ∨ hi < n) : inB lo n hi = false := by
  cases hh : inB lo n hi
  · rfl
  · obtain ⟨a, b⟩ := inB_of hh; omega
theorem not_inB {lo n hi : Int} (h : inB lo n hi = false) : n < lo ∨ (lo ≤ n ∧ hi < n) := by
  have := inB_not h
  omega

theorem specFO_any {lo : Nat} (st va ca : Int) (v : Value) (zs : List Int) (w : World) (hz : Ints lo w v zs) (hlen : zs.length ≤ 1048576) :
    Calls Tryd.prog 6 #[.agg #[.int .i64 st, .int .i64 va, .int .i64 ca, v]] w fun e w' => e = .returned (.string ⟨(foT st va ca zs).toArray⟩) ∧ Below w.heap.size w w' := by
  cases h1 : inB 0 st 2
  · rw [show foT st va ca zs = [] by simp [foT, headOk, h1]]
    exact specFO_bad st va ca v zs w hz (.inl h1)
  cases h2 : inB (-999) va 999
  · rw [show foT st va ca zs = [] by simp [foT, headOk, h2]]
    exact specFO_bad st va ca v zs w hz (.inr (.inl ⟨h1, h2⟩))
  by_cases h34 : (st != 0) = true ∧ (va != 0) = true
  · rw [show foT st va ca zs = [] by unfold foT headOk; rw [h34.1, h34.2]; simp]
    exact specFO_bad st va ca v zs w hz (.inr (.inr (.inl ⟨h1, h2, h34.1, h34.2⟩)))
  have h3 : (st != 0) = false ∨ ((st != 0) = true ∧ (va != 0) = false) := by
    cases a : (st != 0) <;> cases b : (va != 0) <;> simp_all
  have h3' : (st != 0 && va != 0) = false := by rcases h3 with h | ⟨h, h'⟩ <;> simp [*]
  cases h4 : inB 0 ca 40
  · rw [show foT st va ca zs = [] by simp [foT, headOk, h4]]
    exact specFO_bad st va ca v zs w hz (.inr (.inr (.inr ⟨h1, h2, h3, .inl h4⟩)))
  have hh : headOk st va ca = true := by unfold headOk; rw [h1, h2, h3', h4]; rfl
  cases h5 : okAll zs
  · rw [show foT st va ca zs = [] by simp [foT, foR_no h5]]
    exact specFO_bad st va ca v zs w hz (.inr (.inr (.inr ⟨h1, h2, h3, .inr ⟨h4, h5⟩⟩)))
  · rw [show foT st va ca zs = fo st va ca zs by simp [foT, hh, foR_yes h5]]
    exact specFO_good st va ca v zs w hz hlen h1 h2 h3 h4 h5

theorem implFO_any {lo : Nat} (st va ca : Int) (v : Value) (zs : List Int) (w : World) (hz : Ints lo w v zs) (ht : Tab w) (hlen : zs.length ≤ 1048576) (h0 : 0 < w.heap.size) :
    Calls Tryd.prog 8 #[.agg #[.int .i64 st, .int .i64 va, .int .i64 ca, v]] w fun e w' => e = .returned (.string ⟨(foT st va ca zs).toArray⟩) ∧ Below w.heap.size w w' := by
  cases h1 : inB 0 st 2
  · rw [show foT st va ca zs = [] by simp [foT, headOk, h1]]
    exact implFO_bad st va ca v zs w hz ((not_inB h1).imp id (fun h => .inl h))
  obtain ⟨a1, a2⟩ := inB_of h1
  cases h2 : inB (-999) va 999
  · rw [show foT st va ca zs = [] by simp [foT, headOk, h2]]
    exact implFO_bad st va ca v zs w hz (.inr (.inr ⟨⟨a1, a2⟩, .inl h2⟩))
  by_cases h34 : (va != 0) = true ∧ (st != 0) = true
  · rw [show foT st va ca zs = [] by unfold foT headOk; rw [h34.1, h34.2]; simp]
    exact implFO_bad st va ca v zs w hz (.inr (.inr ⟨⟨a1, a2⟩, .inr ⟨h2, .inl h34⟩⟩))
  have h3 : (va != 0) = false ∨ ((va != 0) = true ∧ (st != 0) = false) := by
    cases a : (st != 0) <;> cases b : (va != 0) <;> simp_all
  have h3' : (st != 0 && va != 0) = false := by rcases h3 with h | ⟨h, h'⟩ <;> simp [*]
  cases h4 : inB 0 ca 40
  · rw [show foT st va ca zs = [] by simp [foT, headOk, h4]]
    exact implFO_bad st va ca v zs w hz (.inr (.inr ⟨⟨a1, a2⟩, .inr ⟨h2, .inr ⟨h3, not_inB h4⟩⟩⟩))
  have hh : headOk st va ca = true := by unfold headOk; rw [h1, h2, h3', h4]; rfl
  rw [show foT st va ca zs = foR st va ca zs by simp [foT, hh]]
  exact implFO_head st va ca v zs w hz ht hlen h0 h1 h2 h3 h4

theorem Ints.form {lo : Nat} {w : World} {v : Value} {zs : List Int} (h : Ints lo w v zs) : ∃ a n c, v = .slice a n c := by
  obtain ⟨a, n, c, rfl, _⟩ := h
  exact ⟨a, n, c, rfl⟩
def C4 (w : World) (b : Nat) (x0 x1 x2 x3 : Value) : Prop :=
  b < w.heap.size ∧ w.cell? ⟨b, 0, none⟩ = some x0 ∧ w.cell? ⟨b, 1, none⟩ = some x1 ∧ w.cell? ⟨b, 2, none⟩ = some x2 ∧ w.cell? ⟨b, 3, none⟩ = some x3
theorem C4.below {w w' : World} {b : Nat} {x0 x1 x2 x3 : Value} (h : C4 w b x0 x1 x2 x3) (hb : Below w.heap.size w w') : C4 w' b x0 x1 x2 x3 :=
  ⟨Nat.lt_of_lt_of_le h.1 hb.size, (hb.cell (p := ⟨b, 0, none⟩) h.1).trans h.2.1, (hb.cell (p := ⟨b, 1, none⟩) h.1).trans h.2.2.1, (hb.cell (p := ⟨b, 2, none⟩) h.1).trans h.2.2.2.1, (hb.cell (p := ⟨b, 3, none⟩) h.1).trans h.2.2.2.2⟩
theorem C4.alloc {w : World} {b : Nat} {x0 x1 x2 x3 : Value} (h : C4 w b x0 x1 x2 x3) (o : Obj) : C4 (w.alloc o) b x0 x1 x2 x3 :=
  h.below ((Below.refl _ _).alloc (Nat.le_refl _) _)
theorem C4.drewN {w : World} {b : Nat} {x0 x1 x2 x3 : Value} (h : C4 w b x0 x1 x2 x3) (n : Nat) : C4 (w.drewN n) b x0 x1 x2 x3 := h
theorem C4.drew {w : World} {b : Nat} {x0 x1 x2 x3 : Value} (h : C4 w b x0 x1 x2 x3) : C4 w.drew b x0 x1 x2 x3 := h
theorem Ints.drew {lo : Nat} {w : World} {v : Value} {zs : List Int} (h : Ints lo w v zs) : Ints lo w.drew v zs := h
theorem C4.new (w : World) (x0 x1 x2 x3 : Value) (t : TypeId) : C4 (w.alloc (.cells #[x0, x1, x2, x3] t)) w.heap.size x0 x1 x2 x3 := by
  refine ⟨by simp, ?_, ?_, ?_, ?_⟩ <;> go_simp

set_option maxHeartbeats 1000000 in
theorem law_any {lo : Nat} (st va ca : Int) (v : Value) (zs : List Int) (w : World) (hz : Ints lo w v zs) (ht : Tab w) (h0 : 0 < w.heap.size) :
    Calls Tryd.prog 3 #[.agg #[.int .i64 st, .int .i64 va, .int .i64 ca, v]] w fun e w' => e = .returned (.bool true) ∧ Below w.heap.size w w' := by
  have HZ := Lib.hid hz
  have HT := Lib.hid ht
  obtain ⟨a1, n1, c1, rfl⟩ := hz.form
  clear ht hz
  by_cases hbig : (1048576 : Int) - zs.length < 0
  · have hsz : (if (1048576 : Int) - zs.length < 0 then (-1 : Int) else 1048576 - zs.length) = -1 := if_pos hbig
    have HS := Lib.hid hsz
    clear hsz hbig
    go_enter Tryd.func3, Tryd.ntmps3
    go_wp2_with (go_at_call 5; refine (szOutcome_any st va ca _ zs _ (HZ.out.below ((Below.refl _ _).alloc (Nat.le_refl _) _))).mono ?_; rintro e w1 ⟨rfl, hb⟩; rw [HS.out]; have HB := Lib.hid hb; clear hb)
    go_ret
    exact ⟨rfl, ((Below.refl _ _).alloc (Nat.le_refl _) _).trans (HB.out.mono (by simp))⟩
  · have hsz : (if (1048576 : Int) - zs.length < 0 then (-1 : Int) else 1048576 - zs.length) = 1048576 - zs.length := if_neg hbig
    have HS := Lib.hid hsz
    have hlen : zs.length ≤ 1048576 := by omega
    clear hsz
    go_enter Tryd.func3, Tryd.ntmps3
    go_wp2_with fail
    refine (szOutcome_any st va ca _ zs _ (HZ.out.below ((Below.refl _ _).alloc (Nat.le_refl _) _))).mono ?_
    rintro e w1 ⟨rfl, hb1⟩
    rw [HS.out]
    have C1 := Lib.hid ((C4.new w _ _ _ _ 24).below hb1)
    obtain ⟨b1, p0, p1, p2, p3⟩ := C1.out
    have HB1 : Hid (Below w.heap.size w w1) := Lib.hid (((Below.refl _ _).alloc (Nat.le_refl _) _).trans (hb1.mono (by simp)))
    clear hb1
    go_wp2_with fail
    refine (toOutcome_any st va ca _ zs _ (HZ.out.below HB1.out) hlen).mono ?_
    rintro e w2 ⟨r2, rfl, hr2, hb2⟩
    clear p0 p1 p2 p3
    have C2 := Lib.hid (C1.out.below hb2)
    obtain ⟨b2, p0, p1, p2, p3⟩ := C2.out
    have HR2 := Lib.hid hr2
    have HB2 : Hid (Below w.heap.size w w2) := Lib.hid (HB1.out.trans (hb2.mono (by omega)))
    obtain ⟨a2, n2, c2, rfl⟩ := hr2.form
    clear hb2 hr2
    go_wp2_with fail
    refine (specFO_any st va ca _ zs _ HR2.out hlen).mono ?_
    rintro e w3 ⟨rfl, hb3⟩
    clear p0 p1 p2 p3
    have C3 := Lib.hid (C2.out.below hb3)
    obtain ⟨b3, p0, p1, p2, p3⟩ := C3.out
    have HB3 : Hid (Below w.heap.size w w3) := Lib.hid (HB2.out.trans (hb3.mono (by omega)))
    clear hb3
    go_wp2_with fail
    refine (toOutcome_any st va ca _ zs _ (HZ.out.below HB3.out) hlen).mono ?_
    rintro e w4 ⟨r4, rfl, hr4, hb4⟩
    clear p0 p1 p2 p3
    have C40 := Lib.hid (C3.out.below hb4)
    obtain ⟨b4, p0, p1, p2, p3⟩ := C40.out
    have HB4 : Hid (Below w.heap.size w w4) := Lib.hid (HB3.out.trans (hb4.mono (by omega)))
    have HR4 := Lib.hid hr4
    obtain ⟨a4, n4, c4, rfl⟩ := hr4.form
    clear hb4 hr4
    go_wp2_with fail
    have HB5 : Hid (Below w.heap.size w (w4.alloc (.cells #[.int .i64 st, .int .i64 va, .int .i64 ca, .slice a4 n4 c4] 27))) := Lib.hid (HB4.out.alloc (by omega) _)
    refine (implFO_any st va ca _ zs _ (HR4.out.below ((Below.refl _ _).alloc (Nat.le_refl _) _)) (HT.out.below HB5.out h0) hlen (by simp)).mono ?_
    rintro e w6 ⟨rfl, hb6⟩
    clear p0 p1 p2 p3
    have C6 := Lib.hid ((C40.out.alloc _).below hb6)
    have D6 := Lib.hid ((C4.new w4 _ _ _ _ 27).below hb6)
    obtain ⟨b6, p0, p1, p2, p3⟩ := C6.out
    obtain ⟨d6, q0, q1, q2, q3⟩ := D6.out
    have HR6 := Lib.hid ((HR4.out.below ((Below.refl _ _).alloc (Nat.le_refl _) _)).below hb6)
    have HB6 : Hid (Below w.heap.size w w6) := Lib.hid (HB5.out.trans (hb6.mono (by simp; omega)))
    clear hb6
    go_wp2_with fail
    go_region_with (first
      | (go_at_call 7
         refine (toOutcome_any st va ca _ zs _ (HZ.out.below HB6.out.drew) hlen).mono ?_
         rintro e w7 ⟨r7, rfl, hr7, hb7⟩
         have D7 := Lib.hid (D6.out.drew.below hb7)
         obtain ⟨d7, s0, s1, s2, s3⟩ := D7.out
         have HR7 := Lib.hid hr7
         have HX7 := Lib.hid (HR6.out.drew.below hb7)
         have HB7 : Hid (Below w.heap.size w w7) := Lib.hid (HB6.out.drew.trans (hb7.mono (by show _ ≤ w6.heap.size; omega)))
         obtain ⟨a7, n7, c7, rfl⟩ := hr7.form
         clear hr7 hb7)
      | (go_at_call 9
         refine (eqOutcome_same st va ca _ _ zs _ HX7.out HR7.out).mono ?_
         rintro e w8 ⟨rfl, hb8⟩
         have HB8 : Hid (Below w.heap.size w w8) := Lib.hid (HB7.out.trans (hb8.mono (by omega)))
         clear hb8))
    all_goals
      go_wp2
      go_ret
      exact ⟨rfl, HB8.out⟩
end Go.Proofs.YtnjincgemmgllaaDoor.W
