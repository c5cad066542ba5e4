/- The walk of the program's FormatOutcome, where the head is in range. -/
import Derived.Test.YtnjincgemmgllaaDoorV4
import Derived.Lib.AppendIntMem
import Derived.Lib.QuietBelow
namespace Go.Proofs.YtnjincgemmgllaaDoor.W
open Go.RowKit

theorem gTab : Tryd.prog.globalNamed "internal/strconv.uint64pow10" = some 0 := by kernel_rfl
theorem Tab.below {B : Nat} {w w' : World} (h : Tab w) (hb : Below B w w') (hB : 0 < B) : Tab w' := var?_below hb gTab hB h
theorem info9 : (Tryd.prog.info? 9).map (fun i => (i.zero, i.size, i.bytes)) = some (some (.string ⟨#[]⟩), 1, 16) := by kernel_rfl
theorem itoa_any (n : Int) (h0 : -1000000 ≤ n) (h1 : n ≤ 1000000) (w : World) (ht : Tab w) :
    Calls Tryd.prog 18 #[.int .i64 n] w fun e w' => e = .returned (.string ⟨(dec n).toArray⟩) ∧ Below w.heap.size w w' :=
  (Tryd.strconv_Itoa n (by omega) (by omega) w ht).mono fun _ _ ⟨he, k, os, hw⟩ => ⟨he, by subst hw; exact Lib.below_grow _ _ (Nat.le_refl _) _ _⟩

theorem own_below {w w' : World} {base : Nat} {e : TypeId} {size n : Nat} {v : Value} {xs : List Value} (h : w.ownsRow base e size v n xs) (hb : Below w.heap.size w w') : w'.ownsRow base e size v n xs :=
  h.kept (row := none) ⟨hb.os, hb.tape, hb.output, hb.size, fun k hk _ => hb.block k hk⟩ (by cases hv : v.ownBlock <;> simp)
theorem Ints.cellAt {lo : Nat} {w : World} {a : Option Addr} {n c : Nat} {zs : List Int} (h : Ints lo w (.slice a n c) zs) {k : Nat} (hk : k < zs.length) :
    ∃ b off, a = some ⟨b, off, none⟩ ∧ b < w.heap.size ∧ w.cell? ⟨b, off + k, none⟩ = some (.int .i64 zs[k]) := by
  obtain ⟨a', n', c', hv, _, _, _, hc⟩ := h
  injection hv with h1 h2 h3
  obtain ⟨b, off, ha, hb, _, hcl⟩ := hc k hk
  exact ⟨b, off, h1.trans ha, hb, hcl⟩
theorem fo0' (va ca : Int) (zs : List Int) : ((⟨[100, 111, 110, 101].toArray⟩ ++ (⟨[32].toArray⟩ ++ ⟨(dec va).toArray⟩)) ++ ⟨[32].toArray⟩ ++ ⟨(dec ca).toArray⟩ ++ ⟨[32].toArray⟩ ++ ⟨(cm zs).toArray⟩ : ByteArray) = ⟨(fo 0 va ca zs).toArray⟩ := by
  simp only [ByteArray.mk_append_mk]; rw [fo, word, if_pos rfl]; rfl
def foR (st va ca : Int) (zs : List Int) : List UInt8 := if okAll zs then fo st va ca zs else []
theorem foR_no {st va ca : Int} {zs : List Int} (h : okAll zs = false) : foR st va ca zs = [] := by simp [foR, h]
theorem foR_yes {st va ca : Int} {zs : List Int} (h : okAll zs = true) : foR st va ca zs = fo st va ca zs := by simp [foR, h]
def texts (zs : List Int) : List Value := zs.map fun z => .string ⟨(dec z).toArray⟩
theorem texts_snoc (l : List Int) (z : Int) : texts (l ++ [z]) = texts l ++ [.string ⟨(dec z).toArray⟩] := by simp [texts]

theorem join_any (t : Value) (zs : List Int) (base : Nat) (w : World) (hown : w.ownsRow base 9 1 t zs.length (texts zs)) (hok : okAll zs = true) (hlen : zs.length ≤ 1048576) :
    Calls Tryd.prog 19 #[t, .string ⟨#[44]⟩] w fun e w' => e = .returned (.string ⟨(cm zs).toArray⟩) ∧ Below w.heap.size w w' := by
  by_cases h0 : zs = []
  · subst h0
    rcases hown.2 with ⟨rfl, _⟩ | ⟨g, cap, cur, rfl, _⟩
    · exact (Tryd.strings_Join_none _ _ _ _).mono fun _ _ ⟨he, hw⟩ => ⟨he, by subst hw; exact Below.refl _ _⟩
    · exact (Tryd.strings_Join_none _ _ _ _).mono fun _ _ ⟨he, hw⟩ => ⟨he, by subst hw; exact Below.refl _ _⟩
  · have hp : 0 < zs.length := List.length_pos_iff.2 h0
    obtain ⟨g, cap, rfl, hcap, hlt⟩ : ∃ g cap, t = .slice (some ⟨g, 0, none⟩) zs.length cap ∧ zs.length ≤ cap ∧ g < w.heap.size := by
      rcases hown.2 with ⟨_, h⟩ | ⟨g, cap, cur, hv, _, hg, hc, _⟩
      · omega
      · exact ⟨g, cap, hv, hc, (Array.getElem?_eq_some_iff.1 hg).1⟩
    have hl := cm_len zs hok
    have hj : Lib.join ((zs.map fun z => (⟨(dec z).toArray⟩ : ByteArray)).map (·.data.toList)) (⟨#[44]⟩ : ByteArray).data.toList = cm zs := by
      simp [cm, List.map_map, Function.comp_def]
    have := Tryd.strings_Join g 0 cap (zs.map fun z => (⟨(dec z).toArray⟩ : ByteArray)) ⟨#[44]⟩ w (fun j x hx => by
      have hx' : (texts zs)[j]? = some (.string x) := by
        simp only [texts, List.getElem?_map] at hx ⊢
        cases hz : zs[j]? with
        | none => rw [hz] at hx; simp at hx
        | some z => rw [hz] at hx; simp at hx; simp [hx]
      have h1 := hown.cells (g := g) rfl j _ hx'
      rw [Addr.add_lit] at h1
      exact h1) hlt (by simp; omega) (by simpa using hcap) (by rw [hj]; omega)
    rw [hj] at this
    simpa using this

set_option maxRecDepth 100000 in
set_option maxHeartbeats 1000000 in
theorem implFO_head {lo : Nat} (st va ca : Int) (v : Value) (zs : List Int) (w : World) (hz : Ints lo w v zs) (ht : Tab w) (hlen : zs.length ≤ 1048576) (h0 : 0 < w.heap.size)
    (h : inB 0 st 2 = true) (h' : inB (-999) va 999 = true) (h2 : (va != 0) = false ∨ ((va != 0) = true ∧ (st != 0) = false)) (h4 : inB 0 ca 40 = true) :
    Calls Tryd.prog 8 #[.agg #[.int .i64 st, .int .i64 va, .int .i64 ca, v]] w fun e w' =>
      e = .returned (.string ⟨(foR st va ca zs).toArray⟩) ∧ Below w.heap.size w w' := by
  obtain ⟨s0, s2⟩ := inB_of h
  obtain ⟨v0, v9⟩ := inB_of h'
  obtain ⟨c0, c40⟩ := inB_of h4
  have l1 := dec_len va (by omega) (by omega)
  have l2 := dec_len ca (by omega) (by omega)
  have HZ := Lib.hid hz
  obtain ⟨a1, n1, c1, rfl, rfl, hc, hm, hcell⟩ := hz
  have HT := Lib.hid ht
  clear ht hcell
  have hst : st = 0 ∨ st = 1 ∨ st = 2 := by omega
  rcases hst with rfl | rfl | rfl
  all_goals
    rcases h2 with h2 | ⟨h2, h3⟩
    all_goals first
      | (exfalso; revert h3; decide)
      | skip
  · go_enter Tryd.func8, Tryd.ntmps8
    go_wp2_with (first
      | (go_at_call 17; refine (isInt_any _ _).mono ?_; rintro e w' ⟨rfl, rfl⟩))
    refine (itoa_any va (by omega) (by omega) _ (HT.out.below (B := w.heap.size) ?_ h0)).mono ?_
    · repeat (first | exact Below.refl _ _ | refine Below.alloc ?_ (by simp; try omega) _)
    rintro e w1 ⟨rfl, hb1⟩
    have hs1 := hb1.size
    simp at hs1
    have j2 : w1.cell? ⟨w.heap.size, 2, none⟩ = some (.int .i64 ca) := (hb1.cell (p := ⟨w.heap.size, 2, none⟩) (by simp <;> omega)).trans (by go_simp)
    have j3 : w1.cell? ⟨w.heap.size, 3, none⟩ = some (.slice a1 zs.length c1) := (hb1.cell (p := ⟨w.heap.size, 3, none⟩) (by simp <;> omega)).trans (by go_simp)
    have HB : Hid (Below w.heap.size w w1) := Lib.hid (Below.trans (((Below.refl _ _).alloc (Nat.le_refl _) _).alloc (by simp) _) (hb1.mono (by simp; omega)))
    clear hb1
    obtain ⟨i0, hi0, hz0, hz1, hz2⟩ := info_parts info9
    go_wp2_with (first
      | (go_at_call 17; refine (isInt_any _ _).mono ?_; rintro e w' ⟨rfl, rfl⟩)
      | (at_make
         refine wpList_make_own _ rfl _ _ 42 rfl (w.heap.size + 1) 9 i0 (.string ⟨#[]⟩) 1 Tryd.underlying42 hi0 hz0 hz1 .i64 .i64 _ zs.length rfl rfl rfl (by rw [hz2]; omega) (by simp only [maxLen]; omega) (by first | omega | (simp; done) | (simp; omega)) ?_
         intro w2 hown hg2
         have k2 : w2.cell? ⟨w.heap.size, 2, none⟩ = some (.int .i64 ca) := hg2.cell (a := ⟨w.heap.size, 2, none⟩) (j2) (by simp)
         have k3 : w2.cell? ⟨w.heap.size, 3, none⟩ = some (.slice a1 zs.length c1) := hg2.cell (a := ⟨w.heap.size, 3, none⟩) (j3) (by simp)
         have HB2 : Hid (Below w.heap.size w w2) := Lib.hid (Below.grown (HB.out) hg2 (by first | omega | (simp; done) | (simp; omega)) (by simp))
         have hs2 : w.heap.size + 1 ≤ w2.heap.size := Nat.le_trans (by first | omega | (simp; done) | (simp; omega)) hg2.size
         have HOW := Lib.hid hown
         clear hg2 hown j2 j3))
    go_loopw [5, 63] (fun t i wr => ∃ k : Nat, k ≤ zs.length ∧ i = .int .i64 k ∧ okAll (zs.take k) = true ∧ wr.ownsRow (w.heap.size + 1) 9 1 t k (texts (zs.take k)) ∧ Below w.heap.size w wr ∧
        wr.cell? ⟨w.heap.size, 2, none⟩ = some (.int .i64 ca) ∧ w.heap.size + 1 ≤ wr.heap.size) (fun _ i _ => zs.length - (intOf i).toNat)
    case atStart => exact ⟨0, Nat.zero_le _, rfl, by simp [okAll], by simpa [texts] using HOW.out, HB2.out, k2, hs2⟩
    case round =>
      obtain ⟨k, hk, rfl, hall, hown, hbl, kk2, hszr⟩ := hrel
      have HA := Lib.hid hall
      have HW := Lib.hid hown
      have HL := Lib.hid hbl
      clear hall hown hbl
      by_cases hlt : k < zs.length
      · obtain ⟨b, off, rfl, hb, hcl⟩ := HZ.out.cellAt hlt
        have hcw : wr.cell? ⟨b, off + k, none⟩ = some (.int .i64 zs[k]) := (HL.out.cell (p := ⟨b, off + k, none⟩) hb).trans hcl
        clear hcl
        cases hin : inB (-999) zs[k] 999
        · have hno := Lib.hid (okAll_false hlt hin)
          go_wp2_with (first | (go_at_call 17; refine (isInt_any _ _).mono ?_; rintro e w' ⟨rfl, rfl⟩))
          go_ret
          exact ⟨ret_str (by rw [foR_no hno.out]), HL.out⟩
        · obtain ⟨z0, z9⟩ := inB_of hin
          go_wp2_with (first
            | (go_at_call 17; refine (isInt_any _ _).mono ?_; rintro e w' ⟨rfl, rfl⟩)
            | (go_at_call 18
               refine (itoa_any _ (by omega) (by omega) _ (HT.out.below HL.out h0)).mono ?_
               rintro e w3 ⟨rfl, hb3⟩
               have HB3 := Lib.hid hb3
               have hs3 := hb3.size
               have kk3 : w3.cell? ⟨w.heap.size, 2, none⟩ = some (.int .i64 ca) := (hb3.cell (p := ⟨w.heap.size, 2, none⟩) (by show w.heap.size < _; omega)).trans kk2
               have hown3 := Lib.hid (own_below HW.out hb3)
               clear hb3 kk2)
            | (at_builtin
               refine wpList_append_own _ rfl _ _ 42 rfl (w.heap.size + 1) 9 i0 (.string ⟨#[]⟩) 1 16 Tryd.underlying42 hi0 hz0 hz1 hz2 rfl (by decide) u5 k (texts (zs.take k)) rfl (hown3.out.alloc _) ⟨w3.heap.size, 0, none⟩ 1 1 [.string ⟨(dec zs[k]).toArray⟩] rfl rfl ?_ ?_ ?_ ?_ ?_ ?_
               · exact fun j u hu => by
                   cases j with
                   | zero => simp at hu; subst hu; rw [Addr.add_lit]; go_simp
                   | succ j => simp at hu
               · simp [Value.oneCell']
               · simp only [maxLen]; omega
               · omega
               · simp; omega
               intro v4 w4 hown4 hg4 _
               have hz4 : w4.ownsRow (w.heap.size + 1) 9 1 v4 (k + 1) (texts (zs.take (k + 1))) := by rw [take_snoc' _ _ hlt, texts_snoc]; exact hown4
               have HW4 := Lib.hid hz4
               have kk4 : w4.cell? ⟨w.heap.size, 2, none⟩ = some (.int .i64 ca) := hg4.cell (a := ⟨w.heap.size, 2, none⟩) ((World.cell?_alloc_lt w3 _ ⟨w.heap.size, 2, none⟩ (by show w.heap.size < _; omega)).trans kk3) (fun e => by
                 have := (hown3.out.lt _ e.symm).1
                 simp at this
                 omega)
               have HB4 : Hid (Below w.heap.size w w4) := Lib.hid (((HL.out.trans (HB3.out.mono (by omega))).alloc (by omega) _).grown hg4 (by simp; omega) (fun g hg => by have := (hown3.out.lt g hg).1; omega))
               have hs4 : w.heap.size + 1 ≤ w4.heap.size := Nat.le_trans (by simp; omega) hg4.size
               clear hown4 hg4 hz4))
          go_roundw
          case rel => exact ⟨k + 1, by omega, by go_num, by rw [take_snoc' _ _ hlt, okAll_snoc, HA.out, hin]; rfl, HW4.out, HB4.out, kk4, hs4⟩
          case measure => simp [intOf]; omega
      · have hkk : k = zs.length := by omega
        subst hkk
        have hok : okAll zs = true := by have := HA.out; rwa [List.take_of_length_le (by omega)] at this
        have hw5 : wr.ownsRow (w.heap.size + 1) 9 1 u5 zs.length (texts zs) := by have := HW.out; rwa [List.take_of_length_le (by omega)] at this
        have HO := Lib.hid hok
        have HW5 := Lib.hid hw5
        have l3 := cm_len zs hok
        clear hok hw5 HA HW
        go_wp2_with (first
          | (go_at_call 18
             refine (itoa_any _ (by omega) (by omega) _ (HT.out.below HL.out h0)).mono ?_
             rintro e w3 ⟨rfl, hb3⟩
             have HB3 := Lib.hid hb3
             have hs3 := hb3.size
             have hown3 := Lib.hid (own_below HW5.out hb3)
             clear hb3 kk2)
          | (go_at_call 19
             refine (join_any _ zs (w.heap.size + 1) _ hown3.out HO.out (by omega)).mono ?_
             rintro e w5 ⟨rfl, hb5⟩
             have HB5 := Lib.hid hb5
             clear hb5))
        go_ret
        refine ⟨ret_str ?_, ((HL.out.trans (HB3.out.mono (by omega))).trans (HB5.out.mono (by omega)))⟩
        rw [foR_yes HO.out]
        exact fo0' va ca zs
  · go_enter Tryd.func8, Tryd.ntmps8
    go_wp2_with (first
      | (go_at_call 17; refine (isInt_any _ _).mono ?_; rintro e w' ⟨rfl, rfl⟩))
    refine (itoa_any va (by omega) (by omega) _ (HT.out.below (B := w.heap.size) ?_ h0)).mono ?_
    · repeat (first | exact Below.refl _ _ | refine Below.alloc ?_ (by simp; try omega) _)
    rintro e w1 ⟨rfl, hb1⟩
    have hs1 := hb1.size
    simp at hs1
    have j2 : w1.cell? ⟨w.heap.size, 2, none⟩ = some (.int .i64 ca) := (hb1.cell (p := ⟨w.heap.size, 2, none⟩) (by simp <;> omega)).trans (by go_simp)
    have j3 : w1.cell? ⟨w.heap.size, 3, none⟩ = some (.slice a1 zs.length c1) := (hb1.cell (p := ⟨w.heap.size, 3, none⟩) (by simp <;> omega)).trans (by go_simp)
    have HB : Hid (Below w.heap.size w w1) := Lib.hid (Below.trans (((Below.refl _ _).alloc (Nat.le_refl _) _).alloc (by simp) _) (hb1.mono (by simp; omega)))
    clear hb1
    obtain ⟨i0, hi0, hz0, hz1, hz2⟩ := info_parts info9
    go_wp2_with (first
      | (go_at_call 17; refine (isInt_any _ _).mono ?_; rintro e w' ⟨rfl, rfl⟩)
      | (at_make
         refine wpList_make_own _ rfl _ _ 42 rfl (w.heap.size + 1) 9 i0 (.string ⟨#[]⟩) 1 Tryd.underlying42 hi0 hz0 hz1 .i64 .i64 _ zs.length rfl rfl rfl (by rw [hz2]; omega) (by simp only [maxLen]; omega) (by first | omega | (simp; done) | (simp; omega)) ?_
         intro w2 hown hg2
         have k2 : w2.cell? ⟨w.heap.size, 2, none⟩ = some (.int .i64 ca) := hg2.cell (a := ⟨w.heap.size, 2, none⟩) (j2) (by simp)
         have k3 : w2.cell? ⟨w.heap.size, 3, none⟩ = some (.slice a1 zs.length c1) := hg2.cell (a := ⟨w.heap.size, 3, none⟩) (j3) (by simp)
         have HB2 : Hid (Below w.heap.size w w2) := Lib.hid (Below.grown (HB.out) hg2 (by first | omega | (simp; done) | (simp; omega)) (by simp))
         have hs2 : w.heap.size + 1 ≤ w2.heap.size := Nat.le_trans (by first | omega | (simp; done) | (simp; omega)) hg2.size
         have HOW := Lib.hid hown
         clear hg2 hown j2 j3))
    go_loopw [5, 63] (fun t i wr => ∃ k : Nat, k ≤ zs.length ∧ i = .int .i64 k ∧ okAll (zs.take k) = true ∧ wr.ownsRow (w.heap.size + 1) 9 1 t k (texts (zs.take k)) ∧ Below w.heap.size w wr ∧
        wr.cell? ⟨w.heap.size, 2, none⟩ = some (.int .i64 ca) ∧ w.heap.size + 1 ≤ wr.heap.size) (fun _ i _ => zs.length - (intOf i).toNat)
    case atStart => exact ⟨0, Nat.zero_le _, rfl, by simp [okAll], by simpa [texts] using HOW.out, HB2.out, k2, hs2⟩
    case round =>
      obtain ⟨k, hk, rfl, hall, hown, hbl, kk2, hszr⟩ := hrel
      have HA := Lib.hid hall
      have HW := Lib.hid hown
      have HL := Lib.hid hbl
      clear hall hown hbl
      by_cases hlt : k < zs.length
      · obtain ⟨b, off, rfl, hb, hcl⟩ := HZ.out.cellAt hlt
        have hcw : wr.cell? ⟨b, off + k, none⟩ = some (.int .i64 zs[k]) := (HL.out.cell (p := ⟨b, off + k, none⟩) hb).trans hcl
        clear hcl
        cases hin : inB (-999) zs[k] 999
        · have hno := Lib.hid (okAll_false hlt hin)
          go_wp2_with (first | (go_at_call 17; refine (isInt_any _ _).mono ?_; rintro e w' ⟨rfl, rfl⟩))
          go_ret
          exact ⟨ret_str (by rw [foR_no hno.out]), HL.out⟩
        · obtain ⟨z0, z9⟩ := inB_of hin
          go_wp2_with (first
            | (go_at_call 17; refine (isInt_any _ _).mono ?_; rintro e w' ⟨rfl, rfl⟩)
            | (go_at_call 18
               refine (itoa_any _ (by omega) (by omega) _ (HT.out.below HL.out h0)).mono ?_
               rintro e w3 ⟨rfl, hb3⟩
               have HB3 := Lib.hid hb3
               have hs3 := hb3.size
               have kk3 : w3.cell? ⟨w.heap.size, 2, none⟩ = some (.int .i64 ca) := (hb3.cell (p := ⟨w.heap.size, 2, none⟩) (by show w.heap.size < _; omega)).trans kk2
               have hown3 := Lib.hid (own_below HW.out hb3)
               clear hb3 kk2)
            | (at_builtin
               refine wpList_append_own _ rfl _ _ 42 rfl (w.heap.size + 1) 9 i0 (.string ⟨#[]⟩) 1 16 Tryd.underlying42 hi0 hz0 hz1 hz2 rfl (by decide) u5 k (texts (zs.take k)) rfl (hown3.out.alloc _) ⟨w3.heap.size, 0, none⟩ 1 1 [.string ⟨(dec zs[k]).toArray⟩] rfl rfl ?_ ?_ ?_ ?_ ?_ ?_
               · exact fun j u hu => by
                   cases j with
                   | zero => simp at hu; subst hu; rw [Addr.add_lit]; go_simp
                   | succ j => simp at hu
               · simp [Value.oneCell']
               · simp only [maxLen]; omega
               · omega
               · simp; omega
               intro v4 w4 hown4 hg4 _
               have hz4 : w4.ownsRow (w.heap.size + 1) 9 1 v4 (k + 1) (texts (zs.take (k + 1))) := by rw [take_snoc' _ _ hlt, texts_snoc]; exact hown4
               have HW4 := Lib.hid hz4
               have kk4 : w4.cell? ⟨w.heap.size, 2, none⟩ = some (.int .i64 ca) := hg4.cell (a := ⟨w.heap.size, 2, none⟩) ((World.cell?_alloc_lt w3 _ ⟨w.heap.size, 2, none⟩ (by show w.heap.size < _; omega)).trans kk3) (fun e => by
                 have := (hown3.out.lt _ e.symm).1
                 simp at this
                 omega)
               have HB4 : Hid (Below w.heap.size w w4) := Lib.hid (((HL.out.trans (HB3.out.mono (by omega))).alloc (by omega) _).grown hg4 (by simp; omega) (fun g hg => by have := (hown3.out.lt g hg).1; omega))
               have hs4 : w.heap.size + 1 ≤ w4.heap.size := Nat.le_trans (by simp; omega) hg4.size
               clear hown4 hg4 hz4))
          go_roundw
          case rel => exact ⟨k + 1, by omega, by go_num, by rw [take_snoc' _ _ hlt, okAll_snoc, HA.out, hin]; rfl, HW4.out, HB4.out, kk4, hs4⟩
          case measure => simp [intOf]; omega
      · have hkk : k = zs.length := by omega
        subst hkk
        have hok : okAll zs = true := by have := HA.out; rwa [List.take_of_length_le (by omega)] at this
        have hw5 : wr.ownsRow (w.heap.size + 1) 9 1 u5 zs.length (texts zs) := by have := HW.out; rwa [List.take_of_length_le (by omega)] at this
        have HO := Lib.hid hok
        have HW5 := Lib.hid hw5
        have l3 := cm_len zs hok
        clear hok hw5 HA HW
        go_wp2_with (first
          | (go_at_call 18
             refine (itoa_any _ (by omega) (by omega) _ (HT.out.below HL.out h0)).mono ?_
             rintro e w3 ⟨rfl, hb3⟩
             have HB3 := Lib.hid hb3
             have hs3 := hb3.size
             have hown3 := Lib.hid (own_below HW5.out hb3)
             clear hb3 kk2)
          | (go_at_call 19
             refine (join_any _ zs (w.heap.size + 1) _ hown3.out HO.out (by omega)).mono ?_
             rintro e w5 ⟨rfl, hb5⟩
             have HB5 := Lib.hid hb5
             clear hb5))
        go_ret
        refine ⟨ret_str ?_, ((HL.out.trans (HB3.out.mono (by omega))).trans (HB5.out.mono (by omega)))⟩
        rw [foR_yes HO.out]
        exact fo0' va ca zs
  · go_enter Tryd.func8, Tryd.ntmps8
    obtain ⟨i0, hi0, hz0, hz1, hz2⟩ := info_parts info9
    go_wp2_with (first
      | (go_at_call 17; refine (isInt_any _ _).mono ?_; rintro e w' ⟨rfl, rfl⟩)
      | (at_make
         refine wpList_make_own _ rfl _ _ 42 rfl (w.heap.size + 1) 9 i0 (.string ⟨#[]⟩) 1 Tryd.underlying42 hi0 hz0 hz1 .i64 .i64 _ zs.length rfl rfl rfl (by rw [hz2]; omega) (by simp only [maxLen]; omega) (by first | omega | (simp; done) | (simp; omega)) ?_
         intro w2 hown hg2
         have k2 : w2.cell? ⟨w.heap.size, 2, none⟩ = some (.int .i64 ca) := hg2.cell (a := ⟨w.heap.size, 2, none⟩) (by go_simp) (by simp)
         have k3 : w2.cell? ⟨w.heap.size, 3, none⟩ = some (.slice a1 zs.length c1) := hg2.cell (a := ⟨w.heap.size, 3, none⟩) (by go_simp) (by simp)
         have HB2 : Hid (Below w.heap.size w w2) := Lib.hid (Below.grown (((Below.refl _ _).alloc (Nat.le_refl _) _).alloc (by simp) _) hg2 (by first | omega | (simp; done) | (simp; omega)) (by simp))
         have hs2 : w.heap.size + 1 ≤ w2.heap.size := Nat.le_trans (by first | omega | (simp; done) | (simp; omega)) hg2.size
         have HOW := Lib.hid hown
         clear hg2 hown))
    go_loopw [5, 63] (fun t i wr => ∃ k : Nat, k ≤ zs.length ∧ i = .int .i64 k ∧ okAll (zs.take k) = true ∧ wr.ownsRow (w.heap.size + 1) 9 1 t k (texts (zs.take k)) ∧ Below w.heap.size w wr ∧
        wr.cell? ⟨w.heap.size, 2, none⟩ = some (.int .i64 ca) ∧ w.heap.size + 1 ≤ wr.heap.size) (fun _ i _ => zs.length - (intOf i).toNat)
    case atStart => exact ⟨0, Nat.zero_le _, rfl, by simp [okAll], by simpa [texts] using HOW.out, HB2.out, k2, hs2⟩
    case round =>
      obtain ⟨k, hk, rfl, hall, hown, hbl, kk2, hszr⟩ := hrel
      have HA := Lib.hid hall
      have HW := Lib.hid hown
      have HL := Lib.hid hbl
      clear hall hown hbl
      by_cases hlt : k < zs.length
      · obtain ⟨b, off, rfl, hb, hcl⟩ := HZ.out.cellAt hlt
        have hcw : wr.cell? ⟨b, off + k, none⟩ = some (.int .i64 zs[k]) := (HL.out.cell (p := ⟨b, off + k, none⟩) hb).trans hcl
        clear hcl
        cases hin : inB (-999) zs[k] 999
        · have hno := Lib.hid (okAll_false hlt hin)
          go_wp2_with (first | (go_at_call 17; refine (isInt_any _ _).mono ?_; rintro e w' ⟨rfl, rfl⟩))
          go_ret
          exact ⟨ret_str (by rw [foR_no hno.out]), HL.out⟩
        · obtain ⟨z0, z9⟩ := inB_of hin
          go_wp2_with (first
            | (go_at_call 17; refine (isInt_any _ _).mono ?_; rintro e w' ⟨rfl, rfl⟩)
            | (go_at_call 18
               refine (itoa_any _ (by omega) (by omega) _ (HT.out.below HL.out h0)).mono ?_
               rintro e w3 ⟨rfl, hb3⟩
               have HB3 := Lib.hid hb3
               have hs3 := hb3.size
               have kk3 : w3.cell? ⟨w.heap.size, 2, none⟩ = some (.int .i64 ca) := (hb3.cell (p := ⟨w.heap.size, 2, none⟩) (by show w.heap.size < _; omega)).trans kk2
               have hown3 := Lib.hid (own_below HW.out hb3)
               clear hb3 kk2)
            | (at_builtin
               refine wpList_append_own _ rfl _ _ 42 rfl (w.heap.size + 1) 9 i0 (.string ⟨#[]⟩) 1 16 Tryd.underlying42 hi0 hz0 hz1 hz2 rfl (by decide) u5 k (texts (zs.take k)) rfl (hown3.out.alloc _) ⟨w3.heap.size, 0, none⟩ 1 1 [.string ⟨(dec zs[k]).toArray⟩] rfl rfl ?_ ?_ ?_ ?_ ?_ ?_
               · exact fun j u hu => by
                   cases j with
                   | zero => simp at hu; subst hu; rw [Addr.add_lit]; go_simp
                   | succ j => simp at hu
               · simp [Value.oneCell']
               · simp only [maxLen]; omega
               · omega
               · simp; omega
               intro v4 w4 hown4 hg4 _
               have hz4 : w4.ownsRow (w.heap.size + 1) 9 1 v4 (k + 1) (texts (zs.take (k + 1))) := by rw [take_snoc' _ _ hlt, texts_snoc]; exact hown4
               have HW4 := Lib.hid hz4
               have kk4 : w4.cell? ⟨w.heap.size, 2, none⟩ = some (.int .i64 ca) := hg4.cell (a := ⟨w.heap.size, 2, none⟩) ((World.cell?_alloc_lt w3 _ ⟨w.heap.size, 2, none⟩ (by show w.heap.size < _; omega)).trans kk3) (fun e => by
                 have := (hown3.out.lt _ e.symm).1
                 simp at this
                 omega)
               have HB4 : Hid (Below w.heap.size w w4) := Lib.hid (((HL.out.trans (HB3.out.mono (by omega))).alloc (by omega) _).grown hg4 (by simp; omega) (fun g hg => by have := (hown3.out.lt g hg).1; omega))
               have hs4 : w.heap.size + 1 ≤ w4.heap.size := Nat.le_trans (by simp; omega) hg4.size
               clear hown4 hg4 hz4))
          go_roundw
          case rel => exact ⟨k + 1, by omega, by go_num, by rw [take_snoc' _ _ hlt, okAll_snoc, HA.out, hin]; rfl, HW4.out, HB4.out, kk4, hs4⟩
          case measure => simp [intOf]; omega
      · have hkk : k = zs.length := by omega
        subst hkk
        have hok : okAll zs = true := by have := HA.out; rwa [List.take_of_length_le (by omega)] at this
        have hw5 : wr.ownsRow (w.heap.size + 1) 9 1 u5 zs.length (texts zs) := by have := HW.out; rwa [List.take_of_length_le (by omega)] at this
        have HO := Lib.hid hok
        have HW5 := Lib.hid hw5
        have l3 := cm_len zs hok
        clear hok hw5 HA HW
        go_wp2_with (first
          | (go_at_call 18
             refine (itoa_any _ (by omega) (by omega) _ (HT.out.below HL.out h0)).mono ?_
             rintro e w3 ⟨rfl, hb3⟩
             have HB3 := Lib.hid hb3
             have hs3 := hb3.size
             have hown3 := Lib.hid (own_below HW5.out hb3)
             clear hb3 kk2)
          | (go_at_call 19
             refine (join_any _ zs (w.heap.size + 1) _ hown3.out HO.out (by omega)).mono ?_
             rintro e w5 ⟨rfl, hb5⟩
             have HB5 := Lib.hid hb5
             clear hb5))
        go_ret
        refine ⟨ret_str ?_, ((HL.out.trans (HB3.out.mono (by omega))).trans (HB5.out.mono (by omega)))⟩
        rw [foR_yes HO.out]
        exact fo1 va ca zs
  · go_enter Tryd.func8, Tryd.ntmps8
    obtain ⟨i0, hi0, hz0, hz1, hz2⟩ := info_parts info9
    go_wp2_with (first
      | (go_at_call 17; refine (isInt_any _ _).mono ?_; rintro e w' ⟨rfl, rfl⟩)
      | (at_make
         refine wpList_make_own _ rfl _ _ 42 rfl (w.heap.size + 1) 9 i0 (.string ⟨#[]⟩) 1 Tryd.underlying42 hi0 hz0 hz1 .i64 .i64 _ zs.length rfl rfl rfl (by rw [hz2]; omega) (by simp only [maxLen]; omega) (by first | omega | (simp; done) | (simp; omega)) ?_
         intro w2 hown hg2
         have k2 : w2.cell? ⟨w.heap.size, 2, none⟩ = some (.int .i64 ca) := hg2.cell (a := ⟨w.heap.size, 2, none⟩) (by go_simp) (by simp)
         have k3 : w2.cell? ⟨w.heap.size, 3, none⟩ = some (.slice a1 zs.length c1) := hg2.cell (a := ⟨w.heap.size, 3, none⟩) (by go_simp) (by simp)
         have HB2 : Hid (Below w.heap.size w w2) := Lib.hid (Below.grown (((Below.refl _ _).alloc (Nat.le_refl _) _).alloc (by simp) _) hg2 (by first | omega | (simp; done) | (simp; omega)) (by simp))
         have hs2 : w.heap.size + 1 ≤ w2.heap.size := Nat.le_trans (by first | omega | (simp; done) | (simp; omega)) hg2.size
         have HOW := Lib.hid hown
         clear hg2 hown))
    go_loopw [5, 63] (fun t i wr => ∃ k : Nat, k ≤ zs.length ∧ i = .int .i64 k ∧ okAll (zs.take k) = true ∧ wr.ownsRow (w.heap.size + 1) 9 1 t k (texts (zs.take k)) ∧ Below w.heap.size w wr ∧
        wr.cell? ⟨w.heap.size, 2, none⟩ = some (.int .i64 ca) ∧ w.heap.size + 1 ≤ wr.heap.size) (fun _ i _ => zs.length - (intOf i).toNat)
    case atStart => exact ⟨0, Nat.zero_le _, rfl, by simp [okAll], by simpa [texts] using HOW.out, HB2.out, k2, hs2⟩
    case round =>
      obtain ⟨k, hk, rfl, hall, hown, hbl, kk2, hszr⟩ := hrel
      have HA := Lib.hid hall
      have HW := Lib.hid hown
      have HL := Lib.hid hbl
      clear hall hown hbl
      by_cases hlt : k < zs.length
      · obtain ⟨b, off, rfl, hb, hcl⟩ := HZ.out.cellAt hlt
        have hcw : wr.cell? ⟨b, off + k, none⟩ = some (.int .i64 zs[k]) := (HL.out.cell (p := ⟨b, off + k, none⟩) hb).trans hcl
        clear hcl
        cases hin : inB (-999) zs[k] 999
        · have hno := Lib.hid (okAll_false hlt hin)
          go_wp2_with (first | (go_at_call 17; refine (isInt_any _ _).mono ?_; rintro e w' ⟨rfl, rfl⟩))
          go_ret
          exact ⟨ret_str (by rw [foR_no hno.out]), HL.out⟩
        · obtain ⟨z0, z9⟩ := inB_of hin
          go_wp2_with (first
            | (go_at_call 17; refine (isInt_any _ _).mono ?_; rintro e w' ⟨rfl, rfl⟩)
            | (go_at_call 18
               refine (itoa_any _ (by omega) (by omega) _ (HT.out.below HL.out h0)).mono ?_
               rintro e w3 ⟨rfl, hb3⟩
               have HB3 := Lib.hid hb3
               have hs3 := hb3.size
               have kk3 : w3.cell? ⟨w.heap.size, 2, none⟩ = some (.int .i64 ca) := (hb3.cell (p := ⟨w.heap.size, 2, none⟩) (by show w.heap.size < _; omega)).trans kk2
               have hown3 := Lib.hid (own_below HW.out hb3)
               clear hb3 kk2)
            | (at_builtin
               refine wpList_append_own _ rfl _ _ 42 rfl (w.heap.size + 1) 9 i0 (.string ⟨#[]⟩) 1 16 Tryd.underlying42 hi0 hz0 hz1 hz2 rfl (by decide) u5 k (texts (zs.take k)) rfl (hown3.out.alloc _) ⟨w3.heap.size, 0, none⟩ 1 1 [.string ⟨(dec zs[k]).toArray⟩] rfl rfl ?_ ?_ ?_ ?_ ?_ ?_
               · exact fun j u hu => by
                   cases j with
                   | zero => simp at hu; subst hu; rw [Addr.add_lit]; go_simp
                   | succ j => simp at hu
               · simp [Value.oneCell']
               · simp only [maxLen]; omega
               · omega
               · simp; omega
               intro v4 w4 hown4 hg4 _
               have hz4 : w4.ownsRow (w.heap.size + 1) 9 1 v4 (k + 1) (texts (zs.take (k + 1))) := by rw [take_snoc' _ _ hlt, texts_snoc]; exact hown4
               have HW4 := Lib.hid hz4
               have kk4 : w4.cell? ⟨w.heap.size, 2, none⟩ = some (.int .i64 ca) := hg4.cell (a := ⟨w.heap.size, 2, none⟩) ((World.cell?_alloc_lt w3 _ ⟨w.heap.size, 2, none⟩ (by show w.heap.size < _; omega)).trans kk3) (fun e => by
                 have := (hown3.out.lt _ e.symm).1
                 simp at this
                 omega)
               have HB4 : Hid (Below w.heap.size w w4) := Lib.hid (((HL.out.trans (HB3.out.mono (by omega))).alloc (by omega) _).grown hg4 (by simp; omega) (fun g hg => by have := (hown3.out.lt g hg).1; omega))
               have hs4 : w.heap.size + 1 ≤ w4.heap.size := Nat.le_trans (by simp; omega) hg4.size
               clear hown4 hg4 hz4))
          go_roundw
          case rel => exact ⟨k + 1, by omega, by go_num, by rw [take_snoc' _ _ hlt, okAll_snoc, HA.out, hin]; rfl, HW4.out, HB4.out, kk4, hs4⟩
          case measure => simp [intOf]; omega
      · have hkk : k = zs.length := by omega
        subst hkk
        have hok : okAll zs = true := by have := HA.out; rwa [List.take_of_length_le (by omega)] at this
        have hw5 : wr.ownsRow (w.heap.size + 1) 9 1 u5 zs.length (texts zs) := by have := HW.out; rwa [List.take_of_length_le (by omega)] at this
        have HO := Lib.hid hok
        have HW5 := Lib.hid hw5
        have l3 := cm_len zs hok
        clear hok hw5 HA HW
        go_wp2_with (first
          | (go_at_call 18
             refine (itoa_any _ (by omega) (by omega) _ (HT.out.below HL.out h0)).mono ?_
             rintro e w3 ⟨rfl, hb3⟩
             have HB3 := Lib.hid hb3
             have hs3 := hb3.size
             have hown3 := Lib.hid (own_below HW5.out hb3)
             clear hb3 kk2)
          | (go_at_call 19
             refine (join_any _ zs (w.heap.size + 1) _ hown3.out HO.out (by omega)).mono ?_
             rintro e w5 ⟨rfl, hb5⟩
             have HB5 := Lib.hid hb5
             clear hb5))
        go_ret
        refine ⟨ret_str ?_, ((HL.out.trans (HB3.out.mono (by omega))).trans (HB5.out.mono (by omega)))⟩
        rw [foR_yes HO.out]
        exact fo2 va ca zs
end Go.Proofs.YtnjincgemmgllaaDoor.W
