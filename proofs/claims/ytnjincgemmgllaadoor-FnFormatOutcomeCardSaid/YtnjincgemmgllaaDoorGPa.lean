/- The walks of newReader, con, sig and goodDecls. -/
import Derived.Test.YtnjincgemmgllaaDoorGBx
import Derived.Deep.DeepCutAuto
namespace Go.Proofs.YtnjincgemmgllaaDoor
open Go.RowKit
attribute [local go_sem ↓] Go.wp_at_zero Go.wp_at_succ

def BytesIn (w : World) (a : Option Addr) (len : Nat) : Prop := ∀ j, j < len → ∃ b off n, a = some ⟨b, off, none⟩ ∧ b < w.heap.size ∧ 0 ≤ n ∧ n ≤ 255 ∧ w.cell? ⟨b, off + j, none⟩ = some (.int .u8 n)
theorem rd_new {w : World} {a : Option Addr} {len cap : Nat} (h : BytesIn w a len) (hl : len ≤ 2000) : RdAt (w.heap.size + 1) (w.alloc (.cells #[.slice a len cap, .int .i64 0] 70)) w.heap.size 0 :=
  ⟨by omega, a, len, cap, hl, heap_alloc_new w _, fun j hj => by
    obtain ⟨b, off, n, h1, h2, h3, h4, h5⟩ := h j hj
    exact ⟨b, off, n, h1, by omega, by omega, h3, h4, ((Keep.refl [] w).alloc _).cellEq h5 (by simp)⟩⟩
set_option maxHeartbeats 1000000 in
theorem newReader_any (a : Option Addr) (len cap : Nat) (w : World) (hb : BytesIn w a len) (hl : len ≤ cap) (hc : cap ≤ 9223372036854775807) :
    Calls Tryd.prog 21 #[.slice a len cap] w (fun e w' => e = .returned (.pointer (some ⟨w.heap.size, 0, none⟩)) ∧ Keep [] w w' ∧ RdAt (w.heap.size + 1) w' w.heap.size 0) := by
  have HB := Lib.hid hb
  by_cases h : 2000 < len
  · obtain ⟨b, off, n, rfl, _⟩ := hb 0 (by omega)
    clear hb
    have h1 : (2000 : Int) < (len : Int) := by omega
    have h2 : (2000 : Int) ≤ (cap : Int) := by omega
    go_enter Tryd.func21, Tryd.ntmps21
    go_wp2
    go_ret
    exact ⟨rfl, (Keep.refl _ _).alloc _, rd_new (fun j hj => HB.out j (by omega)) (by omega)⟩
  · clear hb
    have h1 : ¬ (2000 : Int) < (len : Int) := by omega
    go_enter Tryd.func21, Tryd.ntmps21
    go_wp2
    go_ret
    exact ⟨rfl, (Keep.refl _ _).alloc _, rd_new (fun j hj => HB.out j (by omega)) (by omega)⟩
set_option maxHeartbeats 1000000 in
theorem con_any (a : Option Addr) (len cap : Nat) (w : World) :
    Calls Tryd.prog 38 #[.slice a len cap] w (fun e w' => e = .returned (.agg #[.slice a len cap]) ∧ Keep [] w w') := by
  go_enter Tryd.func38, Tryd.ntmps38
  go_wp2
  exact bodyPost_ret (v := .agg #[.slice a len cap]) (by simp [results, Tryd.results38, go_sem]) rfl ⟨rfl, (Keep.refl _ _).alloc _⟩
set_option maxHeartbeats 1000000 in
theorem sig_any (a : Option Addr) (len cap : Nat) (r : Int) (w : World) :
    Calls Tryd.prog 31 #[.slice a len cap, .int .i64 r] w (fun e w' => e = .returned (.agg #[.slice a len cap, .int .i64 r, .int .i64 0, .int .i64 0, .slice none 0 0]) ∧ Keep [] w w') := by
  go_enter Tryd.func31, Tryd.ntmps31
  go_wp2
  exact bodyPost_ret (v := .agg #[.slice a len cap, .int .i64 r, .int .i64 0, .int .i64 0, .slice none 0 0]) (by simp [results, Tryd.results31, go_sem]) rfl ⟨rfl, (Keep.refl _ _).alloc _⟩

theorem infoDc : (Tryd.prog.info? 89).map (fun i => (i.zero, i.size, i.bytes)) = some (some (.agg #[.int .i64 0, .int .i64 0, .slice none 0 0]), 3, 40) := by kernel_rfl
section
variable {G : List Nat} {w : World} {f g h : List Int} {E : TypeId} {a a' a'' : Option Addr} {c c' c'' : Nat}
theorem cons_new1 (h1 : Rep G w (ints f) (.slice a f.length c)) (hG : ∀ g, g ∈ G → g < w.heap.size) : Rep G (w.alloc (.cells #[.slice a f.length c] E)) (encCons [f]) (.slice (some ⟨w.heap.size, 0, none⟩) 1 1) :=
  Rep.new (es := [encCon f]) (fun e he => by simp at he; subst he; rfl) ⟨h1, trivial⟩ hG (by simp)
theorem cons_new2 (h1 : Rep G w (ints f) (.slice a f.length c)) (h2 : Rep G w (ints g) (.slice a' g.length c')) (hG : ∀ g, g ∈ G → g < w.heap.size) : Rep G (w.alloc (.cells #[.slice a f.length c, .slice a' g.length c'] E)) (encCons [f, g]) (.slice (some ⟨w.heap.size, 0, none⟩) 2 2) :=
  Rep.new (es := [encCon f, encCon g]) (fun e he => by simp at he; rcases he with rfl | rfl <;> rfl) ⟨h1, h2, trivial⟩ hG (by simp)
theorem cons_new3 (h1 : Rep G w (ints f) (.slice a f.length c)) (h2 : Rep G w (ints g) (.slice a' g.length c')) (h3 : Rep G w (ints h) (.slice a'' h.length c'')) (hG : ∀ g, g ∈ G → g < w.heap.size) : Rep G (w.alloc (.cells #[.slice a f.length c, .slice a' g.length c', .slice a'' h.length c''] E)) (encCons [f, g, h]) (.slice (some ⟨w.heap.size, 0, none⟩) 3 3) :=
  Rep.new (es := [encCon f, encCon g, encCon h]) (fun e he => by simp at he; rcases he with rfl | rfl | rfl <;> rfl) ⟨h1, h2, h3, trivial⟩ hG (by simp)
end
theorem range_lt {n : Nat} {w : World} (h : n ≤ w.heap.size) : ∀ g, g ∈ List.range n → g < w.heap.size := fun g hg => by simp at hg; omega
theorem last_new {G : List Nat} {w : World} {E : TypeId} {a a' : Option Addr} {c c' : Nat} (h1 : Rep G w (encCons [[1, 3]]) (.slice a 1 c)) (h2 : Rep G w (encCons [[1, 1, 0], [0], [3]]) (.slice a' 3 c')) (hG : ∀ g, g ∈ G → g < w.heap.size) :
    Rep G (w.alloc (.cells #[.int .i64 0, .int .i64 0, .slice a 1 c, .int .i64 1, .int .i64 0, .slice none 0 0, .int .i64 0, .int .i64 0, .slice a' 3 c', .int .i64 0, .int .i64 1, .slice none 0 0] E)) (decls [dLast 0, dLast 1, dLast 2, dLast 3]) (.slice (some ⟨w.heap.size, 0, none⟩) 4 4) :=
  Rep.new (es := [dLast 0, dLast 1, dLast 2, dLast 3].map encDc) (fun e he => by simp at he; rcases he with rfl | rfl | rfl | rfl <;> rfl)
    ⟨rfl, rfl, h1, rfl, rfl, Rep.nil _ _ _ _ _ (by omega), rfl, rfl, h2, rfl, rfl, Rep.nil _ _ _ _ _ (by omega), trivial⟩ hG (by simp)
/- one declaration in a local variable's block -/
def DeclBox (G : List Nat) (cs : List (List Int)) (n : Nat) (w wx : World) (k : Nat) : Prop := ∃ (a : Option Addr) (c : Nat), Keep [] w wx ∧ wx.heap[k]? = some (.cells #[.int .i64 0, .int .i64 0, .slice a n c] 89 (0, 0)) ∧ Rep G wx (encCons cs) (.slice a n c)

set_option maxRecDepth 100000 in
set_option maxHeartbeats 4000000 in
theorem goodDecls_any {B br p : Nat} {w : World} (hr : RdAt B w br p) (hB : B ≤ w.heap.size) (hp : p ≤ 1000) :
    Calls Tryd.prog 30 #[.pointer (some ⟨br, 0, none⟩)] w (fun e w' => ∃ (x : List Dc) (v : Value), e = .returned v ∧ (x = [] ∨ ∃ k, k < 4 ∧ x = [dLast k]) ∧ Keep [br] w w' ∧ RdAt B w' br (p + 1) ∧ Rep (List.range w.heap.size) w' (decls (gd x)) v) := by
  have HR := Lib.hid hr
  have hbr := hr.lt
  obtain ⟨G, hG⟩ : ∃ G, G = List.range w.heap.size := ⟨_, rfl⟩
  rw [← hG]
  have HG := Lib.hid hG
  have HGm := Lib.hid (show ∀ g, g ∈ G → g < w.heap.size from by rw [hG]; intro g hg; simpa using hg)
  clear hG hr
  go_enter Tryd.func30, Tryd.ntmps30
  go_upto_region 1 with fail
  go_cut [3] (fun s wx => ∃ k, s = .pointer (some ⟨k, 0, none⟩) ∧ DeclBox G [[], [0, 1]] 2 w wx k)
  case first =>
    go_wp2_with fail
    refine (con_any _ _ _ _).mono ?_
    rintro e w1 ⟨rfl, hk⟩
    have R1 := Lib.hid (show Rep G w1 (ints []) (.slice (some ⟨w.heap.size, 0, none⟩) 0 0) from (ints_newAt [] (by simp) (fun g hg => by have := HGm.out g hg; (try simp); omega) (by simp)).keep0 hk)
    have K1 := Lib.hid (show Keep [] w w1 from ((Keep.refl _ _).alloc _).then0 hk)
    have s1 := K1.out.size
    try simp at s1
    clear hk
    go_wp2_with fail
    refine (con_any _ _ _ _).mono ?_
    rintro e w2 ⟨rfl, hk⟩
    have R2 := Lib.hid (show Rep G w2 (ints [0, 1]) (.slice (some ⟨w1.heap.size, 0, none⟩) 2 2) from (ints_newAt [0, 1] (by simp) (fun g hg => by have := HGm.out g hg; (try simp); omega) (by simp)).keep0 hk)
    have K2 := Lib.hid (show Keep [] w1 w2 from ((Keep.refl _ _).alloc _).then0 hk)
    have s2 := K2.out.size
    try simp at s2
    clear hk
    go_wp2_with fail
    go_meet
    refine ⟨_, rfl, _, _, ((K1.out.then0 K2.out).alloc _).alloc _, ?_, Rep.alloc (cons_new2 (R1.out.keep0 K2.out) R2.out (fun g hg => by have := HGm.out g hg; omega)) _⟩
    have := heap_alloc_new (w2.alloc (.cells #[.slice (some ⟨w.heap.size, 0, none⟩) 0 0, .slice (some ⟨w1.heap.size, 0, none⟩) 2 2] 85)) (.cells #[.int .i64 0, .int .i64 0, .slice (some ⟨w2.heap.size, 0, none⟩) 2 2] 89)
    simpa using this
  case rest =>
    obtain ⟨k3, rfl, la, lc, hka, hba, hra⟩ := hcut
    rename World => wa
    have KA := Lib.hid hka
    have BA := Lib.hid hba
    have RA := Lib.hid hra
    have sa := hka.size
    clear hka hba hra
    go_upto_region 2 with fail
    go_cut [4] (fun s wx => ∃ k, s = .pointer (some ⟨k, 0, none⟩) ∧ DeclBox G [[], [3, 0, 3]] 2 wa wx k)
    case first =>
      go_wp2_with fail
      refine (con_any _ _ _ _).mono ?_
      rintro e w3 ⟨rfl, hk⟩
      have R3 := Lib.hid (show Rep G w3 (ints []) (.slice (some ⟨wa.heap.size, 0, none⟩) 0 0) from (ints_newAt [] (by simp) (fun g hg => by have := HGm.out g hg; (try simp); omega) (by simp)).keep0 hk)
      have K3 := Lib.hid (show Keep [] wa w3 from ((Keep.refl _ _).alloc _).then0 hk)
      have s3 := K3.out.size
      try simp at s3
      clear hk
      go_wp2_with fail
      refine (con_any _ _ _ _).mono ?_
      rintro e w4 ⟨rfl, hk⟩
      have R4 := Lib.hid (show Rep G w4 (ints [3, 0, 3]) (.slice (some ⟨w3.heap.size, 0, none⟩) 3 3) from (ints_newAt [3, 0, 3] (by simp) (fun g hg => by have := HGm.out g hg; (try simp); omega) (by simp)).keep0 hk)
      have K4 := Lib.hid (show Keep [] w3 w4 from ((Keep.refl _ _).alloc _).then0 hk)
      have s4 := K4.out.size
      try simp at s4
      clear hk
      go_wp2_with fail
      go_meet
      refine ⟨_, rfl, _, _, ((K3.out.then0 K4.out).alloc _).alloc _, ?_, Rep.alloc (cons_new2 (R3.out.keep0 K4.out) R4.out (fun g hg => by have := HGm.out g hg; omega)) _⟩
      have := heap_alloc_new (w4.alloc (.cells #[.slice (some ⟨wa.heap.size, 0, none⟩) 0 0, .slice (some ⟨w3.heap.size, 0, none⟩) 3 3] 85)) (.cells #[.int .i64 0, .int .i64 0, .slice (some ⟨w4.heap.size, 0, none⟩) 2 2] 89)
      simpa using this
    case rest =>
      obtain ⟨k4, rfl, ta, tc, hka, hba, hra⟩ := hcut
      rename World => wb
      have KB := Lib.hid hka
      have BB := Lib.hid hba
      have RB := Lib.hid hra
      have sb := hka.size
      clear hka hba hra
      go_upto_region 3 with fail
      go_cut [5] (fun s wx => ∃ a c, s = .slice a 4 c ∧ Keep [] wb wx ∧ Rep G wx (decls [dLast 0, dLast 1, dLast 2, dLast 3]) (.slice a 4 c))
      case first =>
        go_wp2_with fail
        refine (con_any _ _ _ _).mono ?_
        rintro e w5 ⟨rfl, hk⟩
        have R5 := Lib.hid (show Rep G w5 (ints [1, 3]) (.slice (some ⟨wb.heap.size, 0, none⟩) 2 2) from (ints_newAt [1, 3] (by simp) (fun g hg => by have := HGm.out g hg; (try simp); omega) (by simp)).keep0 hk)
        have K5 := Lib.hid (show Keep [] wb w5 from ((Keep.refl _ _).alloc _).then0 hk)
        have s5 := K5.out.size
        try simp at s5
        clear hk
        have RC5 := Lib.hid (show Rep G (w5.alloc (.cells #[.slice (some ⟨wb.heap.size, 0, none⟩) 2 2] 85)) (encCons [[1, 3]]) (.slice (some ⟨w5.heap.size, 0, none⟩) 1 1) from cons_new1 R5.out (fun g hg => by have := HGm.out g hg; omega))
        go_wp2_with fail
        refine (con_any _ _ _ _).mono ?_
        rintro e w6 ⟨rfl, hk⟩
        have R6 := Lib.hid (show Rep G w6 (ints [1, 1, 0]) (.slice (some ⟨w5.heap.size + 1, 0, none⟩) 3 3) from (ints_newAt [1, 1, 0] (by simp) (fun g hg => by have := HGm.out g hg; (try simp); omega) (by simp)).keep0 hk)
        have K6 := Lib.hid (show Keep [] (w5.alloc (.cells #[.slice (some ⟨wb.heap.size, 0, none⟩) 2 2] 85)) w6 from ((Keep.refl _ _).alloc _).then0 hk)
        have s6 := K6.out.size
        try simp at s6
        clear hk
        go_wp2_with fail
        refine (con_any _ _ _ _).mono ?_
        rintro e w7 ⟨rfl, hk⟩
        have R7 := Lib.hid (show Rep G w7 (ints [0]) (.slice (some ⟨w6.heap.size, 0, none⟩) 1 1) from (ints_newAt [0] (by simp) (fun g hg => by have := HGm.out g hg; (try simp); omega) (by simp)).keep0 hk)
        have K7 := Lib.hid (show Keep [] w6 w7 from ((Keep.refl _ _).alloc _).then0 hk)
        have s7 := K7.out.size
        try simp at s7
        clear hk
        go_wp2_with fail
        refine (con_any _ _ _ _).mono ?_
        rintro e w8 ⟨rfl, hk⟩
        have R8 := Lib.hid (show Rep G w8 (ints [3]) (.slice (some ⟨w7.heap.size, 0, none⟩) 1 1) from (ints_newAt [3] (by simp) (fun g hg => by have := HGm.out g hg; (try simp); omega) (by simp)).keep0 hk)
        have K8 := Lib.hid (show Keep [] w7 w8 from ((Keep.refl _ _).alloc _).then0 hk)
        have s8 := K8.out.size
        try simp at s8
        clear hk
        go_wp2_with fail
        go_meet
        have RC8 := Lib.hid (cons_new3 (E := 85) ((R6.out.keep0 K7.out).keep0 K8.out) (R7.out.keep0 K8.out) R8.out (fun g hg => by have := HGm.out g hg; omega))
        have RD8 := Lib.hid (last_new (E := 89) ((((RC5.out.keep0 K6.out).keep0 K7.out).keep0 K8.out).alloc _) RC8.out (fun g hg => by have := HGm.out g hg; simp; omega))
        have KF := Lib.hid (show Keep [] wb w8 from (((K5.out.alloc _).then0 K6.out).then0 K7.out).then0 K8.out)
        refine ⟨_, _, ?_, (KF.out.alloc _).alloc _, RD8.out⟩
        simp
      case rest =>
        obtain ⟨za, zc, rfl, hkc, hrc⟩ := hcut
        rename World => wd
        have KD := Lib.hid hkc
        have sd := hkc.size
        have RD := Lib.hid hrc
        have KAD := Lib.hid ((KB.out).then0 hkc)
        obtain ⟨⟨l0, l1, l2⟩, _⟩ := blk3 ((KAD.out.block k3 (Array.getElem?_eq_some_iff.1 BA.out).1 (by simp)).trans BA.out)
        obtain ⟨⟨t0, t1, t2⟩, _⟩ := blk3 ((KD.out.block k4 (Array.getElem?_eq_some_iff.1 BB.out).1 (by simp)).trans BB.out)
        have KW := Lib.hid (show Keep [] w wd from (KA.out.then0 KAD.out))
        clear hkc hrc
        go_wp2_with fail
        have OW := Lib.hid (show Own G w.heap.size (wd.alloc (.cells #[.int .i64 0, .int .i64 0, .slice la 2 lc, .int .i64 0, .int .i64 0, .slice none 0 0, .int .i64 0, .int .i64 0, .slice ta 2 tc] 89)) 89 3 (.slice (some ⟨wd.heap.size, 0, none⟩) 3 3) ([dList, dFun, dTree].map encDc) from
          Own.new (es := [dList, dFun, dTree].map encDc) (by omega) (fun g hg => by have := HGm.out g hg; omega) (fun e he => by simp at he; rcases he with rfl | rfl | rfl <;> rfl)
            ⟨rfl, rfl, RA.out.keep0 KAD.out, rfl, rfl, Rep.nil _ _ _ _ _ (by omega), rfl, rfl, RB.out.keep0 KD.out, trivial⟩ (by simp) (by simp))
        have hbG : br ∈ G := by rw [HG.out]; simp; omega
        have HBG := Lib.hid hbG
        clear hbG
        refine (pick_any br p 5 _ (HR.out.keep0 (KW.out.alloc _)) (by omega) (by omega)).mono ?_
        rintro e w9 ⟨r, rfl, r0, r1, hk9, hr9⟩
        have r1 := r1 (by omega)
        have s9 := hk9.size
        simp at s9
        have HR9 := Lib.hid hr9
        have K9 := Lib.hid (show Keep [br] w w9 from (KW.out.alloc _).of0.then hk9)
        have OW9 := Lib.hid (OW.out.keep hk9 fun m hm => .inl (by simp at hm; subst hm; exact HBG.out))
        have RD9 := Lib.hid (show Rep ([wd.heap.size] ++ G) w9 (decls [dLast 0, dLast 1, dLast 2, dLast 3]) (.slice za 4 zc) from (((RD.out.sub (G' := [wd.heap.size] ++ G) fun g hg => by
          simp at hg
          rcases hg with h | h
          · exact .inr (by omega)
          · exact .inl h).alloc _).keep hk9 fun m hm => .inl (by simp at hm; subst hm; simp [HBG.out])))
        clear hk9 hr9 l0 l1 l2 t0 t1 t2
        by_cases hr4 : r < 4
        · obtain ⟨j, rfl⟩ := Int.eq_ofNat_of_zero_le r0
          have hj : j < 4 := by omega
          obtain ⟨bz, oz, ca, cc, rfl, hbz, d0, d1, d2, rc⟩ := decls_at RD9.out (i := j) (by simp; omega)
          obtain ⟨dj, hdj⟩ : ∃ d, d = [dLast 0, dLast 1, dLast 2, dLast 3][j] := ⟨_, rfl⟩
          rw [← hdj] at d0 d1 d2 rc
          have HDJ := Lib.hid (show dj = dLast j from by
            rw [hdj]
            rcases (show j = 0 ∨ j = 1 ∨ j = 2 ∨ j = 3 by omega) with rfl | rfl | rfl | rfl <;> rfl)
          have RC := Lib.hid rc
          clear rc hdj
          go_wp2_with (first
          | (at_builtin
             refine wpl_append rfl _ _ 47 rfl G w.heap.size 89 (.agg #[.int .i64 0, .int .i64 0, .slice none 0 0]) 3 40 Tryd.underlying47 infoDc rfl (by decide) (.slice (some ⟨wd.heap.size, 0, none⟩) 3 3) ([dList, dFun, dTree].map encDc) rfl (OW9.out.alloc _) (.slice (some ⟨w9.heap.size, 0, none⟩) 1 1) [encDc dj] rfl
               (Rep.new (es := [encDc dj]) (fun e he => by simp at he; subst he; rfl) ⟨rfl, rfl, RC.out, trivial⟩ (fun g hg => by
                 simp [ob, Value.ownBlock] at hg
                 rcases hg with h | h
                 · omega
                 · have := HGm.out g h; omega) (by simp)) (fun f hf => by simp at hf; subst hf; rfl) (by simp) (by simp) (by simp; omega) (fun g hg => by have := HGm.out g hg; simp; omega) ?_
             intro v' w' ho hgr
             have HO := Lib.hid ho
             have GR := Lib.hid hgr
             clear ho hgr))
          go_ret
          refine ⟨[dj], v', rfl, .inr ⟨j, hj, by rw [HDJ.out]⟩, (K9.out.alloc _).trans GR.out.keep fun m hm => .inr (by simp [ob, Value.ownBlock] at hm; omega), (HR9.out.keep0 ((Keep.refl _ _).alloc _)).keep GR.out.keep fun m hm => by simp [ob, Value.ownBlock] at hm; omega, ?_⟩
          have := HO.out.rep
          simpa [decls, gd] using this
        · go_wp2
          go_ret
          exact ⟨[], _, rfl, .inl rfl, K9.out, HR9.out, by have := OW9.out.rep; simpa [decls, gd] using this⟩
end Go.Proofs.YtnjincgemmgllaaDoor
