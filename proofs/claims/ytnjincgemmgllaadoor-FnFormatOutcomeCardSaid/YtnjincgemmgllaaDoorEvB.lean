/- Walks of the reference's extendValues and chosen; the contract of eval. -/
import Derived.Test.YtnjincgemmgllaaDoorEvA
namespace Go.Proofs.YtnjincgemmgllaaDoor
open Go.RowKit
attribute [local go_sem ↓] Go.wp_at_zero Go.wp_at_succ

theorem infoVal : (Tryd.prog.info? 79).map (fun i => (i.zero, i.size, i.bytes)) = some (some (.agg #[.int .i64 0, .slice none 0 0]), 2, 32) := by kernel_rfl
def OwnV (G : List Nat) (w : World) (vs : List V) (e : Ending) (w' : World) : Prop := ∃ (a : Option Addr) (cap : Nat), e = .returned (.slice a vs.length cap) ∧ Keep [] w w' ∧ Own G w.heap.size w' 79 2 (.slice a vs.length cap) (vs.map encV)
set_option maxHeartbeats 400000 in
theorem extendValues_any {G : List Nat} (v u : Value) (vs us : List V) (w : World) (hz : Rep G w (valsD vs) v) (hy : Rep G w (valsD us) u) (hs : vs.length ≤ 1073741824) (ht : us.length ≤ 1073741824) (hG : ∀ g, g ∈ G → g < w.heap.size) :
    Calls Tryd.prog 47 #[v, u] w (OwnV G w (vs ++ us)) := by
  have HZ := Lib.hid hz
  have HY := Lib.hid hy
  have HG := Lib.hid hG
  obtain ⟨a, cap, rfl, hl, hc⟩ := vals_form hz
  obtain ⟨a', cap', rfl, hl', hc'⟩ := vals_form hy
  clear hz hy hG
  go_enter Tryd.func47, Tryd.ntmps47
  go_wp2_with (first
    | (at_builtin
       refine wpl_append rfl _ _ 77 rfl G w.heap.size 79 (.agg #[.int .i64 0, .slice none 0 0]) 2 32 Tryd.underlying77 infoVal rfl (by decide) (.slice (some ⟨w.heap.size, 0, none⟩) 0 0) [] rfl (Own.made G _ w _ _ (Nat.le_refl _) HG.out) (.slice a vs.length cap) (vs.map encV) rfl
         ((HZ.out.cons (Nat.le_refl _)).alloc _) (encV_size vs) (by rw [List.length_map]; simp; omega) (by rw [List.length_map]; simp; omega) (by simp) (fun g hg => by have := HG.out g hg; simp; omega) ?_
       intro v1 w1 ho hgr
       have HO := Lib.hid (show Own G w.heap.size w1 79 2 v1 (vs.map encV) from by simpa using ho)
       have HK := Lib.hid (show Keep [] w w1 from ((Keep.refl _ _).alloc _).trans hgr.keep fun m hm => by
         simp [ob, Value.ownBlock] at hm
         omega)
       have hsz := HK.out.size
       clear ho hgr)
    | (at_builtin
       refine wpl_append rfl _ _ 77 rfl G w.heap.size 79 (.agg #[.int .i64 0, .slice none 0 0]) 2 32 Tryd.underlying77 infoVal rfl (by decide) v1 (vs.map encV) rfl HO.out (.slice a' us.length cap') (us.map encV) rfl
         (HY.out.ob HK.out fun g hg => (HO.out.lt g hg).1) (encV_size us) (by rw [List.length_map, List.length_map]; omega) (by rw [List.length_map, List.length_map]; omega) (by omega) (fun g hg => by have := HG.out g hg; omega) ?_
       intro v2 w2 ho hgr
       have HO2 := Lib.hid (show Own G w.heap.size w2 79 2 v2 ((vs ++ us).map encV) from by rw [List.map_append]; exact ho)
       have HR := Lib.hid hgr
       clear ho hgr))
  obtain ⟨a9, cap9, hv9⟩ := HO2.out.form
  rw [List.length_map] at hv9
  subst hv9
  go_ret
  refine ⟨a9, cap9, rfl, HK.out.trans HR.out.keep fun m hm => .inr ?_, HO2.out⟩
  exact (HO.out.lt m hm).1

set_option maxHeartbeats 400000 in
theorem chosen_if (dv fv : Value) (num vn : Int) (kv vk : Value) (w : World) :
    Calls Tryd.prog 48 #[.agg #[dv, fv], .agg #[.int .i64 7, .int .i64 num, kv], .agg #[.int .i64 vn, vk]] w fun e w' => e = .returned (.int .i64 (if vn = 0 then 2 else 1)) ∧ Keep [] w w' := by
  by_cases h : vn = 0
  · subst h
    go_enter Tryd.func48, Tryd.ntmps48
    go_wp2
    go_ret
    exact ⟨rfl, (((Keep.refl _ _).alloc _).alloc _).alloc _⟩
  · have h1 : (vn == 0) = false := by simpa using h
    rw [if_neg h]
    clear h
    go_enter Tryd.func48, Tryd.ntmps48
    go_wp2
    go_ret
    exact ⟨rfl, (((Keep.refl _ _).alloc _).alloc _).alloc _⟩
set_option maxHeartbeats 800000 in
theorem chosen_match {G : List Nat} (dv fv : Value) (l : List Dc) (d : Int) (i : Nat) (vn : Int) (kv vk : Value) (w : World) (hz : Rep G w (decls l) dv) (d0 : 1 ≤ d) (d1 : d ≤ l.length) (hb : fcon l l.length ≤ 1073741824) (hv : vn = fcon l (d - 1).toNat + i) (hi : i ≤ 1000) :
    Calls Tryd.prog 48 #[.agg #[dv, fv], .agg #[.int .i64 8, .int .i64 d, kv], .agg #[.int .i64 vn, vk]] w fun e w' => e = .returned (.int .i64 (1 + i)) ∧ Keep [] w w' := by
  have HZ := Lib.hid hz
  obtain ⟨a, cap, rfl, hl, hc⟩ := decls_form hz
  obtain ⟨m, hm⟩ := Int.eq_ofNat_of_zero_le (show 0 ≤ d - 1 by omega)
  have hm2 : (d - 1).toNat = m := by omega
  rw [hm2] at hv
  have hn := fcon_nonneg l m
  have hx := fcon_le l m l.length (by omega) (Nat.le_refl _)
  have hd : d = m + 1 := by omega
  subst hd
  have hml : m + 1 ≤ l.length := by omega
  have hvb : vn ≤ 2147483648 := by omega
  have hvb0 : 0 ≤ vn := by omega
  have hfb : fcon l m ≤ 1073741824 := by omega
  have HV := Lib.hid hv
  clear hz hm hm2 hv hx
  go_enter Tryd.func48, Tryd.ntmps48
  go_wp2
  have e1 : IntKind.i64.wrap ((m : Int) + 1 - 1) = m := by rw [show (m : Int) + 1 - 1 = m by omega]; exact IntWalk.i64_in _ (by omega)
  have e2 : IntKind.i64.wrap (1 + vn) = 1 + vn := IntWalk.i64_in _ (by omega)
  have e3 : IntKind.i64.wrap (1 + vn - fcon l m) = 1 + i := by rw [show 1 + vn - fcon l m = 1 + i by rw [HV.out]; omega]; exact IntWalk.i64_in _ (by omega)
  obtain ⟨W, hW⟩ : ∃ W, W = (((w.alloc (.cells #[.slice a l.length cap, fv] 50)).alloc (.cells #[.int .i64 8, .int .i64 ((m : Int) + 1), kv] 55)).alloc (.cells #[.int .i64 vn, vk] 79)) := ⟨_, rfl⟩
  have hfc : ∀ n, Calls Tryd.prog 64 #[.slice a l.length cap, .int .i64 m] (W.drewN n) fun e w' => e = .returned (.int .i64 (fcon l m)) ∧ W.drewN n = w' := fun n => by
    have := firstCon_any (G := G) (.slice a l.length cap) l m (W.drewN n) (by rw [hW]; exact (((HZ.out.alloc _).alloc _).alloc _).drewN n) (by omega) (by omega) hb
    rwa [Int.toNat_natCast] at this
  rw [hW] at hfc
  clear hW
  have HF := Lib.hid hfc
  clear hfc
  go_quiet ((go_at_call 64; exact quiet_left (HF.out _)))
  clear e1 e2 e3
  go_wp2
  go_ret
  exact ⟨rfl, ((((Keep.refl _ _).alloc _).alloc _).alloc _).drewN _⟩

/- a program whose bodies have their types -/
structure Pr (l : List Dc) (fs : List Fn) : Prop where
  hl : GD l
  hs : GS l (sgs fs)
  hb : ∀ f (h : f < fs.length), HasTy l (sgs fs) fs[f].sig.params fs[f].body fs[f].sig.result ∧ esz fs[f].body ≤ 30
/- what eval and call find -/
structure Ep (be Bd : Nat) (l : List Dc) (fs : List Fn) (dv fv : Value) (G : List Nat) (w : World) (most c : Nat) (o : Value) (os : List Int) : Prop where
  ev : Ev be Bd w most c false o os
  hd : Rep (be :: (ob o ++ G)) w (decls l) dv
  hf : Rep (be :: (ob o ++ G)) w (funcsD fs) fv
  hG : ∀ g, g ∈ G → g < w.heap.size
  hm : c ≤ most ∧ most ≤ 1000
/- what they leave -/
def EvK (l : List Dc) (fs : List Fn) (be Bd : Nat) (G : List Nat) (most c : Nat) (os : List Int) (k : Nat) (t : Int) (o : Value) (w : World) (e : Ending) (w' : World) : Prop :=
  ∃ (v : V) (a : Option Addr) (cap c' : Nat) (sp : Bool) (o' : Value) (os' : List Int), e = .returned (.agg #[.int .i64 v.num, .slice a v.kids.length cap]) ∧ (sp = false → VT l (sgs fs) v t) ∧ St be o w o' w' ∧ Ev be Bd w' most c' sp o' os' ∧ c ≤ c' ∧ c' ≤ most ∧
    os'.length ≤ os.length + k + 31 * (c' - c) ∧ Rep (be :: (ob o' ++ G)) w' (valsD v.kids) (.slice a v.kids.length cap)
def EvalC (l : List Dc) (fs : List Fn) (N : Nat) : Prop := ∀ (be Bd : Nat) (dv fv : Value) (G : List Nat) (w : World) (most c : Nat) (o : Value) (os : List Int), Ep be Bd l fs dv fv G w most c o os →
  ∀ (x : Ex) (xa : Option Addr) (xc : Nat), Rep (be :: (ob o ++ G)) w (kidsD x.kids) (.slice xa x.kids.length xc) → ∀ (vs : List V) (vv : Value), Rep (be :: (ob o ++ G)) w (valsD vs) vv →
  ∀ (vars : List Int) (t : Int), VTs l (sgs fs) vs vars → HasTy l (sgs fs) vars x t → vars.length + 3 * esz x ≤ 200 → os.length + esz x + 31 * (most - c) ≤ 100000 → esz x + 31 * (most - c) < N →
    Calls Tryd.prog 33 #[.pointer (some ⟨be, 0, none⟩), .agg #[dv, fv], .agg #[.int .i64 x.op, .int .i64 x.num, .slice xa x.kids.length xc], vv] w (EvK l fs be Bd G most c os (esz x) t o w)
def CallC (l : List Dc) (fs : List Fn) (N : Nat) : Prop := ∀ (be Bd : Nat) (dv fv : Value) (G : List Nat) (w : World) (most c : Nat) (o : Value) (os : List Int), Ep be Bd l fs dv fv G w most c o os →
  ∀ (vs : List V) (vv : Value), Rep (be :: (ob o ++ G)) w (valsD vs) vv → ∀ (f : Nat) (hf : f < fs.length), VTs l (sgs fs) vs fs[f].sig.params → os.length + 31 * (most - c) ≤ 100000 → 31 * (most - c) ≤ N →
    Calls Tryd.prog 65 #[.pointer (some ⟨be, 0, none⟩), .agg #[dv, fv], .int .i64 (f : Int), vv] w (EvK l fs be Bd G most c os 0 fs[f].sig.result o w)
end Go.Proofs.YtnjincgemmgllaaDoor
