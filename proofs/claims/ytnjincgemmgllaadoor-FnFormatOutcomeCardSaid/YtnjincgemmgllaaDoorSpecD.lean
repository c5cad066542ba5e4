/- Expressions as plain data; walks of the reference's constructors of expressions, of nodesLeft and nodesOf, of clamp and prim. -/
import Derived.Test.YtnjincgemmgllaaDoorSpecC
namespace Go.Proofs.YtnjincgemmgllaaDoor
open Go.RowKit

inductive Ex where
  | mk (op num : Int) (kids : List Ex)
def Ex.op : Ex → Int | .mk o _ _ => o
def Ex.num : Ex → Int | .mk _ n _ => n
def Ex.kids : Ex → List Ex | .mk _ _ k => k
mutual
def encE : Ex → List D
  | .mk op num kids => [.int op, .int num, .arr 3 (encEs kids)]
def encEs : List Ex → List (List D)
  | [] => []
  | e :: es => encE e :: encEs es
end
theorem encEs_map : ∀ l : List Ex, encEs l = l.map encE
  | [] => rfl
  | e :: es => by rw [encEs, encEs_map es]; rfl
def kidsD (l : List Ex) : D := .arr 3 (l.map encE)
theorem encE_eq (e : Ex) : encE e = [.int e.op, .int e.num, kidsD e.kids] := by
  cases e with
  | mk o n k => rw [encE, encEs_map]; rfl
theorem encE_len (e : Ex) : (encE e).length = 3 := by rw [encE_eq]; rfl
theorem encE_size (l : List Ex) : ∀ f ∈ l.map encE, f.length = 3 := by
  intro f hf
  obtain ⟨e, _, rfl⟩ := List.mem_map.1 hf
  exact encE_len e
theorem Ex.eta (e : Ex) : Ex.mk e.op e.num e.kids = e := by cases e; rfl

theorem kids_form {G : List Nat} {w : World} {l : List Ex} {v : Value} (h : Rep G w (kidsD l) v) : ∃ a cap, v = .slice a l.length cap ∧ l.length ≤ cap ∧ cap ≤ 9223372036854775807 := by
  obtain ⟨a, cap, hv, hl, hc⟩ := Rep.form h
  rw [List.length_map] at hv hl
  exact ⟨a, cap, hv, hl, hc⟩
theorem kids_at {G : List Nat} {w : World} {l : List Ex} {a : Option Addr} {n cap : Nat} (h : Rep G w (kidsD l) (.slice a n cap)) {i : Nat} (hi : i < l.length) :
    ∃ b off ca cc, a = some ⟨b, off, none⟩ ∧ b < w.heap.size ∧ w.cell? ⟨b, off + i * 3, none⟩ = some (.int .i64 l[i].op) ∧ w.cell? ⟨b, off + i * 3 + 1, none⟩ = some (.int .i64 l[i].num) ∧
      w.cell? ⟨b, off + i * 3 + 2, none⟩ = some (.slice ca l[i].kids.length cc) ∧ Rep G w (kidsD l[i].kids) (.slice ca l[i].kids.length cc) := by
  obtain ⟨b, off, ha, _, hlt, _, hl⟩ := Rep.at_ h (i := i) (by simpa using hi)
  rw [List.getElem_map, encE_eq] at hl
  simp only [RepL, Rep] at hl
  obtain ⟨⟨c0, h0, rfl⟩, ⟨c1, h1, rfl⟩, ⟨c2, h2, r2⟩, _⟩ := hl
  have r3 : Rep G w (kidsD l[i].kids) c2 := r2
  obtain ⟨ca, cc, rfl, _⟩ := kids_form r3
  exact ⟨b, off, ca, cc, ha, hlt, h0, h1, h2, r3⟩

/- a value that is an expression -/
def ExV (G : List Nat) (w : World) (e : Ex) (v : Value) : Prop := ∃ a cap, v = .agg #[.int .i64 e.op, .int .i64 e.num, .slice a e.kids.length cap] ∧ Rep G w (kidsD e.kids) (.slice a e.kids.length cap)
theorem ExV.keep {G : List Nat} {w w' : World} {e : Ex} {v : Value} {M : List Nat} (h : ExV G w e v) (hk : Keep M w w') (hM : ∀ m, m ∈ M → m ∈ G ∨ w.heap.size ≤ m) : ExV G w' e v := by
  obtain ⟨a, cap, hv, hr⟩ := h
  exact ⟨a, cap, hv, hr.keep hk hM⟩
theorem ExV.keep0 {G : List Nat} {w w' : World} {e : Ex} {v : Value} (h : ExV G w e v) (hk : Keep [] w w') : ExV G w' e v := h.keep hk fun _ hm => by cases hm
theorem ExV.sub {G G' : List Nat} {w : World} {e : Ex} {v : Value} (h : ExV G w e v) (hs : ∀ g, g ∈ G' → g ∈ G ∨ w.heap.size ≤ g) : ExV G' w e v := by
  obtain ⟨a, cap, hv, hr⟩ := h
  exact ⟨a, cap, hv, hr.sub hs⟩
theorem ExV.repC {G : List Nat} {w : World} {e : Ex} {v : Value} (h : ExV G w e v) : ∃ a cap, v = .agg #[.int .i64 e.op, .int .i64 e.num, .slice a e.kids.length cap] ∧ RepC G w (encE e) [.int .i64 e.op, .int .i64 e.num, .slice a e.kids.length cap] := by
  obtain ⟨a, cap, hv, hr⟩ := h
  exact ⟨a, cap, hv, by rw [encE_eq]; exact ⟨rfl, rfl, hr, trivial⟩⟩
def ExK (G : List Nat) (w : World) (x : Ex) (e : Ending) (w' : World) : Prop := ∃ v, e = .returned v ∧ Keep [] w w' ∧ ExV G w' x v

set_option maxHeartbeats 400000 in
theorem integer_any (G : List Nat) (n : Int) (w : World) :
    Calls Tryd.prog 40 #[.int .i64 n] w (ExK G w (.mk 0 n [])) := by
  go_enter Tryd.func40, Tryd.ntmps40
  go_wp2
  refine bodyPost_ret (v := .agg #[.int .i64 0, .int .i64 n, .slice (some ⟨w.heap.size + 1, 0, none⟩) 0 0]) (by simp [results, Tryd.results40, go_sem]) rfl ⟨_, rfl, ?_, _, _, rfl, Rep.nil _ _ _ _ _ (by omega)⟩
  exact ((Keep.refl _ _).alloc _).alloc _
set_option maxHeartbeats 400000 in
theorem variable_any (G : List Nat) (n : Int) (w : World) :
    Calls Tryd.prog 61 #[.int .i64 n] w (ExK G w (.mk 12 n [])) := by
  go_enter Tryd.func61, Tryd.ntmps61
  go_wp2
  refine bodyPost_ret (v := .agg #[.int .i64 12, .int .i64 n, .slice (some ⟨w.heap.size + 1, 0, none⟩) 0 0]) (by simp [results, Tryd.results61, go_sem]) rfl ⟨_, rfl, ?_, _, _, rfl, Rep.nil _ _ _ _ _ (by omega)⟩
  exact ((Keep.refl _ _).alloc _).alloc _
set_option maxHeartbeats 400000 in
theorem node_any {G : List Nat} (op num : Int) (v : Value) (l : List Ex) (w : World) (h : Rep G w (kidsD l) v) :
    Calls Tryd.prog 58 #[.int .i64 op, .int .i64 num, v] w (ExK G w (.mk op num l)) := by
  have H := Lib.hid h
  obtain ⟨a, cap, rfl, _, _⟩ := kids_form h
  clear h
  go_enter Tryd.func58, Tryd.ntmps58
  go_wp2
  refine bodyPost_ret (v := .agg #[.int .i64 op, .int .i64 num, .slice a l.length cap]) (by simp [results, Tryd.results58, go_sem]) rfl ⟨_, rfl, (Keep.refl _ _).alloc _, _, _, rfl, H.out.alloc _⟩

def clampF (n : Int) : Int := max (-999) (min 999 n)
theorem clampF_range (n : Int) : -999 ≤ clampF n ∧ clampF n ≤ 999 := by unfold clampF; omega
set_option maxHeartbeats 400000 in
theorem clamp_any (n : Int) (w : World) :
    Calls Tryd.prog 81 #[.int .i64 n] w fun e w' => e = .returned (.int .i64 (clampF n)) ∧ w = w' := by
  rcases (show n < -999 ∨ (-999 ≤ n ∧ n ≤ 999) ∨ 999 < n by omega) with h | ⟨h, h'⟩ | h
  all_goals
    go_enter Tryd.func81, Tryd.ntmps81
    go_wp2
    all_goals
      go_ret
      refine ⟨ret_int ?_, rfl⟩
      unfold clampF
      first | omega | (exfalso; split at * <;> omega)

def primF (op a b : Int) : Int := if op = 1 then clampF (a + b) else if op = 2 then clampF (a - b) else if op = 3 then clampF (a * b) else if op = 4 ∧ a < b then 1 else 0
theorem primF_range (op a b : Int) : -999 ≤ primF op a b ∧ primF op a b ≤ 999 := by
  unfold primF
  have h1 := clampF_range (a + b)
  have h2 := clampF_range (a - b)
  have h3 := clampF_range (a * b)
  split
  · exact h1
  split
  · exact h2
  split
  · exact h3
  split <;> omega
theorem mul_bd {a b : Int} (a0 : -999 ≤ a) (a1 : a ≤ 999) (b0 : -999 ≤ b) (b1 : b ≤ 999) : -998001 ≤ a * b ∧ a * b ≤ 998001 := by
  constructor
  · rcases Int.le_total 0 a with ha | ha <;> rcases Int.le_total 0 b with hb | hb
    · have := Int.mul_nonneg ha hb; omega
    · have : a * (-b) ≤ 999 * 999 := Int.mul_le_mul a1 (by omega) (by omega) (by omega)
      rw [Int.mul_neg] at this; omega
    · have : (-a) * b ≤ 999 * 999 := Int.mul_le_mul (by omega) b1 hb (by omega)
      rw [Int.neg_mul] at this; omega
    · have := Int.mul_nonneg_of_nonpos_of_nonpos ha hb; omega
  · rcases Int.le_total 0 a with ha | ha <;> rcases Int.le_total 0 b with hb | hb
    · have : a * b ≤ 999 * 999 := Int.mul_le_mul a1 b1 hb (by omega)
      omega
    · have := Int.mul_nonpos_of_nonneg_of_nonpos ha hb; omega
    · have := Int.mul_nonpos_of_nonpos_of_nonneg ha hb; omega
    · have : (-a) * (-b) ≤ 999 * 999 := Int.mul_le_mul (by omega) (by omega) (by omega) (by omega)
      rw [Int.neg_mul_neg] at this; omega
set_option maxHeartbeats 400000 in
theorem prim_any (op a b : Int) (w : World) (a0 : -999 ≤ a) (a1 : a ≤ 999) (b0 : -999 ≤ b) (b1 : b ≤ 999) :
    Calls Tryd.prog 66 #[.int .i64 op, .int .i64 a, .int .i64 b] w fun e w' => e = .returned (.int .i64 (primF op a b)) ∧ w = w' := by
  obtain ⟨m0, m1⟩ := mul_bd a0 a1 b0 b1
  by_cases h1 : op = 1
  · subst h1
    go_enter Tryd.func66, Tryd.ntmps66
    go_wp2_with (go_at_call 81; refine (clamp_any _ _).mono ?_; rintro e w' ⟨rfl, rfl⟩)
    go_ret
    exact ⟨ret_int (by simp [primF]), rfl⟩
  have g1 : (op == 1) = false := by simpa using h1
  by_cases h2 : op = 2
  · subst h2
    go_enter Tryd.func66, Tryd.ntmps66
    go_wp2_with (go_at_call 81; refine (clamp_any _ _).mono ?_; rintro e w' ⟨rfl, rfl⟩)
    go_ret
    exact ⟨ret_int (by simp [primF]), rfl⟩
  have g2 : (op == 2) = false := by simpa using h2
  by_cases h3 : op = 3
  · subst h3
    go_enter Tryd.func66, Tryd.ntmps66
    go_wp2_with (go_at_call 81; refine (clamp_any _ _).mono ?_; rintro e w' ⟨rfl, rfl⟩)
    go_ret
    exact ⟨ret_int (by simp [primF]), rfl⟩
  have g3 : (op == 3) = false := by simpa using h3
  have hp : primF op a b = if op = 4 ∧ a < b then 1 else 0 := by unfold primF; rw [if_neg h1, if_neg h2, if_neg h3]
  by_cases h4 : op = 4
  · subst h4
    by_cases hab : a < b
    · rw [if_pos ⟨rfl, hab⟩] at hp
      rw [hp]
      clear hp h1 h2 h3
      go_enter Tryd.func66, Tryd.ntmps66
      go_wp2
      go_ret
      exact ⟨rfl, rfl⟩
    · rw [if_neg (fun h => hab h.2)] at hp
      rw [hp]
      clear hp h1 h2 h3
      go_enter Tryd.func66, Tryd.ntmps66
      go_wp2
      go_ret
      exact ⟨rfl, rfl⟩
  · have g4 : (op == 4) = false := by simpa using h4
    rw [if_neg (fun h => h4 h.1)] at hp
    rw [hp]
    clear hp h1 h2 h3 h4
    go_enter Tryd.func66, Tryd.ntmps66
    go_wp2
    go_ret
    exact ⟨rfl, rfl⟩

/- the number of nodes, against a budget -/
mutual
def nleft : Ex → Int → Int
  | .mk _ _ kids, left => if left < 1 then -1 else nleftL kids (left - 1)
def nleftL : List Ex → Int → Int
  | [], left => left
  | e :: es, left => if nleft e left < 0 then -1 else nleftL es (nleft e left)
end
mutual
theorem nleft_range : ∀ (e : Ex) (left : Int), -1 ≤ nleft e left ∧ (0 ≤ left → nleft e left ≤ left)
  | .mk _ _ kids, left => by
    rw [nleft]
    split
    · omega
    · have := nleftL_range kids (left - 1) (by omega)
      omega
theorem nleftL_range : ∀ (es : List Ex) (left : Int), 0 ≤ left → -1 ≤ nleftL es left ∧ nleftL es left ≤ left
  | [], left, h => by rw [nleftL]; omega
  | e :: es, left, h => by
    rw [nleftL]
    have h1 := nleft_range e left
    split
    · omega
    · have := nleftL_range es (nleft e left) (by omega)
      omega
end
theorem nleftL_cons {l : List Ex} {k : Nat} (hk : k < l.length) (left : Int) : nleftL (l.drop k) left = if nleft l[k] left < 0 then -1 else nleftL (l.drop (k + 1)) (nleft l[k] left) := by
  rw [List.drop_eq_getElem_cons hk, nleftL]
mutual
def esz : Ex → Nat
  | .mk _ _ kids => 1 + eszL kids
def eszL : List Ex → Nat
  | [] => 0
  | e :: es => esz e + eszL es
end
theorem eszL_at : ∀ {l : List Ex} {k : Nat} (hk : k < l.length), esz l[k] ≤ eszL l
  | [], k, hk => by simp at hk
  | e :: es, 0, _ => by simp only [List.getElem_cons_zero, eszL]; omega
  | e :: es, k + 1, hk => by
    have := eszL_at (l := es) (k := k) (by simpa using hk)
    simp only [List.getElem_cons_succ, eszL]
    omega
theorem esz_kid {e : Ex} {k : Nat} (hk : k < e.kids.length) : esz e.kids[k] < esz e := by
  cases e with
  | mk o n kids =>
    have h1 := eszL_at (l := kids) (k := k) hk
    rw [esz]
    show esz kids[k] < _
    omega

set_option maxHeartbeats 800000 in
theorem nodesLeft_any (N : Nat) : ∀ (G : List Nat) (e : Ex), esz e < N → ∀ (v : Value) (left : Int) (w : World), ExV G w e v → 0 ≤ left → left ≤ 1000000 →
    Calls Tryd.prog 63 #[v, .int .i64 left] w fun en w' => en = .returned (.int .i64 (nleft e left)) ∧ Keep [] w w' := by
  induction N with
  | zero => intro G e h; omega
  | succ N ih =>
    intro G e hN v left w hv h0 h1
    have IH := Lib.hid ih
    obtain ⟨a, cap, rfl, hr⟩ := hv
    have HR := Lib.hid hr
    obtain ⟨_, _, hv2, hl, hc⟩ := kids_form hr
    injection hv2 with hv3 hv4 hv5
    subst hv3 hv5
    clear ih hr hv4
    by_cases hlt1 : left < 1
    · have he : nleft e left = -1 := by cases e; rw [nleft, if_pos hlt1]
      rw [he]
      clear he
      go_enter Tryd.func63, Tryd.ntmps63
      go_wp2
      go_ret
      exact ⟨rfl, (Keep.refl _ _).alloc _⟩
    · have he : nleft e left = nleftL e.kids (left - 1) := by cases e; rw [nleft, if_neg hlt1]; rfl
      have HE := Lib.hid he
      clear he
      go_enter Tryd.func63, Tryd.ntmps63
      go_wp2
      go_loopw [1, 5] (fun lf i wr => ∃ (k : Nat) (q : Int), k ≤ e.kids.length ∧ i = .int .i64 k ∧ lf = .int .i64 q ∧ 0 ≤ q ∧ q ≤ left ∧ nleftL (e.kids.drop k) q = nleft e left ∧
          Keep [] (w.alloc (.cells #[.int .i64 e.op, .int .i64 e.num, .slice a e.kids.length cap] 55)) wr) (fun _ i _ => e.kids.length - (intOf i).toNat)
      case atStart => exact ⟨0, left - 1, Nat.zero_le _, rfl, rfl, by omega, by omega, by rw [HE.out]; rfl, Keep.refl _ _⟩
      case round =>
        obtain ⟨k, q, hk, rfl, rfl, q0, q1, hq, hkp⟩ := hrel
        have HQ := Lib.hid hq
        have HK := Lib.hid hkp
        have hbx : wr.cell? ⟨w.heap.size, 2, none⟩ = some (.slice a e.kids.length cap) := (hkp.cell (p := ⟨w.heap.size, 2, none⟩) (by simp) (by simp)).trans (by go_simp)
        clear hq hkp
        by_cases hlt : k < e.kids.length
        · have hrw : Rep G wr (kidsD e.kids) (.slice a e.kids.length cap) := (HR.out.alloc _).keep0 HK.out
          obtain ⟨b, off, ca, cc, rfl, hb, c0, c1, c2, rk⟩ := kids_at hrw hlt
          have RK := Lib.hid rk
          have hst := Lib.hid (nleftL_cons hlt q)
          obtain ⟨n0, n1⟩ := nleft_range e.kids[k] q
          have n2 := n1 q0
          have hsz := Lib.hid (esz_kid hlt)
          clear hrw rk n1
          cases hneg : decide (nleft e.kids[k] q < 0)
          · have hge : 0 ≤ nleft e.kids[k] q := by simpa using hneg
            go_wp2_with (go_at_call 63; refine (IH.out G e.kids[k] (by have := hsz.out; omega) _ q _ ⟨_, _, rfl, RK.out⟩ (by omega) (by omega)).mono ?_; rintro en w1 ⟨rfl, hk1⟩; have HK1 := Lib.hid hk1; clear hk1)
            go_roundw
            case rel => exact ⟨k + 1, nleft e.kids[k] q, by omega, by go_num, rfl, by omega, by omega, by rw [← HQ.out, hst.out, if_neg (by omega)], HK.out.then0 HK1.out⟩
            case measure => simp [intOf]; omega
          · have hge : nleft e.kids[k] q < 0 := by simpa using hneg
            go_wp2_with (go_at_call 63; refine (IH.out G e.kids[k] (by have := hsz.out; omega) _ q _ ⟨_, _, rfl, RK.out⟩ (by omega) (by omega)).mono ?_; rintro en w1 ⟨rfl, hk1⟩; have HK1 := Lib.hid hk1; clear hk1)
            go_ret
            exact ⟨ret_int (by rw [← HQ.out, hst.out, if_pos hge]), ((Keep.refl _ _).alloc _).then0 (HK.out.then0 HK1.out)⟩
        · go_wp2
          go_ret
          refine ⟨ret_int ?_, ((Keep.refl _ _).alloc _).then0 HK.out⟩
          rw [← HQ.out, List.drop_of_length_le (by omega), nleftL]

def nodesF (e : Ex) : Int := if nleft e 30 < 0 then -1 else 30 - nleft e 30
set_option maxHeartbeats 400000 in
theorem nodesOf_any {G : List Nat} (e : Ex) (v : Value) (w : World) (hv : ExV G w e v) :
    Calls Tryd.prog 46 #[v] w fun en w' => en = .returned (.int .i64 (nodesF e)) ∧ Keep [] w w' := by
  have HV := Lib.hid hv
  obtain ⟨a, cap, rfl, _⟩ := hv
  obtain ⟨n0, n1⟩ := nleft_range e 30
  have n2 := n1 (by omega)
  clear n1
  by_cases hn : nleft e 30 < 0
  · have hf := Lib.hid (show nodesF e = -1 from if_pos hn)
    go_enter Tryd.func46, Tryd.ntmps46
    go_wp2_with (go_at_call 63; refine (nodesLeft_any _ G e (Nat.lt_succ_self _) _ 30 _ (HV.out.keep0 ((Keep.refl _ _).alloc _)) (by omega) (by omega)).mono ?_; rintro en w1 ⟨rfl, hk1⟩; have HK1 := Lib.hid hk1; clear hk1)
    go_ret
    exact ⟨ret_int hf.out.symm, ((Keep.refl _ _).alloc _).then0 HK1.out⟩
  · have hf := Lib.hid (show nodesF e = 30 - nleft e 30 from if_neg hn)
    go_enter Tryd.func46, Tryd.ntmps46
    go_wp2_with (go_at_call 63; refine (nodesLeft_any _ G e (Nat.lt_succ_self _) _ 30 _ (HV.out.keep0 ((Keep.refl _ _).alloc _)) (by omega) (by omega)).mono ?_; rintro en w1 ⟨rfl, hk1⟩; have HK1 := Lib.hid hk1; clear hk1)
    go_ret
    exact ⟨ret_int hf.out.symm, ((Keep.refl _ _).alloc _).then0 HK1.out⟩
end Go.Proofs.YtnjincgemmgllaaDoor
