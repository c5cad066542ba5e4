/- Plain facts for the generator's larger functions: slices of two and three expressions, what constructors and arrows there are. No walk here. -/
import Derived.Test.YtnjincgemmgllaaDoorGenG
namespace Go.Proofs.YtnjincgemmgllaaDoor
open Go.RowKit

theorem kids_new2 {G : List Nat} {w : World} {x y : Ex} {ax ay : Option Addr} {cx cy : Nat} {E : TypeId} (h1 : Rep G w (kidsD x.kids) (.slice ax x.kids.length cx)) (h2 : Rep G w (kidsD y.kids) (.slice ay y.kids.length cy)) (hG : ∀ g, g ∈ G → g < w.heap.size) :
    Rep G (w.alloc (.cells #[.int .i64 x.op, .int .i64 x.num, .slice ax x.kids.length cx, .int .i64 y.op, .int .i64 y.num, .slice ay y.kids.length cy] E)) (kidsD [x, y]) (.slice (some ⟨w.heap.size, 0, none⟩) 2 2) :=
  Rep.new (es := [encE x, encE y]) (fun e he => by simp at he; rcases he with rfl | rfl <;> exact encE_len _) (by rw [encE_eq, encE_eq]; exact ⟨rfl, rfl, h1, rfl, rfl, h2, trivial⟩) hG (by simp)
theorem kids_new3 {G : List Nat} {w : World} {x y z : Ex} {ax ay az : Option Addr} {cx cy cz : Nat} {E : TypeId} (h1 : Rep G w (kidsD x.kids) (.slice ax x.kids.length cx)) (h2 : Rep G w (kidsD y.kids) (.slice ay y.kids.length cy)) (h3 : Rep G w (kidsD z.kids) (.slice az z.kids.length cz)) (hG : ∀ g, g ∈ G → g < w.heap.size) :
    Rep G (w.alloc (.cells #[.int .i64 x.op, .int .i64 x.num, .slice ax x.kids.length cx, .int .i64 y.op, .int .i64 y.num, .slice ay y.kids.length cy, .int .i64 z.op, .int .i64 z.num, .slice az z.kids.length cz] E)) (kidsD [x, y, z]) (.slice (some ⟨w.heap.size, 0, none⟩) 3 3) :=
  Rep.new (es := [encE x, encE y, encE z]) (fun e he => by simp at he; rcases he with rfl | rfl | rfl <;> exact encE_len _) (by rw [encE_eq, encE_eq, encE_eq]; exact ⟨rfl, rfl, h1, rfl, rfl, h2, rfl, rfl, h3, trivial⟩) hG (by simp)
theorem kids_new1 {G : List Nat} {w : World} {x : Ex} {ax : Option Addr} {cx : Nat} {E : TypeId} (h1 : Rep G w (kidsD x.kids) (.slice ax x.kids.length cx)) (hG : ∀ g, g ∈ G → g < w.heap.size) :
    Rep G (w.alloc (.cells #[.int .i64 x.op, .int .i64 x.num, .slice ax x.kids.length cx] E)) (kidsD [x]) (.slice (some ⟨w.heap.size, 0, none⟩) 1 1) := ex_new h1 hG

def base (u : Int) : Prop := u = 0 ∨ u = 1 ∨ u = 3
theorem base_flat {l : List Dc} (hl : GD l) {u : Int} (h : base u) : isArr l u = false := by
  rcases h with rfl | rfl | rfl
  · exact hl.a0
  · exact hl.a1
  · exact hl.a3
theorem base_in {l : List Dc} (hl : GD l) {u : Int} (h : base u) : 0 ≤ u ∧ u ≤ l.length := by have := hl.len; rcases h with rfl | rfl | rfl <;> omega
theorem base_can {l : List Dc} (hl : GD l) {sg : List Sg} {u : Int} (vs : List Int) (h : base u) : 0 ≤ u ∧ u ≤ l.length ∧ canB l sg vs u = true := ⟨(base_in hl h).1, (base_in hl h).2, canB_flat vs (base_flat hl h)⟩
/- a constructor of a type -/
structure ConT (l : List Dc) (t c : Int) : Prop where
  ty : ctyp l c = t
  len : (cflds l c).length ≤ 3
  flds : ∀ u ∈ cflds l c, base u
theorem con_of {l : List Dc} (hl : GD l) {t : Int} (t0 : 0 ≤ t) (t1 : t ≤ l.length) {c : Int} (h : c ∈ consL l t) : ConT l t c := by
  have ht : t = 0 ∨ t = 1 ∨ t = 2 ∨ t = 3 ∨ t = 4 := by have := hl.len; omega
  rcases ht with rfl | rfl | rfl | rfl | rfl
  · rw [hl.c0] at h; simp at h
  · rw [hl.c1] at h; simp at h
    rcases h with rfl | rfl
    · exact ⟨hl.t0, by simp [hl.f0], by simp [hl.f0]⟩
    · exact ⟨hl.t1, by simp [hl.f1], by simp [hl.f1, base]⟩
  · rw [hl.c2] at h; simp at h
  · rw [hl.c3] at h; simp at h
    rcases h with rfl | rfl
    · exact ⟨hl.t2, by simp [hl.f2], by simp [hl.f2]⟩
    · exact ⟨hl.t3, by simp [hl.f3], by simp [hl.f3, base]⟩
  · rcases hl.four with ⟨h3, _⟩ | ⟨_, h4⟩
    · omega
    · rcases h4 with ⟨c4, _, f4, t4⟩ | ⟨c4, _, f4, f5, f6, t4, t5, t6⟩ | ⟨c4, _⟩
      · rw [c4] at h; simp at h; subst h
        exact ⟨t4, by simp [f4], by simp [f4, base]⟩
      · rw [c4] at h; simp at h
        rcases h with rfl | rfl | rfl
        · exact ⟨t4, by simp [f4], by simp [f4, base]⟩
        · exact ⟨t5, by simp [f5], by simp [f5, base]⟩
        · exact ⟨t6, by simp [f6], by simp [f6, base]⟩
      · rw [c4] at h; simp at h
theorem arr_of {l : List Dc} (hl : GD l) {a : Int} (h : isArr l a = true) : 1 ≤ a ∧ a ≤ l.length ∧ base (dat l (a - 1).toNat).fr ∧ base (dat l (a - 1).toNat).to := by
  have hin : inB 1 a l.length = true := by
    unfold isArr at h
    cases hh : inB 1 a l.length
    · rw [hh] at h; simp at h
    · rfl
  obtain ⟨a0, a1⟩ := inB_of hin
  refine ⟨a0, a1, ?_⟩
  have ha : a = 1 ∨ a = 2 ∨ a = 3 ∨ a = 4 := by have := hl.len; omega
  rcases ha with rfl | rfl | rfl | rfl
  · rw [hl.a1] at h; cases h
  · have e := hl.r2
    rw [show ((2 : Int) - 1).toNat = 1 from rfl, e.1, e.2]
    exact ⟨.inl rfl, .inl rfl⟩
  · rw [hl.a3] at h; cases h
  · rw [show ((4 : Int) - 1).toNat = 3 from rfl]
    rcases hl.four with ⟨h3, _⟩ | ⟨_, h4⟩
    · omega
    · rcases h4 with ⟨_, a4, _⟩ | ⟨_, a4, _⟩ | ⟨_, _, e⟩
      · rw [a4] at h; cases h
      · rw [a4] at h; cases h
      · rcases e with ⟨e1, e2⟩ | ⟨e1, e2⟩ <;> rw [e1, e2]
        · exact ⟨.inr (.inl rfl), .inl rfl⟩
        · exact ⟨.inl rfl, .inr (.inl rfl)⟩
theorem cons_len {l : List Dc} (hl : GD l) {t : Int} (t0 : 0 ≤ t) (t1 : t ≤ l.length) : (consL l t).length ≤ 3 := by
  have ht : t = 0 ∨ t = 1 ∨ t = 2 ∨ t = 3 ∨ t = 4 := by have := hl.len; omega
  rcases ht with rfl | rfl | rfl | rfl | rfl
  · simp [hl.c0]
  · simp [hl.c1]
  · simp [hl.c2]
  · simp [hl.c3]
  · rcases hl.four with ⟨h3, _⟩ | ⟨_, h4⟩
    · omega
    · rcases h4 with ⟨c4, _⟩ | ⟨c4, _⟩ | ⟨c4, _⟩ <;> simp [c4]
theorem decls_cell {G : List Nat} {w : World} {l : List Dc} {b off n cap : Nat} (h : Rep G w (decls l) (.slice (some ⟨b, off, none⟩) n cap)) {i : Nat} (hi : i < l.length) : w.cell? ⟨b, off + i * 3, none⟩ = some (.int .i64 l[i].fr) ∧ w.cell? ⟨b, off + i * 3 + 1, none⟩ = some (.int .i64 l[i].to) := by
  obtain ⟨b', off', _, _, ha, _, h0, h1, _⟩ := decls_at h hi
  injection ha with ha
  injection ha with h2 h3
  subst h2 h3
  exact ⟨h0, h1⟩
theorem half_in {b : Int} (hb : 3 ≤ b) : 0 ≤ b.tdiv 2 ∧ b.tdiv 2 ≤ b - 1 := by
  rw [Int.tdiv_eq_ediv_of_nonneg (by omega)]
  omega
theorem kidsAt_mono {P Q : Int → Ex → Prop} {ts : List Int} {k : Nat} {ks : List Ex} (h : KidsAt P ts k ks) (hpq : ∀ t x, P t x → Q t x) : KidsAt Q ts k ks := ⟨h.1, fun i h1 h2 => hpq _ _ (h.2 i h1 h2)⟩
theorem kids1 {P : Int → Ex → Prop} {a : Int} {ks : List Ex} (h : KidsAt P [a] 1 ks) : ∃ x, ks = [x] ∧ P a x := by
  obtain ⟨h1, h2⟩ := h
  match ks, h1, h2 with
  | [x], _, h2 => exact ⟨x, rfl, h2 0 (by simp) (by simp)⟩
theorem kids2 {P : Int → Ex → Prop} {a b : Int} {ks : List Ex} (h : KidsAt P [a, b] 2 ks) : ∃ x y, ks = [x, y] ∧ P a x ∧ P b y := by
  obtain ⟨h1, h2⟩ := h
  match ks, h1, h2 with
  | [x, y], _, h2 => exact ⟨x, y, rfl, h2 0 (by simp) (by simp), h2 1 (by simp) (by simp)⟩
theorem kids3 {P : Int → Ex → Prop} {a b c : Int} {ks : List Ex} (h : KidsAt P [a, b, c] 3 ks) : ∃ x y z, ks = [x, y, z] ∧ P a x ∧ P b y ∧ P c z := by
  obtain ⟨h1, h2⟩ := h
  match ks, h1, h2 with
  | [x, y, z], _, h2 => exact ⟨x, y, z, rfl, h2 0 (by simp) (by simp), h2 1 (by simp) (by simp), h2 2 (by simp) (by simp)⟩
end Go.Proofs.YtnjincgemmgllaaDoor
