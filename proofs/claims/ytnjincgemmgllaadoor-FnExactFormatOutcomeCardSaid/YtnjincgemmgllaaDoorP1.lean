/- FnExactFormatOutcome: for every outcome, the program's FormatOutcome and the reference's return the same text, and the argument reads as before. Condition: the library's listed tables hold what the program's text lays (the card ties this). -/
import Derived.Test.YtnjincgemmgllaaDoorCards
import Derived.Test.YtnjincgemmgllaaDoorTie
import Derived.Test.YtnjincgemmgllaaDoorW6
import Derived.ProofKit
import Derived.OpenShut
import Derived.Deep.DeepHandedRow
import Derived.Lib.LaidTab
import Derived.Lib.SmallJoins
import Derived.LaidSub
import Derived.Lay
namespace Go.Proofs.YtnjincgemmgllaaDoor.exactFO
open Go.ChangeShapes Go.WideShapes Go.ChangeAt Go.RowKit Go.Joins Go.WideElems

theorem own : ownKnob Tryd.prog.godebug = none := by kernel_rfl
theorem laidOut : laidOutB Tryd.prog = true := by kernel_rfl
theorem cells24 : Tryd.prog.cellsOf 24 = 4 := by kernel_rfl
theorem cells3 : Tryd.prog.cellsOf 3 = 1 := by kernel_rfl
theorem gTabType : (Tryd.prog.globals[0]?).map (·.type) = some 115 := by kernel_rfl
theorem cellsT : Tryd.prog.cellsOf 115 = 20 := by kernel_rfl
theorem cellsU : Tryd.prog.cellsOf 98 = 1 := by kernel_rfl

theorem keep3 : (Rows.fnExactFormatOutcomeRow.laid.filter fun x => x.1 == "internal/strconv.uint64pow10") = [("internal/strconv.uint64pow10", Lib.tabData .u64 Lib.pow10Tab)] := by kernel_rfl
theorem table {W : World} (h : laidMetH Tryd.prog Rows.fnExactFormatOutcomeRow.laid W) : Tab W := by
  have h1 : laidMet Tryd.prog Rows.fnExactFormatOutcomeRow.laid W := h
  have h2 := h1.filter fun x => x.1 == "internal/strconv.uint64pow10"
  rw [keep3] at h2
  exact Lib.tabIs_of_head (rest := []) gTab gTabType Tryd.underlying115 Tryd.underlying98 cellsU cellsT h2

set_option maxRecDepth 100000 in
theorem contract (H : Type) (enc : TypeId × Value → H) (W : World) (base : Nat) (args : Array Value) (ds gs : List (DataW H)) (before : List MemPlace)
    (hval : ∀ (j : Nat) t v, Tryd.f3.params[j]? = some t → args[j]? = some v → Value.okWide Tryd.prog W .any base t v)
    (hW : DataW.Whole enc Tryd.prog Tryd.f3.params.toList Rows.fnExactFormatOutcomeSpec.vars false W args.toList ds gs before) (hL : laidMetH Tryd.prog Rows.fnExactFormatOutcomeRow.laid W) (h0 : 0 < W.heap.size) :
    Calls Tryd.prog 3 args W fun e W' => ∃ v, e = .returned v ∧ Rows.fnExactFormatOutcomeSpec.post enc Tryd.prog Tryd.f3 false true false false W args v W' := by
  have hW' := hW
  obtain ⟨p, q, hA0, hV, rfl, hfz, hnd⟩ := hW
  have hA : DataW.TrodAll enc Tryd.prog W 0 (fun _ => true) true Tryd.f3.params.toList args.toList ds p := hA0
  rw [Tryd.params3] at hA hval
  obtain ⟨v0, vs0, d0, ds0, p0, q0, hargs, rfl, rfl, h0', r0⟩ := trodAll_cons hA
  obtain ⟨rfl, rfl, rfl⟩ := trodAll_nil r0
  obtain rfl : args = #[v0] := by cases args; simp_all
  obtain ⟨rfl, rfl⟩ := trodVars_none hV
  have hkeep := h0'
  obtain ⟨c0, c1, c2, c3, y0, y1, y2, y3, m, rfl, hd, hp, hy0, hy1, hy2, hy3⟩ := open_agg4 Tryd.underlying24 (by kernel_rfl) cells24 (hval 0 24 v0 rfl rfl) h0'
  obtain ⟨st, e0, _, _⟩ := DataW.trod_int Tryd.underlying3 hy0
  obtain ⟨va, e1, _, _⟩ := DataW.trod_int Tryd.underlying3 hy1
  obtain ⟨ca, e2, _, _⟩ := DataW.trod_int Tryd.underlying3 hy2
  simp at e0 e1 e2
  subst e0 e1 e2
  have hints : ∃ zs, Ints 0 W c3 zs := by
    rcases open_ints Tryd.underlying22 Tryd.underlying3 cells3 hy3 with ⟨hcs, _⟩ | ⟨a, len, cap, zs, hcs, _, hl, hm, hz, _, hcell, _⟩
    · simp at hcs
      subst hcs
      exact ⟨[], none, 0, 0, rfl, rfl, Nat.le_refl _, by omega, fun k hk => by simp at hk⟩
    · simp at hcs
      subst hcs
      simp at hz
      refine ⟨zs.take len, some a, len, cap, rfl, by simp; omega, hl, by unfold maxLen at hm; omega, fun k hk => ?_⟩
      have hk' : k < len := by simp at hk; omega
      have hc0 := hcell 0 (by omega)
      have hck := hcell k (by omega)
      obtain ⟨b, off, sp⟩ := a
      have hsp : sp = none := by
        cases sp with
        | none => rfl
        | some x => simp [World.cell?, Addr.add] at hc0; split at hc0 <;> simp at hc0
      subst hsp
      rw [Addr.add_lit] at hck
      refine ⟨b, off, rfl, World.block_lt_of_cell? W _ hck, Nat.zero_le _, ?_⟩
      rw [hck]
      simp [List.getD, List.getElem?_eq_getElem (show k < zs.length by omega)]
  obtain ⟨zs, hz⟩ := hints
  clear hA0
  simp only [List.append_nil] at hW'
  refine (law_any st va ca c3 zs W hz (table hL) h0).mono fun e W' ⟨he, hb⟩ => ?_
  subst he
  have hlt : ∀ x ∈ p0, x.block < W.heap.size := fun x hx => hW'.lt x (by simpa using hx)
  have hback := Below.trod laidOut (by kernel_rfl) (of_decide_eq_true (by kernel_rfl)) hkeep hb hlt
  refine ⟨_, rfl, _, _, _, [], p0, [], hW', ?_, ?_, ?_, hb.frame _, fun h => by cases h⟩
  · exact trodAll_cons_mk (shut_bool Tryd.underlying4 _) trodAll_mk0
  · have h9 := trodAll_cons_mk hback trodAll_mk0
    rw [List.append_nil] at h9
    rw [Tryd.params3]
    exact h9
  · rfl

noncomputable def lw (os : Os) : World := World.laidAll Tryd.prog os Rows.fnExactFormatOutcomeRow.laid
def arg0 : Value := .agg #[.int .i64 0, .int .i64 0, .int .i64 0, .slice none 0 0]
theorem laid_met (os : Os) : laidMet Tryd.prog Rows.fnExactFormatOutcomeRow.laid ((lw os).forCall (fun _ _ => 0) ⟨#[], #[arg0], []⟩).memory :=
  laidMet_laidAll _ (by kernel_rfl) (by kernel_rfl)
theorem reads (os : Os) {H : Type} (enc : TypeId × Value → H) : ∃ places, DataW.whole enc Tryd.prog ((lw os).forCall (fun _ _ => 0) ⟨#[], #[arg0], []⟩).memory Tryd.f3.params.toList Rows.fnExactFormatOutcomeSpec.vars false #[arg0].toList 8 = some ([.agg [.lit (.int .i64 0), .lit (.int .i64 0), .lit (.int .i64 0), .nil]], [], places) :=
  ⟨[], by kernel_rfl⟩

set_option maxRecDepth 100000 in
theorem lifted (os : Os) (started : os.Started) (H : Type) (enc : TypeId × Value → H) (F : Stop.Interp) :
    ReturnsInHanded {} Tryd.checked os 3 .any ((OpenSpec.ofChange Rows.fnExactFormatOutcomeSpec).preRow enc Tryd.prog Tryd.f3 Rows.fnExactFormatOutcomeRow.domain false Rows.fnExactFormatOutcomeRow.laid) (((OpenSpec.ofChange Rows.fnExactFormatOutcomeSpec).at F).post enc Tryd.prog Tryd.f3 false true false false) := by
  obtain ⟨places, hx⟩ := reads os enc
  refine returnsInHanded_of_row (C := Tryd.checked) (s := OpenSpec.ofChange Rows.fnExactFormatOutcomeSpec) own started (by kernel_rfl) Tryd.func3
    (witness_row_at (enc := enc) (C := Tryd.checked) false (lw os) #[arg0] rfl (by kernel_rfl) (by kernel_rfl) (by kernel_rfl)
      (OpenSpec.preRow_of_cond 8 hx (by kernel_rfl) (fun k hk => by cases hk) (by kernel_rfl) (laid_met os))) ?_
  intro W base args ds gs before hval hW _ _ _ hL _ _
  refine contract H enc W base args ds gs before hval hW hL ?_
  have ht := table hL
  unfold Tab Lib.TabIs World.var? at ht
  rw [gTab] at ht
  rcases Nat.lt_or_ge 0 W.heap.size with h | h
  · exact h
  · have hz : W.heap[0]? = none := Array.getElem?_eq_none h
    simp [hz] at ht

theorem said : Rows.FnExactFormatOutcomeSaid :=
  OpenClaim.holds_of_cond 3 Tryd.f3 rfl rfl rfl rfl rfl rfl rfl ⟨rfl, rfl, rfl, rfl, rfl⟩ rfl rfl rfl rfl rfl (by kernel_rfl) Tryd.func3 (by kernel_rfl)
    (of_decide_eq_true (by kernel_rfl)) (by unfold Func.isWrapper; first | (rw [if_pos (by decide +kernel)]; kernel_rfl) | (rw [if_neg (by decide +kernel)]; exact ⟨rfl, rfl⟩))
    (fun os started H enc _ F => by rw [OpenClaim.pre_eq_preRow]; exact lifted os started H enc F)

theorem plain (f : FuncId) (fn : Func) (hf : Tryd.pinned.checked.prog.funcNamed "loop.example/refcountml/laws.FnExactFormatOutcome" = some f) (hfn : Tryd.pinned.checked.prog.funcs[f]? = some fn) :
    false = Tryd.pinned.checked.prog.looks [] ∧ ∀ (j : Nat) t, fn.params[j]? = some t → Tryd.pinned.checked.prog.wantsStandIn t = false := by
  obtain rfl : f = 3 := Option.some.inj ((show Tryd.prog.funcNamed "loop.example/refcountml/laws.FnExactFormatOutcome" = some 3 by kernel_rfl).symm.trans hf) |>.symm
  obtain rfl : fn = Tryd.f3 := (Option.some.inj (Tryd.func3.symm.trans hfn)).symm
  refine ⟨by kernel_rfl, fun j t ht => ?_⟩
  rw [Tryd.params3] at ht
  obtain rfl : t = 24 := by simpa using Array.mem_of_getElem? ht
  exact (show Tryd.prog.wantsStandIn 24 = false by kernel_rfl)

theorem card : Rows.FnExactFormatOutcomeCardSaid :=
  Claim7.holds_tied_plain_at .later [] _ _ _ _ said (fun _ h => by cases h) (by kernel_rfl) (fun _ h => by cases h) fnExactFormatOutcome_row_tie rfl ⟨rfl, rfl⟩ (by kernel_rfl) rfl plain (by kernel_rfl)
end Go.Proofs.YtnjincgemmgllaaDoor.exactFO
