/- FnFormatOutcome: for every list of bytes the law returns true, and the argument reads as before. Condition: the library's listed tables hold what the program's text lays (the card ties this). -/
import Derived.Test.YtnjincgemmgllaaDoorCards
import Derived.Test.YtnjincgemmgllaaDoorTie
import Derived.Test.YtnjincgemmgllaaDoorLawFO
import Derived.ProofKit
import Derived.OpenShut
import Derived.Deep.DeepHandedRow
import Derived.Lib.LaidTab
import Derived.Lib.SmallJoins
import Derived.LaidSub
import Derived.Lay
namespace Go.Proofs.YtnjincgemmgllaaDoor.lawFO
open Go.ChangeShapes Go.WideShapes Go.ChangeAt Go.RowKit Go.Joins Go.WideElems

theorem own : ownKnob Tryd.prog.godebug = none := by kernel_rfl
theorem laidOut : laidOutB Tryd.prog = true := by kernel_rfl
theorem cells5 : Tryd.prog.cellsOf 5 = 1 := by kernel_rfl
theorem gTabType : (Tryd.prog.globals[0]?).map (·.type) = some 115 := by kernel_rfl
theorem cellsT : Tryd.prog.cellsOf 115 = 20 := by kernel_rfl
theorem cellsU : Tryd.prog.cellsOf 98 = 1 := by kernel_rfl

theorem keep3 : (Rows.fnFormatOutcomeRow.laid.filter fun x => x.1 == "internal/strconv.uint64pow10") = [("internal/strconv.uint64pow10", Lib.tabData .u64 Lib.pow10Tab)] := by kernel_rfl
theorem table {W : World} (h : laidMetH Tryd.prog Rows.fnFormatOutcomeRow.laid W) : Go.Proofs.YtnjincgemmgllaaDoor.W.Tab W := by
  have h1 : laidMet Tryd.prog Rows.fnFormatOutcomeRow.laid W := h
  have h2 := h1.filter fun x => x.1 == "internal/strconv.uint64pow10"
  rw [keep3] at h2
  exact Lib.tabIs_of_head (rest := []) Go.Proofs.YtnjincgemmgllaaDoor.W.gTab gTabType Tryd.underlying115 Tryd.underlying98 cellsU cellsT h2

set_option maxRecDepth 100000 in
theorem contract (H : Type) (enc : TypeId × Value → H) (W : World) (base : Nat) (args : Array Value) (ds gs : List (DataW H)) (before : List MemPlace)
    (hval : ∀ (j : Nat) t v, Tryd.f4.params[j]? = some t → args[j]? = some v → Value.okWide Tryd.prog W .any base t v)
    (hW : DataW.Whole enc Tryd.prog Tryd.f4.params.toList Rows.fnFormatOutcomeSpec.vars false W args.toList ds gs before) (hL : laidMetH Tryd.prog Rows.fnFormatOutcomeRow.laid W) (h0 : 0 < W.heap.size) :
    Calls Tryd.prog 4 args W fun e W' => ∃ v, e = .returned v ∧ Rows.fnFormatOutcomeSpec.post enc Tryd.prog Tryd.f4 false true false false W args v W' := by
  have hW' := hW
  obtain ⟨p, q, hA0, hV, rfl, hfz, hnd⟩ := hW
  have hA : DataW.TrodAll enc Tryd.prog W 0 (fun _ => true) true Tryd.f4.params.toList args.toList ds p := hA0
  rw [Tryd.params4] at hA hval
  obtain ⟨v0, vs0, d0, ds0, p0, q0, hargs, rfl, rfl, h0', r0⟩ := trodAll_cons hA
  obtain ⟨rfl, rfl, rfl⟩ := trodAll_nil r0
  obtain rfl : args = #[v0] := by cases args; simp_all
  obtain ⟨rfl, rfl⟩ := trodVars_none hV
  have hkeep := h0'
  obtain ⟨a, len, cap, rfl⟩ := okWide_slice Tryd.underlying31 (hval 0 31 v0 rfl rfl)
  have hbytes : BytesIn W a len ∧ len ≤ cap ∧ cap ≤ 9223372036854775807 := by
    obtain ⟨fuel, hf⟩ := h0'
    rcases open_ints Tryd.underlying31 Tryd.underlying5 cells5 hf with ⟨hcs, _⟩ | ⟨a', len', cap', zs, hcs, _, hl, hm, hz, _, hcell, hwz⟩
    · simp [Value.cells] at hcs
      obtain ⟨rfl, rfl, rfl⟩ := hcs
      exact ⟨fun j hj => by omega, by omega, by omega⟩
    · simp [Value.cells] at hcs
      obtain ⟨rfl, rfl, rfl⟩ := hcs
      simp only [if_true] at hz
      refine ⟨fun j hj => ?_, hl, by unfold maxLen at hm; omega⟩
      have hc0 := hcell 0 (by omega)
      have hck := hcell j (by omega)
      obtain ⟨b, off, sp⟩ := a'
      have hsp : sp = none := by
        cases sp with
        | none => rfl
        | some x => simp [World.cell?, Addr.add] at hc0; split at hc0 <;> simp at hc0
      subst hsp
      rw [Addr.add_lit] at hck
      have hr := range_u8 hwz j
      refine ⟨b, off, zs.getD j 0, rfl, World.block_lt_of_cell? W _ hck, ?_, ?_, hck⟩
      · simpa [List.getD] using hr.1
      · simpa [List.getD] using hr.2
  clear hA0
  simp only [List.append_nil] at hW'
  refine (lawFO_any a len cap W hbytes.1 hbytes.2.1 hbytes.2.2 (table hL) h0).mono fun e W' ⟨he, hb⟩ => ?_
  subst he
  have hlt : ∀ x ∈ p0, x.block < W.heap.size := fun x hx => hW'.lt x (by simpa using hx)
  have hback := Below.trod laidOut (by kernel_rfl) (of_decide_eq_true (by kernel_rfl)) hkeep hb hlt
  refine ⟨_, rfl, _, _, _, [], p0, [], hW', ?_, ?_, ?_, hb.frame _, fun h => by cases h⟩
  · exact trodAll_cons_mk (shut_bool Tryd.underlying4 _) trodAll_mk0
  · have h9 := trodAll_cons_mk hback trodAll_mk0
    rw [List.append_nil] at h9
    rw [Tryd.params4]
    exact h9
  · rfl

noncomputable def lw (os : Os) : World := World.laidAll Tryd.prog os Rows.fnFormatOutcomeRow.laid
def arg0 : Value := .slice none 0 0
theorem laid_met (os : Os) : laidMet Tryd.prog Rows.fnFormatOutcomeRow.laid ((lw os).forCall (fun _ _ => 0) ⟨#[], #[arg0], []⟩).memory :=
  laidMet_laidAll _ (by kernel_rfl) (by kernel_rfl)
theorem reads (os : Os) {H : Type} (enc : TypeId × Value → H) : ∃ places, DataW.whole enc Tryd.prog ((lw os).forCall (fun _ _ => 0) ⟨#[], #[arg0], []⟩).memory Tryd.f4.params.toList Rows.fnFormatOutcomeSpec.vars false #[arg0].toList 8 = some ([.nil], [], places) :=
  ⟨[], by kernel_rfl⟩

set_option maxRecDepth 100000 in
theorem lifted (os : Os) (started : os.Started) (H : Type) (enc : TypeId × Value → H) (F : Stop.Interp) :
    ReturnsInHanded {} Tryd.checked os 4 .any ((OpenSpec.ofChange Rows.fnFormatOutcomeSpec).preRow enc Tryd.prog Tryd.f4 Rows.fnFormatOutcomeRow.domain false Rows.fnFormatOutcomeRow.laid) (((OpenSpec.ofChange Rows.fnFormatOutcomeSpec).at F).post enc Tryd.prog Tryd.f4 false true false false) := by
  obtain ⟨places, hx⟩ := reads os enc
  refine returnsInHanded_of_row (C := Tryd.checked) (s := OpenSpec.ofChange Rows.fnFormatOutcomeSpec) own started (by kernel_rfl) Tryd.func4
    (witness_row_at (enc := enc) (C := Tryd.checked) false (lw os) #[arg0] rfl (by kernel_rfl) (by kernel_rfl) (by kernel_rfl)
      (OpenSpec.preRow_of_cond 8 hx (by kernel_rfl) (fun k hk => by cases hk) (by kernel_rfl) (laid_met os))) ?_
  intro W base args ds gs before hval hW _ _ _ hL _ _
  refine contract H enc W base args ds gs before hval hW hL ?_
  have ht := table hL
  unfold Go.Proofs.YtnjincgemmgllaaDoor.W.Tab Lib.TabIs World.var? at ht
  rw [Go.Proofs.YtnjincgemmgllaaDoor.W.gTab] at ht
  rcases Nat.lt_or_ge 0 W.heap.size with h | h
  · exact h
  · have hz : W.heap[0]? = none := Array.getElem?_eq_none h
    simp [hz] at ht

theorem said : Rows.FnFormatOutcomeSaid :=
  OpenClaim.holds_of_cond 4 Tryd.f4 rfl rfl rfl rfl rfl rfl rfl ⟨rfl, rfl, rfl, rfl, rfl⟩ rfl rfl rfl rfl rfl (by kernel_rfl) Tryd.func4 (by kernel_rfl)
    (of_decide_eq_true (by kernel_rfl)) (by unfold Func.isWrapper; first | (rw [if_pos (by decide +kernel)]; kernel_rfl) | (rw [if_neg (by decide +kernel)]; exact ⟨rfl, rfl⟩))
    (fun os started H enc _ F => by rw [OpenClaim.pre_eq_preRow]; exact lifted os started H enc F)

theorem plain (f : FuncId) (fn : Func) (hf : Tryd.pinned.checked.prog.funcNamed "loop.example/refcountml/laws.FnFormatOutcome" = some f) (hfn : Tryd.pinned.checked.prog.funcs[f]? = some fn) :
    false = Tryd.pinned.checked.prog.looks [] ∧ ∀ (j : Nat) t, fn.params[j]? = some t → Tryd.pinned.checked.prog.wantsStandIn t = false := by
  obtain rfl : f = 4 := Option.some.inj ((show Tryd.prog.funcNamed "loop.example/refcountml/laws.FnFormatOutcome" = some 4 by kernel_rfl).symm.trans hf) |>.symm
  obtain rfl : fn = Tryd.f4 := (Option.some.inj (Tryd.func4.symm.trans hfn)).symm
  refine ⟨by kernel_rfl, fun j t ht => ?_⟩
  rw [Tryd.params4] at ht
  obtain rfl : t = 31 := by simpa using Array.mem_of_getElem? ht
  exact (show Tryd.prog.wantsStandIn 31 = false by kernel_rfl)

theorem card : Rows.FnFormatOutcomeCardSaid :=
  Claim7.holds_tied_plain_at .later [] _ _ _ _ said (fun _ h => by cases h) (by kernel_rfl) (fun _ h => by cases h) fnFormatOutcome_row_tie rfl ⟨rfl, rfl⟩ (by kernel_rfl) rfl plain (by kernel_rfl)
end Go.Proofs.YtnjincgemmgllaaDoor.lawFO
