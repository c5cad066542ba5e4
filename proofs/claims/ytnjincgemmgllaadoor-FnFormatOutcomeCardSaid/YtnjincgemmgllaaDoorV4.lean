/- The walk of the program's FormatOutcome. -/
import Derived.Test.YtnjincgemmgllaaDoorV3
import Derived.Test.YtnjincgemmgllaaDoorShelf
namespace Go.Proofs.YtnjincgemmgllaaDoor.W
open Go.RowKit

def Tab (w : World) : Prop := Lib.TabIs Tryd.prog w "internal/strconv.uint64pow10" .u64 Lib.pow10Tab

set_option maxHeartbeats 1000000 in
theorem implFO_bad {lo : Nat} (st va ca : Int) (v : Value) (zs : List Int) (w : World) (hz : Ints lo w v zs)
    (hbad : st < 0 ∨ (0 ≤ st ∧ 2 < st) ∨ ((0 ≤ st ∧ st ≤ 2) ∧ (inB (-999) va 999 = false ∨ (inB (-999) va 999 = true ∧ (((va != 0) = true ∧ (st != 0) = true) ∨
      (((va != 0) = false ∨ ((va != 0) = true ∧ (st != 0) = false)) ∧ (ca < 0 ∨ (0 ≤ ca ∧ 40 < ca)))))))) :
    Calls Tryd.prog 8 #[.agg #[.int .i64 st, .int .i64 va, .int .i64 ca, v]] w fun e w' => e = .returned (.string ⟨#[]⟩) ∧ Below w.heap.size w w' := by
  obtain ⟨a1, n1, c1, rfl, _⟩ := hz
  rcases hbad with h | ⟨h, h1⟩ | ⟨⟨h, h1⟩, h2 | ⟨h2, ⟨h3, h4⟩ | ⟨h3 | ⟨h3, h4⟩, h5 | ⟨h5, h6⟩⟩⟩⟩
  all_goals
    go_enter Tryd.func8, Tryd.ntmps8
    go_wp2_with (go_at_call 17; refine (isInt_any _ _).mono ?_; rintro e w' ⟨rfl, rfl⟩)
    go_ret
    refine ⟨rfl, ?_⟩
    repeat (first | exact Below.refl _ _ | refine Below.setCell ?_ (by simp; try omega) _ | refine Below.alloc ?_ (by simp; try omega) _)
end Go.Proofs.YtnjincgemmgllaaDoor.W
