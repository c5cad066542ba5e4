/-
  No cell of these rows narrows 'for every input' (looked for: loops, veiled, ifaces, maps, wideKeys, modest, calm, conditions, laid).
  DERIVED. THE GIVEN ROWS OF THIS SEAT. 5 by the template 'for every input the law returns true; each argument reads behind the call as it read before'; 0 by the template 'total and deterministic' (their statements: YtfekcilkpafpjaaGreatTotals.lean).
  GIVEN WITH THE SEED: the statements are not yours to turn. If you find one false, say at which input.
  Laid BY PROGRAM, IN A SANDBOX (cutbox-rows.mjs): the forced cells as the released guide's own fill.sh prints them over the translation ea93f476b9738524… (all of the seat's roots in one cut). By AI agents, Wed Nov 11 2026. No macro, syntax, notation, axiom, sorry.
-/
import Derived.Test.YtfekcilkpafpjaaGreatChecked
import GoSem.Claim
import GoSem.ClaimJoined
import GoSem.ClaimMapViews
import Derived.JoinedTies
import Derived.KernelRfl
namespace Go.Proofs.YtfekcilkpafpjaaGreat
/- THE CELL 'sum', in the pinned program and in every row, IS THE sha256 OF THE DUMP (.gsa) THAT YtfekcilkpafpjaaGreatProg.lean LOADS. Nothing in Lean hashes anything: it is a label: what it is worth is what the hold of that sum in a sandbox is worth. -/
noncomputable def Tryz.pinned : Pinned := { name := "ytfekcilkpafpjaagreat", sum := "ea93f476b9738524398cfd86029a98bf469a727b7a0b50ff2d8d38df7a9af62d", checked := Tryz.checked }
namespace Rows
def none {H : Type} : Left H := { results := [], args := [] }

/-- 'laws.FnSaved': WHATEVER THE INPUT: true; the input reads as it did. -/
def fnSavedSpec : ChangeSpec := { name := "fnSaved", fn := fun _ => fun
  | [d] => { results := [.lit (.bool true)], args := [d] }
  | _ => none }
def fnSavedRow : OpenClaim := { program := "ytfekcilkpafpjaagreat", sum := "ea93f476b9738524398cfd86029a98bf469a727b7a0b50ff2d8d38df7a9af62d", func := "loop.example/refcountml/laws.FnSaved", spec := "fnSaved", inPlace := ["slices.overlaps[int]"], unfollowed := true, recurses := true, apart := false }
def FnSavedSaid : Prop := fnSavedRow.holds Tryz.pinned (OpenSpec.ofChange fnSavedSpec)

/-- ITS FALSE NEIGHBOUR: 'it returns false'. Refute it at one input. -/
def fnSavedWrong : ChangeSpec := { name := "fnSaved", fn := fun _ => fun
  | [d] => { results := [.lit (.bool false)], args := [d] }
  | _ => none }
def FnSavedWrongFalsely : Prop := fnSavedRow.holds Tryz.pinned (OpenSpec.ofChange fnSavedWrong)

/-- 'laws.FnCancel': WHATEVER THE INPUT: true; the input reads as it did. -/
def fnCancelSpec : ChangeSpec := { name := "fnCancel", fn := fun _ => fun
  | [d] => { results := [.lit (.bool true)], args := [d] }
  | _ => none }
def fnCancelRow : OpenClaim := { program := "ytfekcilkpafpjaagreat", sum := "ea93f476b9738524398cfd86029a98bf469a727b7a0b50ff2d8d38df7a9af62d", func := "loop.example/refcountml/laws.FnCancel", spec := "fnCancel", inPlace := ["slices.overlaps[int]"], unfollowed := true, recurses := true, apart := false }
def FnCancelSaid : Prop := fnCancelRow.holds Tryz.pinned (OpenSpec.ofChange fnCancelSpec)

/-- ITS FALSE NEIGHBOUR: 'it returns false'. Refute it at one input. -/
def fnCancelWrong : ChangeSpec := { name := "fnCancel", fn := fun _ => fun
  | [d] => { results := [.lit (.bool false)], args := [d] }
  | _ => none }
def FnCancelWrongFalsely : Prop := fnCancelRow.holds Tryz.pinned (OpenSpec.ofChange fnCancelWrong)

/-- 'laws.FnCancelCounts': WHATEVER THE INPUT: true; the input reads as it did. -/
def fnCancelCountsSpec : ChangeSpec := { name := "fnCancelCounts", fn := fun _ => fun
  | [d] => { results := [.lit (.bool true)], args := [d] }
  | _ => none }
def fnCancelCountsRow : OpenClaim := { program := "ytfekcilkpafpjaagreat", sum := "ea93f476b9738524398cfd86029a98bf469a727b7a0b50ff2d8d38df7a9af62d", func := "loop.example/refcountml/laws.FnCancelCounts", spec := "fnCancelCounts", inPlace := ["slices.overlaps[int]"], unfollowed := true, recurses := true, apart := false }
def FnCancelCountsSaid : Prop := fnCancelCountsRow.holds Tryz.pinned (OpenSpec.ofChange fnCancelCountsSpec)

/-- ITS FALSE NEIGHBOUR: 'it returns false'. Refute it at one input. -/
def fnCancelCountsWrong : ChangeSpec := { name := "fnCancelCounts", fn := fun _ => fun
  | [d] => { results := [.lit (.bool false)], args := [d] }
  | _ => none }
def FnCancelCountsWrongFalsely : Prop := fnCancelCountsRow.holds Tryz.pinned (OpenSpec.ofChange fnCancelCountsWrong)

/-- 'laws.FnCancelTwice': WHATEVER THE INPUT: true; the input reads as it did. -/
def fnCancelTwiceSpec : ChangeSpec := { name := "fnCancelTwice", fn := fun _ => fun
  | [d] => { results := [.lit (.bool true)], args := [d] }
  | _ => none }
def fnCancelTwiceRow : OpenClaim := { program := "ytfekcilkpafpjaagreat", sum := "ea93f476b9738524398cfd86029a98bf469a727b7a0b50ff2d8d38df7a9af62d", func := "loop.example/refcountml/laws.FnCancelTwice", spec := "fnCancelTwice", inPlace := ["slices.overlaps[int]"], unfollowed := true, recurses := true, apart := false }
def FnCancelTwiceSaid : Prop := fnCancelTwiceRow.holds Tryz.pinned (OpenSpec.ofChange fnCancelTwiceSpec)

/-- ITS FALSE NEIGHBOUR: 'it returns false'. Refute it at one input. -/
def fnCancelTwiceWrong : ChangeSpec := { name := "fnCancelTwice", fn := fun _ => fun
  | [d] => { results := [.lit (.bool false)], args := [d] }
  | _ => none }
def FnCancelTwiceWrongFalsely : Prop := fnCancelTwiceRow.holds Tryz.pinned (OpenSpec.ofChange fnCancelTwiceWrong)

/-- 'laws.FnCancelPair': WHATEVER THE INPUT: true; the input reads as it did. -/
def fnCancelPairSpec : ChangeSpec := { name := "fnCancelPair", fn := fun _ => fun
  | [d] => { results := [.lit (.bool true)], args := [d] }
  | _ => none }
def fnCancelPairRow : OpenClaim := { program := "ytfekcilkpafpjaagreat", sum := "ea93f476b9738524398cfd86029a98bf469a727b7a0b50ff2d8d38df7a9af62d", func := "loop.example/refcountml/laws.FnCancelPair", spec := "fnCancelPair", inPlace := ["slices.overlaps[int]"], unfollowed := true, recurses := true, apart := false }
def FnCancelPairSaid : Prop := fnCancelPairRow.holds Tryz.pinned (OpenSpec.ofChange fnCancelPairSpec)

/-- ITS FALSE NEIGHBOUR: 'it returns false'. Refute it at one input. -/
def fnCancelPairWrong : ChangeSpec := { name := "fnCancelPair", fn := fun _ => fun
  | [d] => { results := [.lit (.bool false)], args := [d] }
  | _ => none }
def FnCancelPairWrongFalsely : Prop := fnCancelPairRow.holds Tryz.pinned (OpenSpec.ofChange fnCancelPairWrong)

/- THE SECOND FORM. 'bulk': how many values and letters a reading holds, each counted each time it is reached (what is shared counts as often as it is met; a slice's spare places count too). A statement '..UptoSaid' is the law's where the arguments, and the package variables that the reading takes, are together of bulk at most 1048576: NARROWER than '..Said'. Prove '..Said' where nothing that the law and all that it calls make is longer than what came in: it says more and counts as full. Else prove '..UptoSaid'. A law counts once. -/
mutual
def uptoBulk {H : Type} : DataW H → Nat
  | .lit (.string bytes) => bytes.length + 1
  | .lit _ => 1
  | .nil => 1
  | .ptr d => uptoBulk d + 1
  | .slice elems spare => uptoBulkAll elems + uptoBulkAll spare + 1
  | .agg parts => uptoBulkAll parts + 1
  | .iface _ d => uptoBulk d + 1
  | .map entries => uptoBulkEntries entries + 1
  | .held _ => 1
def uptoBulkAll {H : Type} : List (DataW H) → Nat
  | [] => 0
  | d :: r => uptoBulk d + uptoBulkAll r
def uptoBulkEntries {H : Type} : List (Lit × DataW H) → Nat
  | [] => 0
  | x :: r => uptoBulkEntry x + uptoBulkEntries r
def uptoBulkEntry {H : Type} : Lit × DataW H → Nat
  | (.string bytes, d) => bytes.length + uptoBulk d + 1
  | (_, d) => uptoBulk d + 1
 end
def uptoSmall : (H : Type) → List (DataW H) → Bool := fun _ ds => decide (uptoBulkAll ds ≤ 1048576)
def OpenSpec.upto (s : _root_.Go.ChangeSpec) : _root_.Go.OpenSpec := { _root_.Go.OpenSpec.ofChange s with cond := some uptoSmall }

/-- 'laws.FnSaved', WHERE WHAT IT READS IS OF BULK AT MOST 1048576: true; the input reads as it did. -/
def fnSavedUptoRow : OpenClaim := { program := "ytfekcilkpafpjaagreat", sum := "ea93f476b9738524398cfd86029a98bf469a727b7a0b50ff2d8d38df7a9af62d", func := "loop.example/refcountml/laws.FnSaved", spec := "fnSaved", inPlace := ["slices.overlaps[int]"], unfollowed := true, recurses := true, apart := false, narrowed := true }
def FnSavedUptoSaid : Prop := fnSavedUptoRow.holds Tryz.pinned (OpenSpec.upto fnSavedSpec)

/-- 'laws.FnCancel', WHERE WHAT IT READS IS OF BULK AT MOST 1048576: true; the input reads as it did. -/
def fnCancelUptoRow : OpenClaim := { program := "ytfekcilkpafpjaagreat", sum := "ea93f476b9738524398cfd86029a98bf469a727b7a0b50ff2d8d38df7a9af62d", func := "loop.example/refcountml/laws.FnCancel", spec := "fnCancel", inPlace := ["slices.overlaps[int]"], unfollowed := true, recurses := true, apart := false, narrowed := true }
def FnCancelUptoSaid : Prop := fnCancelUptoRow.holds Tryz.pinned (OpenSpec.upto fnCancelSpec)

/-- 'laws.FnCancelCounts', WHERE WHAT IT READS IS OF BULK AT MOST 1048576: true; the input reads as it did. -/
def fnCancelCountsUptoRow : OpenClaim := { program := "ytfekcilkpafpjaagreat", sum := "ea93f476b9738524398cfd86029a98bf469a727b7a0b50ff2d8d38df7a9af62d", func := "loop.example/refcountml/laws.FnCancelCounts", spec := "fnCancelCounts", inPlace := ["slices.overlaps[int]"], unfollowed := true, recurses := true, apart := false, narrowed := true }
def FnCancelCountsUptoSaid : Prop := fnCancelCountsUptoRow.holds Tryz.pinned (OpenSpec.upto fnCancelCountsSpec)

/-- 'laws.FnCancelTwice', WHERE WHAT IT READS IS OF BULK AT MOST 1048576: true; the input reads as it did. -/
def fnCancelTwiceUptoRow : OpenClaim := { program := "ytfekcilkpafpjaagreat", sum := "ea93f476b9738524398cfd86029a98bf469a727b7a0b50ff2d8d38df7a9af62d", func := "loop.example/refcountml/laws.FnCancelTwice", spec := "fnCancelTwice", inPlace := ["slices.overlaps[int]"], unfollowed := true, recurses := true, apart := false, narrowed := true }
def FnCancelTwiceUptoSaid : Prop := fnCancelTwiceUptoRow.holds Tryz.pinned (OpenSpec.upto fnCancelTwiceSpec)

/-- 'laws.FnCancelPair', WHERE WHAT IT READS IS OF BULK AT MOST 1048576: true; the input reads as it did. -/
def fnCancelPairUptoRow : OpenClaim := { program := "ytfekcilkpafpjaagreat", sum := "ea93f476b9738524398cfd86029a98bf469a727b7a0b50ff2d8d38df7a9af62d", func := "loop.example/refcountml/laws.FnCancelPair", spec := "fnCancelPair", inPlace := ["slices.overlaps[int]"], unfollowed := true, recurses := true, apart := false, narrowed := true }
def FnCancelPairUptoSaid : Prop := fnCancelPairUptoRow.holds Tryz.pinned (OpenSpec.upto fnCancelPairSpec)

end Rows
end Go.Proofs.YtfekcilkpafpjaaGreat
