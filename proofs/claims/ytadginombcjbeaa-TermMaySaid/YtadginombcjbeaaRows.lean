/-
  No cell of these rows narrows 'for every input' (looked for: loops, veiled, ifaces, maps, wideKeys, modest, calm, conditions, laid).
  DERIVED. THE GIVEN ROWS OF THIS SEAT. 4 by the template 'for every input the law returns true; each argument reads behind the call as it read before'; 0 by the template 'total and deterministic' (their statements: YtadginombcjbeaaTotals.lean).
  GIVEN WITH THE SEED: the statements are not yours to turn. If you find one false, say at which input.
  Laid BY PROGRAM, IN A SANDBOX (cutbox-rows.mjs): the forced cells as the released guide's own fill.sh prints them over the translation d3e49d3561023ffa… (all of the seat's roots in one cut). By AI agents, Wed Nov 11 2026. No macro, syntax, notation, axiom, sorry.
-/
import Derived.Test.YtadginombcjbeaaChecked
import GoSem.Claim
import GoSem.ClaimJoined
import GoSem.ClaimMapViews
import Derived.JoinedTies
import Derived.KernelRfl
namespace Go.Proofs.Ytadginombcjbeaa
/- THE CELL 'sum', in the pinned program and in every row, IS THE sha256 OF THE DUMP (.gsa) THAT YtadginombcjbeaaProg.lean LOADS. Nothing in Lean hashes anything: it is a label: what it is worth is what the hold of that sum in a sandbox is worth. -/
noncomputable def Try.pinned : Pinned := { name := "ytadginombcjbeaa", sum := "d3e49d3561023ffaa13cc67c940a20284ae1a2a82ca0080bb3c954e2bc594762", checked := Try.checked }
namespace Rows
def none {H : Type} : Left H := { results := [], args := [] }

/-- 'bobstaylaw18.TermMay': WHATEVER THE INPUT: true; the input reads as it did. -/
def termMaySpec : ChangeSpec := { name := "termMay", fn := fun _ => fun
  | [d1, d2] => { results := [.lit (.bool true)], args := [d1, d2] }
  | _ => none }
def termMayRow : OpenClaim := { program := "ytadginombcjbeaa", sum := "d3e49d3561023ffaa13cc67c940a20284ae1a2a82ca0080bb3c954e2bc594762", func := "bobstay/bobstaylaw18.TermMay", spec := "termMay", unfollowed := true, recurses := true, apart := false }
def TermMaySaid : Prop := termMayRow.holds Try.pinned (OpenSpec.ofChange termMaySpec)

/-- ITS FALSE NEIGHBOUR: 'it returns false'. Refute it at one input. -/
def termMayWrong : ChangeSpec := { name := "termMay", fn := fun _ => fun
  | [d1, d2] => { results := [.lit (.bool false)], args := [d1, d2] }
  | _ => none }
def TermMayWrongFalsely : Prop := termMayRow.holds Try.pinned (OpenSpec.ofChange termMayWrong)

/-- 'bobstaylaw18.TermParts': WHATEVER THE INPUT: true; the input reads as it did. -/
def termPartsSpec : ChangeSpec := { name := "termParts", fn := fun _ => fun
  | [d1, d2, d3] => { results := [.lit (.bool true)], args := [d1, d2, d3] }
  | _ => none }
def termPartsRow : OpenClaim := { program := "ytadginombcjbeaa", sum := "d3e49d3561023ffaa13cc67c940a20284ae1a2a82ca0080bb3c954e2bc594762", func := "bobstay/bobstaylaw18.TermParts", spec := "termParts", unfollowed := true, recurses := true, apart := false }
def TermPartsSaid : Prop := termPartsRow.holds Try.pinned (OpenSpec.ofChange termPartsSpec)

/-- ITS FALSE NEIGHBOUR: 'it returns false'. Refute it at one input. -/
def termPartsWrong : ChangeSpec := { name := "termParts", fn := fun _ => fun
  | [d1, d2, d3] => { results := [.lit (.bool false)], args := [d1, d2, d3] }
  | _ => none }
def TermPartsWrongFalsely : Prop := termPartsRow.holds Try.pinned (OpenSpec.ofChange termPartsWrong)

/-- 'bobstaylaw18.TermOther': WHATEVER THE INPUT: true; the input reads as it did. -/
def termOtherSpec : ChangeSpec := { name := "termOther", fn := fun _ => fun
  | [d1, d2] => { results := [.lit (.bool true)], args := [d1, d2] }
  | _ => none }
def termOtherRow : OpenClaim := { program := "ytadginombcjbeaa", sum := "d3e49d3561023ffaa13cc67c940a20284ae1a2a82ca0080bb3c954e2bc594762", func := "bobstay/bobstaylaw18.TermOther", spec := "termOther", unfollowed := true, recurses := true, apart := false }
def TermOtherSaid : Prop := termOtherRow.holds Try.pinned (OpenSpec.ofChange termOtherSpec)

/-- ITS FALSE NEIGHBOUR: 'it returns false'. Refute it at one input. -/
def termOtherWrong : ChangeSpec := { name := "termOther", fn := fun _ => fun
  | [d1, d2] => { results := [.lit (.bool false)], args := [d1, d2] }
  | _ => none }
def TermOtherWrongFalsely : Prop := termOtherRow.holds Try.pinned (OpenSpec.ofChange termOtherWrong)

/-- 'bobstaylaw18.TermSaves': WHATEVER THE INPUT: true; the input reads as it did. -/
def termSavesSpec : ChangeSpec := { name := "termSaves", fn := fun _ => fun
  | [d1, d2, d3, d4] => { results := [.lit (.bool true)], args := [d1, d2, d3, d4] }
  | _ => none }
def termSavesRow : OpenClaim := { program := "ytadginombcjbeaa", sum := "d3e49d3561023ffaa13cc67c940a20284ae1a2a82ca0080bb3c954e2bc594762", func := "bobstay/bobstaylaw18.TermSaves", spec := "termSaves", unfollowed := true, recurses := true, apart := false }
def TermSavesSaid : Prop := termSavesRow.holds Try.pinned (OpenSpec.ofChange termSavesSpec)

/-- ITS FALSE NEIGHBOUR: 'it returns false'. Refute it at one input. -/
def termSavesWrong : ChangeSpec := { name := "termSaves", fn := fun _ => fun
  | [d1, d2, d3, d4] => { results := [.lit (.bool false)], args := [d1, d2, d3, d4] }
  | _ => none }
def TermSavesWrongFalsely : Prop := termSavesRow.holds Try.pinned (OpenSpec.ofChange termSavesWrong)

/- THE SECOND FORM. 'bulk': how many values and letters a reading holds, each counted each time it is reached (what is shared counts as often as it is met; a slice's spare places count too). A statement '..UptoSaid' is the law's where the arguments, and the package variables that the reading takes, are together of bulk at most 1048576: NARROWER than '..Said'. Prove '..Said' where nothing that the law and all that it calls make is longer than what came in: it says more and counts as full. Else prove '..UptoSaid'. A law counts once. -/
mutual
def uptoBulk {H : Type} : DataW H → Nat
  | .lit (.string bytes) => bytes.length + 1
  | .lit _ => 1
  | .nil => 1
  | .ptr d => uptoBulk d + 1
  | .slice elems spare => uptoBulkAll elems + uptoBulkAll spare + 1
  | .agg parts => uptoBulkAll parts + 1
  | .iface _ d => uptoBulk d + 1
  | .map entries => uptoBulkEntries entries + 1
  | .held _ => 1
def uptoBulkAll {H : Type} : List (DataW H) → Nat
  | [] => 0
  | d :: r => uptoBulk d + uptoBulkAll r
def uptoBulkEntries {H : Type} : List (Lit × DataW H) → Nat
  | [] => 0
  | x :: r => uptoBulkEntry x + uptoBulkEntries r
def uptoBulkEntry {H : Type} : Lit × DataW H → Nat
  | (.string bytes, d) => bytes.length + uptoBulk d + 1
  | (_, d) => uptoBulk d + 1
 end
def uptoSmall : (H : Type) → List (DataW H) → Bool := fun _ ds => decide (uptoBulkAll ds ≤ 1048576)
def OpenSpec.upto (s : _root_.Go.ChangeSpec) : _root_.Go.OpenSpec := { _root_.Go.OpenSpec.ofChange s with cond := some uptoSmall }

/-- 'bobstaylaw18.TermMay', WHERE WHAT IT READS IS OF BULK AT MOST 1048576: true; the input reads as it did. -/
def termMayUptoRow : OpenClaim := { program := "ytadginombcjbeaa", sum := "d3e49d3561023ffaa13cc67c940a20284ae1a2a82ca0080bb3c954e2bc594762", func := "bobstay/bobstaylaw18.TermMay", spec := "termMay", unfollowed := true, recurses := true, apart := false, narrowed := true }
def TermMayUptoSaid : Prop := termMayUptoRow.holds Try.pinned (OpenSpec.upto termMaySpec)

/-- 'bobstaylaw18.TermParts', WHERE WHAT IT READS IS OF BULK AT MOST 1048576: true; the input reads as it did. -/
def termPartsUptoRow : OpenClaim := { program := "ytadginombcjbeaa", sum := "d3e49d3561023ffaa13cc67c940a20284ae1a2a82ca0080bb3c954e2bc594762", func := "bobstay/bobstaylaw18.TermParts", spec := "termParts", unfollowed := true, recurses := true, apart := false, narrowed := true }
def TermPartsUptoSaid : Prop := termPartsUptoRow.holds Try.pinned (OpenSpec.upto termPartsSpec)

/-- 'bobstaylaw18.TermOther', WHERE WHAT IT READS IS OF BULK AT MOST 1048576: true; the input reads as it did. -/
def termOtherUptoRow : OpenClaim := { program := "ytadginombcjbeaa", sum := "d3e49d3561023ffaa13cc67c940a20284ae1a2a82ca0080bb3c954e2bc594762", func := "bobstay/bobstaylaw18.TermOther", spec := "termOther", unfollowed := true, recurses := true, apart := false, narrowed := true }
def TermOtherUptoSaid : Prop := termOtherUptoRow.holds Try.pinned (OpenSpec.upto termOtherSpec)

/-- 'bobstaylaw18.TermSaves', WHERE WHAT IT READS IS OF BULK AT MOST 1048576: true; the input reads as it did. -/
def termSavesUptoRow : OpenClaim := { program := "ytadginombcjbeaa", sum := "d3e49d3561023ffaa13cc67c940a20284ae1a2a82ca0080bb3c954e2bc594762", func := "bobstay/bobstaylaw18.TermSaves", spec := "termSaves", unfollowed := true, recurses := true, apart := false, narrowed := true }
def TermSavesUptoSaid : Prop := termSavesUptoRow.holds Try.pinned (OpenSpec.upto termSavesSpec)

end Rows
end Go.Proofs.Ytadginombcjbeaa
