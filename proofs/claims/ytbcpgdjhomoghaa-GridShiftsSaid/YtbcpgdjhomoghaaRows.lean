/-
  No cell of these rows narrows 'for every input' (looked for: loops, veiled, ifaces, maps, wideKeys, modest, calm, conditions, laid).
  DERIVED. THE GIVEN ROWS OF THIS SEAT. 4 by the template 'for every input the law returns true; each argument reads behind the call as it read before'; 0 by the template 'total and deterministic' (their statements: YtbcpgdjhomoghaaTotals.lean).
  GIVEN WITH THE SEED: the statements are not yours to turn. If you find one false, say at which input.
  Laid BY PROGRAM, IN A SANDBOX (cutbox-rows.mjs): the forced cells as the released guide's own fill.sh prints them over the translation 2aec13c4174ac492… (all of the seat's roots in one cut). By AI agents, Wed Nov 11 2026. No macro, syntax, notation, axiom, sorry.
-/
import Derived.Test.YtbcpgdjhomoghaaChecked
import GoSem.Claim
import GoSem.ClaimJoined
import GoSem.ClaimMapViews
import Derived.JoinedTies
import Derived.KernelRfl
namespace Go.Proofs.Ytbcpgdjhomoghaa
/- THE CELL 'sum', in the pinned program and in every row, IS THE sha256 OF THE DUMP (.gsa) THAT YtbcpgdjhomoghaaProg.lean LOADS. Nothing in Lean hashes anything: it is a label: what it is worth is what the hold of that sum in a sandbox is worth. -/
noncomputable def Try.pinned : Pinned := { name := "ytbcpgdjhomoghaa", sum := "2aec13c4174ac4925eca98a3358f4706d064d9c4c67b936b53d07a5fe766085f", checked := Try.checked }
namespace Rows
def none {H : Type} : Left H := { results := [], args := [] }

/-- 'bobstaylaw17.GridWrites': WHATEVER THE INPUT: true; the input reads as it did. -/
def gridWritesSpec : ChangeSpec := { name := "gridWrites", fn := fun _ => fun
  | [d1, d2, d3] => { results := [.lit (.bool true)], args := [d1, d2, d3] }
  | _ => none }
def gridWritesRow : OpenClaim := { program := "ytbcpgdjhomoghaa", sum := "2aec13c4174ac4925eca98a3358f4706d064d9c4c67b936b53d07a5fe766085f", func := "bobstay/bobstaylaw17.GridWrites", spec := "gridWrites", unfollowed := true, recurses := true, apart := false }
def GridWritesSaid : Prop := gridWritesRow.holds Try.pinned (OpenSpec.ofChange gridWritesSpec)

/-- ITS FALSE NEIGHBOUR: 'it returns false'. Refute it at one input. -/
def gridWritesWrong : ChangeSpec := { name := "gridWrites", fn := fun _ => fun
  | [d1, d2, d3] => { results := [.lit (.bool false)], args := [d1, d2, d3] }
  | _ => none }
def GridWritesWrongFalsely : Prop := gridWritesRow.holds Try.pinned (OpenSpec.ofChange gridWritesWrong)

/-- 'bobstaylaw17.GridBack': WHATEVER THE INPUT: true; the input reads as it did. -/
def gridBackSpec : ChangeSpec := { name := "gridBack", fn := fun _ => fun
  | [d1, d2, d3, d4] => { results := [.lit (.bool true)], args := [d1, d2, d3, d4] }
  | _ => none }
def gridBackRow : OpenClaim := { program := "ytbcpgdjhomoghaa", sum := "2aec13c4174ac4925eca98a3358f4706d064d9c4c67b936b53d07a5fe766085f", func := "bobstay/bobstaylaw17.GridBack", spec := "gridBack", unfollowed := true, recurses := true, apart := false }
def GridBackSaid : Prop := gridBackRow.holds Try.pinned (OpenSpec.ofChange gridBackSpec)

/-- ITS FALSE NEIGHBOUR: 'it returns false'. Refute it at one input. -/
def gridBackWrong : ChangeSpec := { name := "gridBack", fn := fun _ => fun
  | [d1, d2, d3, d4] => { results := [.lit (.bool false)], args := [d1, d2, d3, d4] }
  | _ => none }
def GridBackWrongFalsely : Prop := gridBackRow.holds Try.pinned (OpenSpec.ofChange gridBackWrong)

/-- 'bobstaylaw17.GridShifts': WHATEVER THE INPUT: true; the input reads as it did. -/
def gridShiftsSpec : ChangeSpec := { name := "gridShifts", fn := fun _ => fun
  | [d1, d2, d3, d4] => { results := [.lit (.bool true)], args := [d1, d2, d3, d4] }
  | _ => none }
def gridShiftsRow : OpenClaim := { program := "ytbcpgdjhomoghaa", sum := "2aec13c4174ac4925eca98a3358f4706d064d9c4c67b936b53d07a5fe766085f", func := "bobstay/bobstaylaw17.GridShifts", spec := "gridShifts", unfollowed := true, recurses := true, apart := false }
def GridShiftsSaid : Prop := gridShiftsRow.holds Try.pinned (OpenSpec.ofChange gridShiftsSpec)

/-- ITS FALSE NEIGHBOUR: 'it returns false'. Refute it at one input. -/
def gridShiftsWrong : ChangeSpec := { name := "gridShifts", fn := fun _ => fun
  | [d1, d2, d3, d4] => { results := [.lit (.bool false)], args := [d1, d2, d3, d4] }
  | _ => none }
def GridShiftsWrongFalsely : Prop := gridShiftsRow.holds Try.pinned (OpenSpec.ofChange gridShiftsWrong)

/-- 'bobstaylaw17.GridMay': WHATEVER THE INPUT: true; the input reads as it did. -/
def gridMaySpec : ChangeSpec := { name := "gridMay", fn := fun _ => fun
  | [d1, d2] => { results := [.lit (.bool true)], args := [d1, d2] }
  | _ => none }
def gridMayRow : OpenClaim := { program := "ytbcpgdjhomoghaa", sum := "2aec13c4174ac4925eca98a3358f4706d064d9c4c67b936b53d07a5fe766085f", func := "bobstay/bobstaylaw17.GridMay", spec := "gridMay", unfollowed := true, recurses := true, apart := false }
def GridMaySaid : Prop := gridMayRow.holds Try.pinned (OpenSpec.ofChange gridMaySpec)

/-- ITS FALSE NEIGHBOUR: 'it returns false'. Refute it at one input. -/
def gridMayWrong : ChangeSpec := { name := "gridMay", fn := fun _ => fun
  | [d1, d2] => { results := [.lit (.bool false)], args := [d1, d2] }
  | _ => none }
def GridMayWrongFalsely : Prop := gridMayRow.holds Try.pinned (OpenSpec.ofChange gridMayWrong)

/- THE SECOND FORM. 'bulk': how many values and letters a reading holds, each counted each time it is reached (what is shared counts as often as it is met; a slice's spare places count too). A statement '..UptoSaid' is the law's where the arguments, and the package variables that the reading takes, are together of bulk at most 1048576: NARROWER than '..Said'. Prove '..Said' where nothing that the law and all that it calls make is longer than what came in: it says more and counts as full. Else prove '..UptoSaid'. A law counts once. -/
mutual
def uptoBulk {H : Type} : DataW H → Nat
  | .lit (.string bytes) => bytes.length + 1
  | .lit _ => 1
  | .nil => 1
  | .ptr d => uptoBulk d + 1
  | .slice elems spare => uptoBulkAll elems + uptoBulkAll spare + 1
  | .agg parts => uptoBulkAll parts + 1
  | .iface _ d => uptoBulk d + 1
  | .map entries => uptoBulkEntries entries + 1
  | .held _ => 1
def uptoBulkAll {H : Type} : List (DataW H) → Nat
  | [] => 0
  | d :: r => uptoBulk d + uptoBulkAll r
def uptoBulkEntries {H : Type} : List (Lit × DataW H) → Nat
  | [] => 0
  | x :: r => uptoBulkEntry x + uptoBulkEntries r
def uptoBulkEntry {H : Type} : Lit × DataW H → Nat
  | (.string bytes, d) => bytes.length + uptoBulk d + 1
  | (_, d) => uptoBulk d + 1
 end
def uptoSmall : (H : Type) → List (DataW H) → Bool := fun _ ds => decide (uptoBulkAll ds ≤ 1048576)
def OpenSpec.upto (s : _root_.Go.ChangeSpec) : _root_.Go.OpenSpec := { _root_.Go.OpenSpec.ofChange s with cond := some uptoSmall }

/-- 'bobstaylaw17.GridWrites', WHERE WHAT IT READS IS OF BULK AT MOST 1048576: true; the input reads as it did. -/
def gridWritesUptoRow : OpenClaim := { program := "ytbcpgdjhomoghaa", sum := "2aec13c4174ac4925eca98a3358f4706d064d9c4c67b936b53d07a5fe766085f", func := "bobstay/bobstaylaw17.GridWrites", spec := "gridWrites", unfollowed := true, recurses := true, apart := false, narrowed := true }
def GridWritesUptoSaid : Prop := gridWritesUptoRow.holds Try.pinned (OpenSpec.upto gridWritesSpec)

/-- 'bobstaylaw17.GridBack', WHERE WHAT IT READS IS OF BULK AT MOST 1048576: true; the input reads as it did. -/
def gridBackUptoRow : OpenClaim := { program := "ytbcpgdjhomoghaa", sum := "2aec13c4174ac4925eca98a3358f4706d064d9c4c67b936b53d07a5fe766085f", func := "bobstay/bobstaylaw17.GridBack", spec := "gridBack", unfollowed := true, recurses := true, apart := false, narrowed := true }
def GridBackUptoSaid : Prop := gridBackUptoRow.holds Try.pinned (OpenSpec.upto gridBackSpec)

/-- 'bobstaylaw17.GridShifts', WHERE WHAT IT READS IS OF BULK AT MOST 1048576: true; the input reads as it did. -/
def gridShiftsUptoRow : OpenClaim := { program := "ytbcpgdjhomoghaa", sum := "2aec13c4174ac4925eca98a3358f4706d064d9c4c67b936b53d07a5fe766085f", func := "bobstay/bobstaylaw17.GridShifts", spec := "gridShifts", unfollowed := true, recurses := true, apart := false, narrowed := true }
def GridShiftsUptoSaid : Prop := gridShiftsUptoRow.holds Try.pinned (OpenSpec.upto gridShiftsSpec)

/-- 'bobstaylaw17.GridMay', WHERE WHAT IT READS IS OF BULK AT MOST 1048576: true; the input reads as it did. -/
def gridMayUptoRow : OpenClaim := { program := "ytbcpgdjhomoghaa", sum := "2aec13c4174ac4925eca98a3358f4706d064d9c4c67b936b53d07a5fe766085f", func := "bobstay/bobstaylaw17.GridMay", spec := "gridMay", unfollowed := true, recurses := true, apart := false, narrowed := true }
def GridMayUptoSaid : Prop := gridMayUptoRow.holds Try.pinned (OpenSpec.upto gridMaySpec)

end Rows
end Go.Proofs.Ytbcpgdjhomoghaa
