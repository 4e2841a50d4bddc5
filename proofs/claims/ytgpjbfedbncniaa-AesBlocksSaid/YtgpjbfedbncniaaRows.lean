/-
  No cell of these rows narrows 'for every input' (looked for: loops, veiled, ifaces, maps, wideKeys, modest, calm, conditions, laid).
  DERIVED. THE GIVEN ROWS OF THIS SEAT. 5 by the template 'for every input the law returns true; each argument reads behind the call as it read before'; 0 by the template 'total and deterministic' (their statements: YtgpjbfedbncniaaTotals.lean).
  GIVEN WITH THE SEED: the statements are not yours to turn. If you find one false, say at which input.
  Laid BY PROGRAM, IN A SANDBOX (cutbox-rows.mjs): the forced cells as the released guide's own fill.sh prints them over the translation 960dbb24fdc4c425… (all of the seat's roots in one cut). By AI agents, Wed Nov 11 2026. No macro, syntax, notation, axiom, sorry.
-/
import Derived.Test.YtgpjbfedbncniaaChecked
import GoSem.Claim
import GoSem.ClaimJoined
import GoSem.ClaimMapViews
import Derived.JoinedTies
import Derived.KernelRfl
namespace Go.Proofs.Ytgpjbfedbncniaa
/- THE CELL 'sum', in the pinned program and in every row, IS THE sha256 OF THE DUMP (.gsa) THAT YtgpjbfedbncniaaProg.lean LOADS. Nothing in Lean hashes anything: it is a label: what it is worth is what the hold of that sum in a sandbox is worth. -/
noncomputable def Try.pinned : Pinned := { name := "ytgpjbfedbncniaa", sum := "960dbb24fdc4c42510f2449eeb805f5a820478128df9f6f2f0fc75ce915337b8", checked := Try.checked }
namespace Rows
def none {H : Type} : Left H := { results := [], args := [] }

/-- 'bobstaylaw06.AesTells': WHATEVER THE INPUT: true; the input reads as it did. -/
def aesTellsSpec : ChangeSpec := { name := "aesTells", fn := fun _ => fun
  | [d1, d2] => { results := [.lit (.bool true)], args := [d1, d2] }
  | _ => none }
def aesTellsRow : OpenClaim := { program := "ytgpjbfedbncniaa", sum := "960dbb24fdc4c42510f2449eeb805f5a820478128df9f6f2f0fc75ce915337b8", func := "bobstay/bobstaylaw06.AesTells", spec := "aesTells", unfollowed := true, recurses := true, apart := false }
def AesTellsSaid : Prop := aesTellsRow.holds Try.pinned (OpenSpec.ofChange aesTellsSpec)

/-- ITS FALSE NEIGHBOUR: 'it returns false'. Refute it at one input. -/
def aesTellsWrong : ChangeSpec := { name := "aesTells", fn := fun _ => fun
  | [d1, d2] => { results := [.lit (.bool false)], args := [d1, d2] }
  | _ => none }
def AesTellsWrongFalsely : Prop := aesTellsRow.holds Try.pinned (OpenSpec.ofChange aesTellsWrong)

/-- 'bobstaylaw06.AesStreams': WHATEVER THE INPUT: true; the input reads as it did. -/
def aesStreamsSpec : ChangeSpec := { name := "aesStreams", fn := fun _ => fun
  | [d1, d2, d3, d4] => { results := [.lit (.bool true)], args := [d1, d2, d3, d4] }
  | _ => none }
def aesStreamsRow : OpenClaim := { program := "ytgpjbfedbncniaa", sum := "960dbb24fdc4c42510f2449eeb805f5a820478128df9f6f2f0fc75ce915337b8", func := "bobstay/bobstaylaw06.AesStreams", spec := "aesStreams", unfollowed := true, recurses := true, apart := false }
def AesStreamsSaid : Prop := aesStreamsRow.holds Try.pinned (OpenSpec.ofChange aesStreamsSpec)

/-- ITS FALSE NEIGHBOUR: 'it returns false'. Refute it at one input. -/
def aesStreamsWrong : ChangeSpec := { name := "aesStreams", fn := fun _ => fun
  | [d1, d2, d3, d4] => { results := [.lit (.bool false)], args := [d1, d2, d3, d4] }
  | _ => none }
def AesStreamsWrongFalsely : Prop := aesStreamsRow.holds Try.pinned (OpenSpec.ofChange aesStreamsWrong)

/-- 'bobstaylaw06.AesBack': WHATEVER THE INPUT: true; the input reads as it did. -/
def aesBackSpec : ChangeSpec := { name := "aesBack", fn := fun _ => fun
  | [d1, d2, d3, d4, d5] => { results := [.lit (.bool true)], args := [d1, d2, d3, d4, d5] }
  | _ => none }
def aesBackRow : OpenClaim := { program := "ytgpjbfedbncniaa", sum := "960dbb24fdc4c42510f2449eeb805f5a820478128df9f6f2f0fc75ce915337b8", func := "bobstay/bobstaylaw06.AesBack", spec := "aesBack", unfollowed := true, recurses := true, apart := false }
def AesBackSaid : Prop := aesBackRow.holds Try.pinned (OpenSpec.ofChange aesBackSpec)

/-- ITS FALSE NEIGHBOUR: 'it returns false'. Refute it at one input. -/
def aesBackWrong : ChangeSpec := { name := "aesBack", fn := fun _ => fun
  | [d1, d2, d3, d4, d5] => { results := [.lit (.bool false)], args := [d1, d2, d3, d4, d5] }
  | _ => none }
def AesBackWrongFalsely : Prop := aesBackRow.holds Try.pinned (OpenSpec.ofChange aesBackWrong)

/-- 'bobstaylaw06.AesBlocks': WHATEVER THE INPUT: true; the input reads as it did. -/
def aesBlocksSpec : ChangeSpec := { name := "aesBlocks", fn := fun _ => fun
  | [d1, d2, d3, d4, d5] => { results := [.lit (.bool true)], args := [d1, d2, d3, d4, d5] }
  | _ => none }
def aesBlocksRow : OpenClaim := { program := "ytgpjbfedbncniaa", sum := "960dbb24fdc4c42510f2449eeb805f5a820478128df9f6f2f0fc75ce915337b8", func := "bobstay/bobstaylaw06.AesBlocks", spec := "aesBlocks", unfollowed := true, recurses := true, apart := false }
def AesBlocksSaid : Prop := aesBlocksRow.holds Try.pinned (OpenSpec.ofChange aesBlocksSpec)

/-- ITS FALSE NEIGHBOUR: 'it returns false'. Refute it at one input. -/
def aesBlocksWrong : ChangeSpec := { name := "aesBlocks", fn := fun _ => fun
  | [d1, d2, d3, d4, d5] => { results := [.lit (.bool false)], args := [d1, d2, d3, d4, d5] }
  | _ => none }
def AesBlocksWrongFalsely : Prop := aesBlocksRow.holds Try.pinned (OpenSpec.ofChange aesBlocksWrong)

/-- 'bobstaylaw06.AesKeys': WHATEVER THE INPUT: true; the input reads as it did. -/
def aesKeysSpec : ChangeSpec := { name := "aesKeys", fn := fun _ => fun
  | [d] => { results := [.lit (.bool true)], args := [d] }
  | _ => none }
def aesKeysRow : OpenClaim := { program := "ytgpjbfedbncniaa", sum := "960dbb24fdc4c42510f2449eeb805f5a820478128df9f6f2f0fc75ce915337b8", func := "bobstay/bobstaylaw06.AesKeys", spec := "aesKeys", unfollowed := true, recurses := true, apart := false }
def AesKeysSaid : Prop := aesKeysRow.holds Try.pinned (OpenSpec.ofChange aesKeysSpec)

/-- ITS FALSE NEIGHBOUR: 'it returns false'. Refute it at one input. -/
def aesKeysWrong : ChangeSpec := { name := "aesKeys", fn := fun _ => fun
  | [d] => { results := [.lit (.bool false)], args := [d] }
  | _ => none }
def AesKeysWrongFalsely : Prop := aesKeysRow.holds Try.pinned (OpenSpec.ofChange aesKeysWrong)

/- THE SECOND FORM. 'bulk': how many values and letters a reading holds, each counted each time it is reached (what is shared counts as often as it is met; a slice's spare places count too). A statement '..UptoSaid' is the law's where the arguments, and the package variables that the reading takes, are together of bulk at most 1048576: NARROWER than '..Said'. Prove '..Said' where nothing that the law and all that it calls make is longer than what came in: it says more and counts as full. Else prove '..UptoSaid'. A law counts once. -/
mutual
def uptoBulk {H : Type} : DataW H → Nat
  | .lit (.string bytes) => bytes.length + 1
  | .lit _ => 1
  | .nil => 1
  | .ptr d => uptoBulk d + 1
  | .slice elems spare => uptoBulkAll elems + uptoBulkAll spare + 1
  | .agg parts => uptoBulkAll parts + 1
  | .iface _ d => uptoBulk d + 1
  | .map entries => uptoBulkEntries entries + 1
  | .held _ => 1
def uptoBulkAll {H : Type} : List (DataW H) → Nat
  | [] => 0
  | d :: r => uptoBulk d + uptoBulkAll r
def uptoBulkEntries {H : Type} : List (Lit × DataW H) → Nat
  | [] => 0
  | x :: r => uptoBulkEntry x + uptoBulkEntries r
def uptoBulkEntry {H : Type} : Lit × DataW H → Nat
  | (.string bytes, d) => bytes.length + uptoBulk d + 1
  | (_, d) => uptoBulk d + 1
 end
def uptoSmall : (H : Type) → List (DataW H) → Bool := fun _ ds => decide (uptoBulkAll ds ≤ 1048576)
def OpenSpec.upto (s : _root_.Go.ChangeSpec) : _root_.Go.OpenSpec := { _root_.Go.OpenSpec.ofChange s with cond := some uptoSmall }

/-- 'bobstaylaw06.AesTells', WHERE WHAT IT READS IS OF BULK AT MOST 1048576: true; the input reads as it did. -/
def aesTellsUptoRow : OpenClaim := { program := "ytgpjbfedbncniaa", sum := "960dbb24fdc4c42510f2449eeb805f5a820478128df9f6f2f0fc75ce915337b8", func := "bobstay/bobstaylaw06.AesTells", spec := "aesTells", unfollowed := true, recurses := true, apart := false, narrowed := true }
def AesTellsUptoSaid : Prop := aesTellsUptoRow.holds Try.pinned (OpenSpec.upto aesTellsSpec)

/-- 'bobstaylaw06.AesStreams', WHERE WHAT IT READS IS OF BULK AT MOST 1048576: true; the input reads as it did. -/
def aesStreamsUptoRow : OpenClaim := { program := "ytgpjbfedbncniaa", sum := "960dbb24fdc4c42510f2449eeb805f5a820478128df9f6f2f0fc75ce915337b8", func := "bobstay/bobstaylaw06.AesStreams", spec := "aesStreams", unfollowed := true, recurses := true, apart := false, narrowed := true }
def AesStreamsUptoSaid : Prop := aesStreamsUptoRow.holds Try.pinned (OpenSpec.upto aesStreamsSpec)

/-- 'bobstaylaw06.AesBack', WHERE WHAT IT READS IS OF BULK AT MOST 1048576: true; the input reads as it did. -/
def aesBackUptoRow : OpenClaim := { program := "ytgpjbfedbncniaa", sum := "960dbb24fdc4c42510f2449eeb805f5a820478128df9f6f2f0fc75ce915337b8", func := "bobstay/bobstaylaw06.AesBack", spec := "aesBack", unfollowed := true, recurses := true, apart := false, narrowed := true }
def AesBackUptoSaid : Prop := aesBackUptoRow.holds Try.pinned (OpenSpec.upto aesBackSpec)

/-- 'bobstaylaw06.AesBlocks', WHERE WHAT IT READS IS OF BULK AT MOST 1048576: true; the input reads as it did. -/
def aesBlocksUptoRow : OpenClaim := { program := "ytgpjbfedbncniaa", sum := "960dbb24fdc4c42510f2449eeb805f5a820478128df9f6f2f0fc75ce915337b8", func := "bobstay/bobstaylaw06.AesBlocks", spec := "aesBlocks", unfollowed := true, recurses := true, apart := false, narrowed := true }
def AesBlocksUptoSaid : Prop := aesBlocksUptoRow.holds Try.pinned (OpenSpec.upto aesBlocksSpec)

/-- 'bobstaylaw06.AesKeys', WHERE WHAT IT READS IS OF BULK AT MOST 1048576: true; the input reads as it did. -/
def aesKeysUptoRow : OpenClaim := { program := "ytgpjbfedbncniaa", sum := "960dbb24fdc4c42510f2449eeb805f5a820478128df9f6f2f0fc75ce915337b8", func := "bobstay/bobstaylaw06.AesKeys", spec := "aesKeys", unfollowed := true, recurses := true, apart := false, narrowed := true }
def AesKeysUptoSaid : Prop := aesKeysUptoRow.holds Try.pinned (OpenSpec.upto aesKeysSpec)

end Rows
end Go.Proofs.Ytgpjbfedbncniaa
