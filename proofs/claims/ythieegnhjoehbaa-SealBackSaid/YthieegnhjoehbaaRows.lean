/-
  No cell of these rows narrows 'for every input' (looked for: loops, veiled, ifaces, maps, wideKeys, modest, calm, conditions, laid).
  DERIVED. THE GIVEN ROWS OF THIS SEAT. 6 by the template 'for every input the law returns true; each argument reads behind the call as it read before'; 0 by the template 'total and deterministic' (their statements: YthieegnhjoehbaaTotals.lean).
  GIVEN WITH THE SEED: the statements are not yours to turn. If you find one false, say at which input.
  Laid BY PROGRAM, IN A SANDBOX (cutbox-rows.mjs): the forced cells as the released guide's own fill.sh prints them over the translation 61795e5764a83564… (all of the seat's roots in one cut). By AI agents, Wed Nov 11 2026. No macro, syntax, notation, axiom, sorry.
-/
import Derived.Test.YthieegnhjoehbaaChecked
import GoSem.Claim
import GoSem.ClaimJoined
import GoSem.ClaimMapViews
import Derived.JoinedTies
import Derived.KernelRfl
namespace Go.Proofs.Ythieegnhjoehbaa
/- THE CELL 'sum', in the pinned program and in every row, IS THE sha256 OF THE DUMP (.gsa) THAT YthieegnhjoehbaaProg.lean LOADS. Nothing in Lean hashes anything: it is a label: what it is worth is what the hold of that sum in a sandbox is worth. -/
noncomputable def Try.pinned : Pinned := { name := "ythieegnhjoehbaa", sum := "61795e5764a83564a9c1885ffa2c97833aeea1400bb896cc30abf8874a7ac947", checked := Try.checked }
namespace Rows
def none {H : Type} : Left H := { results := [], args := [] }

/-- 'bobstaylaw07.SealTells': WHATEVER THE INPUT: true; the input reads as it did. -/
def sealTellsSpec : ChangeSpec := { name := "sealTells", fn := fun _ => fun
  | [d1, d2] => { results := [.lit (.bool true)], args := [d1, d2] }
  | _ => none }
def sealTellsRow : OpenClaim := { program := "ythieegnhjoehbaa", sum := "61795e5764a83564a9c1885ffa2c97833aeea1400bb896cc30abf8874a7ac947", func := "bobstay/bobstaylaw07.SealTells", spec := "sealTells", unfollowed := true, recurses := true, apart := false }
def SealTellsSaid : Prop := sealTellsRow.holds Try.pinned (OpenSpec.ofChange sealTellsSpec)

/-- ITS FALSE NEIGHBOUR: 'it returns false'. Refute it at one input. -/
def sealTellsWrong : ChangeSpec := { name := "sealTells", fn := fun _ => fun
  | [d1, d2] => { results := [.lit (.bool false)], args := [d1, d2] }
  | _ => none }
def SealTellsWrongFalsely : Prop := sealTellsRow.holds Try.pinned (OpenSpec.ofChange sealTellsWrong)

/-- 'bobstaylaw07.SealOpens': WHATEVER THE INPUT: true; the input reads as it did. -/
def sealOpensSpec : ChangeSpec := { name := "sealOpens", fn := fun _ => fun
  | [d1, d2, d3] => { results := [.lit (.bool true)], args := [d1, d2, d3] }
  | _ => none }
def sealOpensRow : OpenClaim := { program := "ythieegnhjoehbaa", sum := "61795e5764a83564a9c1885ffa2c97833aeea1400bb896cc30abf8874a7ac947", func := "bobstay/bobstaylaw07.SealOpens", spec := "sealOpens", unfollowed := true, recurses := true, apart := false }
def SealOpensSaid : Prop := sealOpensRow.holds Try.pinned (OpenSpec.ofChange sealOpensSpec)

/-- ITS FALSE NEIGHBOUR: 'it returns false'. Refute it at one input. -/
def sealOpensWrong : ChangeSpec := { name := "sealOpens", fn := fun _ => fun
  | [d1, d2, d3] => { results := [.lit (.bool false)], args := [d1, d2, d3] }
  | _ => none }
def SealOpensWrongFalsely : Prop := sealOpensRow.holds Try.pinned (OpenSpec.ofChange sealOpensWrong)

/-- 'bobstaylaw07.SealBack': WHATEVER THE INPUT: true; the input reads as it did. -/
def sealBackSpec : ChangeSpec := { name := "sealBack", fn := fun _ => fun
  | [d1, d2, d3] => { results := [.lit (.bool true)], args := [d1, d2, d3] }
  | _ => none }
def sealBackRow : OpenClaim := { program := "ythieegnhjoehbaa", sum := "61795e5764a83564a9c1885ffa2c97833aeea1400bb896cc30abf8874a7ac947", func := "bobstay/bobstaylaw07.SealBack", spec := "sealBack", unfollowed := true, recurses := true, apart := false }
def SealBackSaid : Prop := sealBackRow.holds Try.pinned (OpenSpec.ofChange sealBackSpec)

/-- ITS FALSE NEIGHBOUR: 'it returns false'. Refute it at one input. -/
def sealBackWrong : ChangeSpec := { name := "sealBack", fn := fun _ => fun
  | [d1, d2, d3] => { results := [.lit (.bool false)], args := [d1, d2, d3] }
  | _ => none }
def SealBackWrongFalsely : Prop := sealBackRow.holds Try.pinned (OpenSpec.ofChange sealBackWrong)

/-- 'bobstaylaw07.SealTags': WHATEVER THE INPUT: true; the input reads as it did. -/
def sealTagsSpec : ChangeSpec := { name := "sealTags", fn := fun _ => fun
  | [d1, d2, d3, d4, d5] => { results := [.lit (.bool true)], args := [d1, d2, d3, d4, d5] }
  | _ => none }
def sealTagsRow : OpenClaim := { program := "ythieegnhjoehbaa", sum := "61795e5764a83564a9c1885ffa2c97833aeea1400bb896cc30abf8874a7ac947", func := "bobstay/bobstaylaw07.SealTags", spec := "sealTags", unfollowed := true, recurses := true, apart := false }
def SealTagsSaid : Prop := sealTagsRow.holds Try.pinned (OpenSpec.ofChange sealTagsSpec)

/-- ITS FALSE NEIGHBOUR: 'it returns false'. Refute it at one input. -/
def sealTagsWrong : ChangeSpec := { name := "sealTags", fn := fun _ => fun
  | [d1, d2, d3, d4, d5] => { results := [.lit (.bool false)], args := [d1, d2, d3, d4, d5] }
  | _ => none }
def SealTagsWrongFalsely : Prop := sealTagsRow.holds Try.pinned (OpenSpec.ofChange sealTagsWrong)

/-- 'bobstaylaw07.SealSizes': WHATEVER THE INPUT: true; the input reads as it did. -/
def sealSizesSpec : ChangeSpec := { name := "sealSizes", fn := fun _ => fun
  | [d1, d2] => { results := [.lit (.bool true)], args := [d1, d2] }
  | _ => none }
def sealSizesRow : OpenClaim := { program := "ythieegnhjoehbaa", sum := "61795e5764a83564a9c1885ffa2c97833aeea1400bb896cc30abf8874a7ac947", func := "bobstay/bobstaylaw07.SealSizes", spec := "sealSizes", unfollowed := true, recurses := true, apart := false }
def SealSizesSaid : Prop := sealSizesRow.holds Try.pinned (OpenSpec.ofChange sealSizesSpec)

/-- ITS FALSE NEIGHBOUR: 'it returns false'. Refute it at one input. -/
def sealSizesWrong : ChangeSpec := { name := "sealSizes", fn := fun _ => fun
  | [d1, d2] => { results := [.lit (.bool false)], args := [d1, d2] }
  | _ => none }
def SealSizesWrongFalsely : Prop := sealSizesRow.holds Try.pinned (OpenSpec.ofChange sealSizesWrong)

/-- 'bobstaylaw07.SealDerives': WHATEVER THE INPUT: true; the input reads as it did. -/
def sealDerivesSpec : ChangeSpec := { name := "sealDerives", fn := fun _ => fun
  | [d1, d2] => { results := [.lit (.bool true)], args := [d1, d2] }
  | _ => none }
def sealDerivesRow : OpenClaim := { program := "ythieegnhjoehbaa", sum := "61795e5764a83564a9c1885ffa2c97833aeea1400bb896cc30abf8874a7ac947", func := "bobstay/bobstaylaw07.SealDerives", spec := "sealDerives", unfollowed := true, recurses := true, apart := false }
def SealDerivesSaid : Prop := sealDerivesRow.holds Try.pinned (OpenSpec.ofChange sealDerivesSpec)

/-- ITS FALSE NEIGHBOUR: 'it returns false'. Refute it at one input. -/
def sealDerivesWrong : ChangeSpec := { name := "sealDerives", fn := fun _ => fun
  | [d1, d2] => { results := [.lit (.bool false)], args := [d1, d2] }
  | _ => none }
def SealDerivesWrongFalsely : Prop := sealDerivesRow.holds Try.pinned (OpenSpec.ofChange sealDerivesWrong)

/- THE SECOND FORM. 'bulk': how many values and letters a reading holds, each counted each time it is reached (what is shared counts as often as it is met; a slice's spare places count too). A statement '..UptoSaid' is the law's where the arguments, and the package variables that the reading takes, are together of bulk at most 1048576: NARROWER than '..Said'. Prove '..Said' where nothing that the law and all that it calls make is longer than what came in: it says more and counts as full. Else prove '..UptoSaid'. A law counts once. -/
mutual
def uptoBulk {H : Type} : DataW H → Nat
  | .lit (.string bytes) => bytes.length + 1
  | .lit _ => 1
  | .nil => 1
  | .ptr d => uptoBulk d + 1
  | .slice elems spare => uptoBulkAll elems + uptoBulkAll spare + 1
  | .agg parts => uptoBulkAll parts + 1
  | .iface _ d => uptoBulk d + 1
  | .map entries => uptoBulkEntries entries + 1
  | .held _ => 1
def uptoBulkAll {H : Type} : List (DataW H) → Nat
  | [] => 0
  | d :: r => uptoBulk d + uptoBulkAll r
def uptoBulkEntries {H : Type} : List (Lit × DataW H) → Nat
  | [] => 0
  | x :: r => uptoBulkEntry x + uptoBulkEntries r
def uptoBulkEntry {H : Type} : Lit × DataW H → Nat
  | (.string bytes, d) => bytes.length + uptoBulk d + 1
  | (_, d) => uptoBulk d + 1
 end
def uptoSmall : (H : Type) → List (DataW H) → Bool := fun _ ds => decide (uptoBulkAll ds ≤ 1048576)
def OpenSpec.upto (s : _root_.Go.ChangeSpec) : _root_.Go.OpenSpec := { _root_.Go.OpenSpec.ofChange s with cond := some uptoSmall }

/-- 'bobstaylaw07.SealTells', WHERE WHAT IT READS IS OF BULK AT MOST 1048576: true; the input reads as it did. -/
def sealTellsUptoRow : OpenClaim := { program := "ythieegnhjoehbaa", sum := "61795e5764a83564a9c1885ffa2c97833aeea1400bb896cc30abf8874a7ac947", func := "bobstay/bobstaylaw07.SealTells", spec := "sealTells", unfollowed := true, recurses := true, apart := false, narrowed := true }
def SealTellsUptoSaid : Prop := sealTellsUptoRow.holds Try.pinned (OpenSpec.upto sealTellsSpec)

/-- 'bobstaylaw07.SealOpens', WHERE WHAT IT READS IS OF BULK AT MOST 1048576: true; the input reads as it did. -/
def sealOpensUptoRow : OpenClaim := { program := "ythieegnhjoehbaa", sum := "61795e5764a83564a9c1885ffa2c97833aeea1400bb896cc30abf8874a7ac947", func := "bobstay/bobstaylaw07.SealOpens", spec := "sealOpens", unfollowed := true, recurses := true, apart := false, narrowed := true }
def SealOpensUptoSaid : Prop := sealOpensUptoRow.holds Try.pinned (OpenSpec.upto sealOpensSpec)

/-- 'bobstaylaw07.SealBack', WHERE WHAT IT READS IS OF BULK AT MOST 1048576: true; the input reads as it did. -/
def sealBackUptoRow : OpenClaim := { program := "ythieegnhjoehbaa", sum := "61795e5764a83564a9c1885ffa2c97833aeea1400bb896cc30abf8874a7ac947", func := "bobstay/bobstaylaw07.SealBack", spec := "sealBack", unfollowed := true, recurses := true, apart := false, narrowed := true }
def SealBackUptoSaid : Prop := sealBackUptoRow.holds Try.pinned (OpenSpec.upto sealBackSpec)

/-- 'bobstaylaw07.SealTags', WHERE WHAT IT READS IS OF BULK AT MOST 1048576: true; the input reads as it did. -/
def sealTagsUptoRow : OpenClaim := { program := "ythieegnhjoehbaa", sum := "61795e5764a83564a9c1885ffa2c97833aeea1400bb896cc30abf8874a7ac947", func := "bobstay/bobstaylaw07.SealTags", spec := "sealTags", unfollowed := true, recurses := true, apart := false, narrowed := true }
def SealTagsUptoSaid : Prop := sealTagsUptoRow.holds Try.pinned (OpenSpec.upto sealTagsSpec)

/-- 'bobstaylaw07.SealSizes', WHERE WHAT IT READS IS OF BULK AT MOST 1048576: true; the input reads as it did. -/
def sealSizesUptoRow : OpenClaim := { program := "ythieegnhjoehbaa", sum := "61795e5764a83564a9c1885ffa2c97833aeea1400bb896cc30abf8874a7ac947", func := "bobstay/bobstaylaw07.SealSizes", spec := "sealSizes", unfollowed := true, recurses := true, apart := false, narrowed := true }
def SealSizesUptoSaid : Prop := sealSizesUptoRow.holds Try.pinned (OpenSpec.upto sealSizesSpec)

/-- 'bobstaylaw07.SealDerives', WHERE WHAT IT READS IS OF BULK AT MOST 1048576: true; the input reads as it did. -/
def sealDerivesUptoRow : OpenClaim := { program := "ythieegnhjoehbaa", sum := "61795e5764a83564a9c1885ffa2c97833aeea1400bb896cc30abf8874a7ac947", func := "bobstay/bobstaylaw07.SealDerives", spec := "sealDerives", unfollowed := true, recurses := true, apart := false, narrowed := true }
def SealDerivesUptoSaid : Prop := sealDerivesUptoRow.holds Try.pinned (OpenSpec.upto sealDerivesSpec)

end Rows
end Go.Proofs.Ythieegnhjoehbaa
