/-
  No cell of these rows narrows 'for every input' (looked for: loops, veiled, ifaces, maps, wideKeys, modest, calm, conditions, laid).
  DERIVED. THE GIVEN ROWS OF THIS SEAT. 7 by the template 'for every input the law returns true; each argument reads behind the call as it read before'; 0 by the template 'total and deterministic' (their statements: YtajcfafamdacdaaTotals.lean).
  GIVEN WITH THE SEED: the statements are not yours to turn. If you find one false, say at which input.
  Laid BY PROGRAM, IN A SANDBOX (cutbox-rows.mjs): the forced cells as the released guide's own fill.sh prints them over the translation 2af42f5f73088f0e… (all of the seat's roots in one cut). By AI agents, Wed Nov 11 2026. No macro, syntax, notation, axiom, sorry.
-/
import Derived.Test.YtajcfafamdacdaaChecked
import GoSem.Claim
import GoSem.ClaimJoined
import GoSem.ClaimMapViews
import Derived.JoinedTies
import Derived.KernelRfl
namespace Go.Proofs.Ytajcfafamdacdaa
/- THE CELL 'sum', in the pinned program and in every row, IS THE sha256 OF THE DUMP (.gsa) THAT YtajcfafamdacdaaProg.lean LOADS. Nothing in Lean hashes anything: it is a label: what it is worth is what the hold of that sum in a sandbox is worth. -/
noncomputable def Try.pinned : Pinned := { name := "ytajcfafamdacdaa", sum := "2af42f5f73088f0ee49d723ee09ff0bfa0bb0b385b4bc5150afaa8206d188856", checked := Try.checked }
namespace Rows
def none {H : Type} : Left H := { results := [], args := [] }

/-- 'bobstaylaw03.PacketTells': WHATEVER THE INPUT: true; the input reads as it did. -/
def packetTellsSpec : ChangeSpec := { name := "packetTells", fn := fun _ => fun
  | [d] => { results := [.lit (.bool true)], args := [d] }
  | _ => none }
def packetTellsRow : OpenClaim := { program := "ytajcfafamdacdaa", sum := "2af42f5f73088f0ee49d723ee09ff0bfa0bb0b385b4bc5150afaa8206d188856", func := "bobstay/bobstaylaw03.PacketTells", spec := "packetTells", unfollowed := true, recurses := true, apart := false }
def PacketTellsSaid : Prop := packetTellsRow.holds Try.pinned (OpenSpec.ofChange packetTellsSpec)

/-- ITS FALSE NEIGHBOUR: 'it returns false'. Refute it at one input. -/
def packetTellsWrong : ChangeSpec := { name := "packetTells", fn := fun _ => fun
  | [d] => { results := [.lit (.bool false)], args := [d] }
  | _ => none }
def PacketTellsWrongFalsely : Prop := packetTellsRow.holds Try.pinned (OpenSpec.ofChange packetTellsWrong)

/-- 'bobstaylaw03.PacketReads': WHATEVER THE INPUT: true; the input reads as it did. -/
def packetReadsSpec : ChangeSpec := { name := "packetReads", fn := fun _ => fun
  | [d] => { results := [.lit (.bool true)], args := [d] }
  | _ => none }
def packetReadsRow : OpenClaim := { program := "ytajcfafamdacdaa", sum := "2af42f5f73088f0ee49d723ee09ff0bfa0bb0b385b4bc5150afaa8206d188856", func := "bobstay/bobstaylaw03.PacketReads", spec := "packetReads", unfollowed := true, recurses := true, apart := false }
def PacketReadsSaid : Prop := packetReadsRow.holds Try.pinned (OpenSpec.ofChange packetReadsSpec)

/-- ITS FALSE NEIGHBOUR: 'it returns false'. Refute it at one input. -/
def packetReadsWrong : ChangeSpec := { name := "packetReads", fn := fun _ => fun
  | [d] => { results := [.lit (.bool false)], args := [d] }
  | _ => none }
def PacketReadsWrongFalsely : Prop := packetReadsRow.holds Try.pinned (OpenSpec.ofChange packetReadsWrong)

/-- 'bobstaylaw03.PacketPads': WHATEVER THE INPUT: true; the input reads as it did. -/
def packetPadsSpec : ChangeSpec := { name := "packetPads", fn := fun _ => fun
  | [d1, d2] => { results := [.lit (.bool true)], args := [d1, d2] }
  | _ => none }
def packetPadsRow : OpenClaim := { program := "ytajcfafamdacdaa", sum := "2af42f5f73088f0ee49d723ee09ff0bfa0bb0b385b4bc5150afaa8206d188856", func := "bobstay/bobstaylaw03.PacketPads", spec := "packetPads", unfollowed := true, recurses := true, apart := false }
def PacketPadsSaid : Prop := packetPadsRow.holds Try.pinned (OpenSpec.ofChange packetPadsSpec)

/-- ITS FALSE NEIGHBOUR: 'it returns false'. Refute it at one input. -/
def packetPadsWrong : ChangeSpec := { name := "packetPads", fn := fun _ => fun
  | [d1, d2] => { results := [.lit (.bool false)], args := [d1, d2] }
  | _ => none }
def PacketPadsWrongFalsely : Prop := packetPadsRow.holds Try.pinned (OpenSpec.ofChange packetPadsWrong)

/-- 'bobstaylaw03.PacketBack': WHATEVER THE INPUT: true; the input reads as it did. -/
def packetBackSpec : ChangeSpec := { name := "packetBack", fn := fun _ => fun
  | [d1, d2] => { results := [.lit (.bool true)], args := [d1, d2] }
  | _ => none }
def packetBackRow : OpenClaim := { program := "ytajcfafamdacdaa", sum := "2af42f5f73088f0ee49d723ee09ff0bfa0bb0b385b4bc5150afaa8206d188856", func := "bobstay/bobstaylaw03.PacketBack", spec := "packetBack", unfollowed := true, recurses := true, apart := false }
def PacketBackSaid : Prop := packetBackRow.holds Try.pinned (OpenSpec.ofChange packetBackSpec)

/-- ITS FALSE NEIGHBOUR: 'it returns false'. Refute it at one input. -/
def packetBackWrong : ChangeSpec := { name := "packetBack", fn := fun _ => fun
  | [d1, d2] => { results := [.lit (.bool false)], args := [d1, d2] }
  | _ => none }
def PacketBackWrongFalsely : Prop := packetBackRow.holds Try.pinned (OpenSpec.ofChange packetBackWrong)

/-- 'bobstaylaw03.PacketSizes': WHATEVER THE INPUT: true; the input reads as it did. -/
def packetSizesSpec : ChangeSpec := { name := "packetSizes", fn := fun _ => fun
  | [d1, d2] => { results := [.lit (.bool true)], args := [d1, d2] }
  | _ => none }
def packetSizesRow : OpenClaim := { program := "ytajcfafamdacdaa", sum := "2af42f5f73088f0ee49d723ee09ff0bfa0bb0b385b4bc5150afaa8206d188856", func := "bobstay/bobstaylaw03.PacketSizes", spec := "packetSizes", unfollowed := true, recurses := true, apart := false }
def PacketSizesSaid : Prop := packetSizesRow.holds Try.pinned (OpenSpec.ofChange packetSizesSpec)

/-- ITS FALSE NEIGHBOUR: 'it returns false'. Refute it at one input. -/
def packetSizesWrong : ChangeSpec := { name := "packetSizes", fn := fun _ => fun
  | [d1, d2] => { results := [.lit (.bool false)], args := [d1, d2] }
  | _ => none }
def PacketSizesWrongFalsely : Prop := packetSizesRow.holds Try.pinned (OpenSpec.ofChange packetSizesWrong)

/-- 'bobstaylaw03.PacketEliciting': WHATEVER THE INPUT: true; the input reads as it did. -/
def packetElicitingSpec : ChangeSpec := { name := "packetEliciting", fn := fun _ => fun
  | [d] => { results := [.lit (.bool true)], args := [d] }
  | _ => none }
def packetElicitingRow : OpenClaim := { program := "ytajcfafamdacdaa", sum := "2af42f5f73088f0ee49d723ee09ff0bfa0bb0b385b4bc5150afaa8206d188856", func := "bobstay/bobstaylaw03.PacketEliciting", spec := "packetEliciting", unfollowed := true, recurses := true, apart := false }
def PacketElicitingSaid : Prop := packetElicitingRow.holds Try.pinned (OpenSpec.ofChange packetElicitingSpec)

/-- ITS FALSE NEIGHBOUR: 'it returns false'. Refute it at one input. -/
def packetElicitingWrong : ChangeSpec := { name := "packetEliciting", fn := fun _ => fun
  | [d] => { results := [.lit (.bool false)], args := [d] }
  | _ => none }
def PacketElicitingWrongFalsely : Prop := packetElicitingRow.holds Try.pinned (OpenSpec.ofChange packetElicitingWrong)

/-- 'bobstaylaw03.PacketHeads': WHATEVER THE INPUT: true; the input reads as it did. -/
def packetHeadsSpec : ChangeSpec := { name := "packetHeads", fn := fun _ => fun
  | [d1, d2, d3] => { results := [.lit (.bool true)], args := [d1, d2, d3] }
  | _ => none }
def packetHeadsRow : OpenClaim := { program := "ytajcfafamdacdaa", sum := "2af42f5f73088f0ee49d723ee09ff0bfa0bb0b385b4bc5150afaa8206d188856", func := "bobstay/bobstaylaw03.PacketHeads", spec := "packetHeads", unfollowed := true, recurses := true, apart := false }
def PacketHeadsSaid : Prop := packetHeadsRow.holds Try.pinned (OpenSpec.ofChange packetHeadsSpec)

/-- ITS FALSE NEIGHBOUR: 'it returns false'. Refute it at one input. -/
def packetHeadsWrong : ChangeSpec := { name := "packetHeads", fn := fun _ => fun
  | [d1, d2, d3] => { results := [.lit (.bool false)], args := [d1, d2, d3] }
  | _ => none }
def PacketHeadsWrongFalsely : Prop := packetHeadsRow.holds Try.pinned (OpenSpec.ofChange packetHeadsWrong)

/- THE SECOND FORM. 'bulk': how many values and letters a reading holds, each counted each time it is reached (what is shared counts as often as it is met; a slice's spare places count too). A statement '..UptoSaid' is the law's where the arguments, and the package variables that the reading takes, are together of bulk at most 1048576: NARROWER than '..Said'. Prove '..Said' where nothing that the law and all that it calls make is longer than what came in: it says more and counts as full. Else prove '..UptoSaid'. A law counts once. -/
mutual
def uptoBulk {H : Type} : DataW H → Nat
  | .lit (.string bytes) => bytes.length + 1
  | .lit _ => 1
  | .nil => 1
  | .ptr d => uptoBulk d + 1
  | .slice elems spare => uptoBulkAll elems + uptoBulkAll spare + 1
  | .agg parts => uptoBulkAll parts + 1
  | .iface _ d => uptoBulk d + 1
  | .map entries => uptoBulkEntries entries + 1
  | .held _ => 1
def uptoBulkAll {H : Type} : List (DataW H) → Nat
  | [] => 0
  | d :: r => uptoBulk d + uptoBulkAll r
def uptoBulkEntries {H : Type} : List (Lit × DataW H) → Nat
  | [] => 0
  | x :: r => uptoBulkEntry x + uptoBulkEntries r
def uptoBulkEntry {H : Type} : Lit × DataW H → Nat
  | (.string bytes, d) => bytes.length + uptoBulk d + 1
  | (_, d) => uptoBulk d + 1
 end
def uptoSmall : (H : Type) → List (DataW H) → Bool := fun _ ds => decide (uptoBulkAll ds ≤ 1048576)
def OpenSpec.upto (s : _root_.Go.ChangeSpec) : _root_.Go.OpenSpec := { _root_.Go.OpenSpec.ofChange s with cond := some uptoSmall }

/-- 'bobstaylaw03.PacketTells', WHERE WHAT IT READS IS OF BULK AT MOST 1048576: true; the input reads as it did. -/
def packetTellsUptoRow : OpenClaim := { program := "ytajcfafamdacdaa", sum := "2af42f5f73088f0ee49d723ee09ff0bfa0bb0b385b4bc5150afaa8206d188856", func := "bobstay/bobstaylaw03.PacketTells", spec := "packetTells", unfollowed := true, recurses := true, apart := false, narrowed := true }
def PacketTellsUptoSaid : Prop := packetTellsUptoRow.holds Try.pinned (OpenSpec.upto packetTellsSpec)

/-- 'bobstaylaw03.PacketReads', WHERE WHAT IT READS IS OF BULK AT MOST 1048576: true; the input reads as it did. -/
def packetReadsUptoRow : OpenClaim := { program := "ytajcfafamdacdaa", sum := "2af42f5f73088f0ee49d723ee09ff0bfa0bb0b385b4bc5150afaa8206d188856", func := "bobstay/bobstaylaw03.PacketReads", spec := "packetReads", unfollowed := true, recurses := true, apart := false, narrowed := true }
def PacketReadsUptoSaid : Prop := packetReadsUptoRow.holds Try.pinned (OpenSpec.upto packetReadsSpec)

/-- 'bobstaylaw03.PacketPads', WHERE WHAT IT READS IS OF BULK AT MOST 1048576: true; the input reads as it did. -/
def packetPadsUptoRow : OpenClaim := { program := "ytajcfafamdacdaa", sum := "2af42f5f73088f0ee49d723ee09ff0bfa0bb0b385b4bc5150afaa8206d188856", func := "bobstay/bobstaylaw03.PacketPads", spec := "packetPads", unfollowed := true, recurses := true, apart := false, narrowed := true }
def PacketPadsUptoSaid : Prop := packetPadsUptoRow.holds Try.pinned (OpenSpec.upto packetPadsSpec)

/-- 'bobstaylaw03.PacketBack', WHERE WHAT IT READS IS OF BULK AT MOST 1048576: true; the input reads as it did. -/
def packetBackUptoRow : OpenClaim := { program := "ytajcfafamdacdaa", sum := "2af42f5f73088f0ee49d723ee09ff0bfa0bb0b385b4bc5150afaa8206d188856", func := "bobstay/bobstaylaw03.PacketBack", spec := "packetBack", unfollowed := true, recurses := true, apart := false, narrowed := true }
def PacketBackUptoSaid : Prop := packetBackUptoRow.holds Try.pinned (OpenSpec.upto packetBackSpec)

/-- 'bobstaylaw03.PacketSizes', WHERE WHAT IT READS IS OF BULK AT MOST 1048576: true; the input reads as it did. -/
def packetSizesUptoRow : OpenClaim := { program := "ytajcfafamdacdaa", sum := "2af42f5f73088f0ee49d723ee09ff0bfa0bb0b385b4bc5150afaa8206d188856", func := "bobstay/bobstaylaw03.PacketSizes", spec := "packetSizes", unfollowed := true, recurses := true, apart := false, narrowed := true }
def PacketSizesUptoSaid : Prop := packetSizesUptoRow.holds Try.pinned (OpenSpec.upto packetSizesSpec)

/-- 'bobstaylaw03.PacketEliciting', WHERE WHAT IT READS IS OF BULK AT MOST 1048576: true; the input reads as it did. -/
def packetElicitingUptoRow : OpenClaim := { program := "ytajcfafamdacdaa", sum := "2af42f5f73088f0ee49d723ee09ff0bfa0bb0b385b4bc5150afaa8206d188856", func := "bobstay/bobstaylaw03.PacketEliciting", spec := "packetEliciting", unfollowed := true, recurses := true, apart := false, narrowed := true }
def PacketElicitingUptoSaid : Prop := packetElicitingUptoRow.holds Try.pinned (OpenSpec.upto packetElicitingSpec)

/-- 'bobstaylaw03.PacketHeads', WHERE WHAT IT READS IS OF BULK AT MOST 1048576: true; the input reads as it did. -/
def packetHeadsUptoRow : OpenClaim := { program := "ytajcfafamdacdaa", sum := "2af42f5f73088f0ee49d723ee09ff0bfa0bb0b385b4bc5150afaa8206d188856", func := "bobstay/bobstaylaw03.PacketHeads", spec := "packetHeads", unfollowed := true, recurses := true, apart := false, narrowed := true }
def PacketHeadsUptoSaid : Prop := packetHeadsUptoRow.holds Try.pinned (OpenSpec.upto packetHeadsSpec)

end Rows
end Go.Proofs.Ytajcfafamdacdaa
