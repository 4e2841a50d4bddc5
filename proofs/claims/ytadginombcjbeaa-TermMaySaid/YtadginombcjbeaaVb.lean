/- Rows of integers in memory; addresses in a short form. -/
import Derived.Test.YtadginombcjbeaaVd
namespace Go.Vc
open Go.RowKit
set_option linter.unusedVariables false
/-- Integers of one kind, as cells. -/
def ints (k : IntKind) (l : List Int) : List Value := l.map (Value.int k)
abbrev row (l : List Int) : List Value := ints .u8 l
theorem ints_len (k : IntKind) (l : List Int) : (ints k l).length = l.length := List.length_map ..
theorem row_len (l : List Int) : (row l).length = l.length := List.length_map ..
theorem ints_get (k : IntKind) (l : List Int) (i : Nat) (h : i < l.length) : (ints k l)[i]? = some (.int k (l.getD i 0)) := by
 simp [ints, h]
theorem row_get (l : List Int) (i : Nat) (h : i < l.length) : (row l)[i]? = some (.int .u8 (l.getD i 0)) := ints_get .u8 l i h
theorem ints_set (k : IntKind) (l : List Int) (i : Nat) (n : Int) : (ints k l).set i (.int k n) = ints k (l.set i n) := (List.map_set ..).symm
theorem row_set (l : List Int) (i : Nat) (n : Int) : (row l).set i (.int .u8 n) = row (l.set i n) := ints_set .u8 l i n
theorem ints_one (k : IntKind) (l : List Int) : ∀ v ∈ ints k l, v.oneCell' = true := by
 intro v hv
 obtain ⟨n, _, rfl⟩ := List.mem_map.1 hv
 rfl
theorem row_one (l : List Int) : ∀ v ∈ row l, v.oneCell' = true := ints_one .u8 l
theorem getD_set_self (l : List Int) (i : Nat) (x : Int) (h : i < l.length) : (l.set i x).getD i 0 = x := by
 simp [h]
theorem splice_all {α : Type} {c vs : List α} (h : vs.length = c.length) : splice c 0 vs = vs := by
 unfold splice
 rw [List.drop_of_length_le (by omega)]
 simp
theorem ints_sub (k : IntKind) (l : List Int) (o n : Nat) : ((ints k l).drop o).take n = ints k ((l.drop o).take n) := by
 simp [ints, List.map_take, List.map_drop]
theorem ints_whole (k : IntKind) (l : List Int) (n : Nat) (h : l.length = n) : ((ints k l).drop 0).take n = ints k l := by
 rw [List.drop_zero, List.take_of_length_le (by rw [ints_len]; omega)]
theorem ints_splice (k : IntKind) (l x : List Int) (o : Nat) : splice (ints k l) o (ints k x) = ints k (splice l o x) := by
 simp [splice, ints, List.map_take, List.map_drop]
theorem splice_len {α : Type} {c vs : List α} {o : Nat} (h : o + vs.length ≤ c.length) : (splice c o vs).length = c.length := by
 simp [splice]; omega
/-- n bytes 0. -/
def zeros (n : Nat) : List Int := List.replicate n 0
theorem zeros_len (n : Nat) : (zeros n).length = n := List.length_replicate ..
/-- Bytes. -/
def Bytes (l : List Int) : Prop := ∀ x ∈ l, 0 ≤ x ∧ x < 256
theorem Bytes.at {l : List Int} (h : Bytes l) (i : Nat) : 0 ≤ l.getD i 0 ∧ l.getD i 0 < 256 := by
 rw [List.getD_eq_getElem?_getD]
 cases hx : l[i]? with
 | none => exact ⟨by decide, by decide⟩
 | some x => exact h x (List.mem_of_getElem? hx)
theorem Bytes.ix {l : List Int} (h : Bytes l) (i : Nat) : 0 + (l.getD i 0).toNat * 1 < 256 := by
 have := h.at i
 omega
theorem Bytes.set {l : List Int} (h : Bytes l) (i : Nat) {x : Int} (hx : 0 ≤ x ∧ x < 256) : Bytes (l.set i x) := by
 intro y hy
 rcases List.mem_or_eq_of_mem_set hy with hy | rfl
 ·exact h y hy
 ·exact hx
theorem Bytes.append {l m : List Int} (h : Bytes l) (k : Bytes m) : Bytes (l ++ m) := by
 intro x hx
 rcases List.mem_append.1 hx with hx | hx
 ·exact h x hx
 ·exact k x hx
theorem Bytes.sub {l : List Int} (h : Bytes l) (o n : Nat) : Bytes ((l.drop o).take n) := fun x hx => h x (List.mem_of_mem_drop (List.mem_of_mem_take hx))
theorem Bytes.replicate (n : Nat) : Bytes (List.replicate n 0) := by
 intro x hx
 rw [(List.mem_replicate.1 hx).2]
 decide
theorem Bytes.splice {l x : List Int} {o : Nat} (h : Bytes l) (k : Bytes x) : Bytes (Vc.splice l o x) := by
 intro y hy
 unfold Vc.splice at hy
 rcases List.mem_append.1 hy with hy | hy
 ·rcases List.mem_append.1 hy with hy | hy
  ·exact h y (List.mem_of_mem_take hy)
  ·exact k y hy
 ·exact h y (List.mem_of_mem_drop hy)
theorem wrap_u8 (n : Int) : IntKind.u8.wrap n = n % 256 := by simp [IntKind.wrap, IntKind.bits, IntKind.signed]
theorem bits_byte (op : BinOp) (a b : Int) : 0 ≤ bits op .u8 a b ∧ bits op .u8 a b < 256 := by
 cases op <;> simp only [bits] <;> first | (rw [wrap_u8]; omega) | decide
section
variable {B : Tb} {E : Env} {rs : Rs} {m : Mem} {dst : Option Tmp} {ty : TypeId} {pos : String} {aft : Array Edge} {gd : Option (Nat × Bool)}
/-- Addresses, their places said otherwise. -/
theorem pure_ix {x y : Operand} {T eT : TypeId} {len b off off' : Nat} {k : IntKind} {i : Int} {d u : Ty}
  (hx : ev rs x = some (.pointer (some ⟨b, off, none⟩))) (hy : ev rs y = some (.int k i)) (hT : B.ty T = some d) (hd : d.desc = .array len eT)
  (hu : B.ty eT = some u) (h0 : 0 ≤ i) (h1 : i < len) (ho : off + i.toNat * u.size = off') :
  Pure B E rs m ⟨dst, .indexAddr T x y, ty, pos, aft, gd⟩ (.pointer (some ⟨b, off', none⟩)) := ho ▸ pure_indexAddr_arr hx hy hT hd hu h0 h1
theorem pure_ixs {x y : Operand} {T eT : TypeId} {len cap b off off' : Nat} {k : IntKind} {i : Int} {d u : Ty}
  (hx : ev rs x = some (.slice (some ⟨b, off, none⟩) len cap)) (hy : ev rs y = some (.int k i)) (hT : B.ty T = some d) (hd : d.desc = .slice eT)
  (hu : B.ty eT = some u) (h0 : 0 ≤ i) (h1 : i < len) (ho : off + i.toNat * u.size = off') :
  Pure B E rs m ⟨dst, .indexAddr T x y, ty, pos, aft, gd⟩ (.pointer (some ⟨b, off', none⟩)) := ho ▸ pure_indexAddr_slice hx hy hT hd hu h0 h1
end
end Go.Vc
