/- Strings. -/
import Derived.Test.YtadginombcjbeaaVe
namespace Go.Vc
open Go.RowKit
set_option linter.unusedVariables false
section s
variable {B : Tb} {E : Env} {n : Nat} {all rest : List Oper} {rs : Rs} {m : Mem} {K : Act → World → Prop}
variable {dst : Option Tmp} {ty : TypeId} {pos : String} {aft : Array Edge} {gd : Option (Nat × Bool)}
/-! strings -/
def str (ns : List Int) : ByteArray := ns.foldl (fun r n => r.push (UInt8.ofNat n.toNat)) ByteArray.empty
theorem under_plain {T : TypeId} {d : Ty} (hT : B.ty T = some d) (hp : plain d.desc = true) : B.P.underlying T = some d.desc := by
 have := Tb.tyOf hT
 unfold Vc.tyOf at this
 cases hu : B.P.underlying T with
 | none => simp [hu] at this
 | some u =>
  cases hi : B.P.info? T with
  | none => simp [hu, hi] at this
  | some i =>
   simp [hu, hi] at this
   subst this
   cases u <;> simp_all [slim, plain]
theorem pure_bytes_string {x : Operand} {S T eT : TypeId} {d d2 u : Ty} {base : Option Addr} {len cap j : Nat} {e : Ent} {ns : List Int}
  (hx : ev rs x = some (.slice base len cap)) (hS : B.ty S = some d) (hd : d.desc = .slice eT) (hu : B.ty eT = some u) (hud : u.desc = .int .u8) (hu1 : u.size = 1)
  (hT : B.ty T = some d2) (hd2 : d2.desc = .string) (hs : SlIs u eT e base len cap (row ns)) (he : nth m j = some e) :
  Pure B E rs m ⟨dst, .convert S T x, ty, pos, aft, gd⟩ (.string (str ns)) := by
 refine ⟨fun a w hr hh hk => ?_⟩
 have k1 := under_of hS hd
 have k2 := under_plain hu (by rw [hud]; rfl)
 rw [hud] at k2
 have k3 := under_plain hT (by rw [hd2]; rfl)
 rw [hd2] at k3
 have key : (Conv.bytesToString (.slice base len cap)).run B.P w = .ok (.string (str ns)) w := by
  have hlen : ns.length = len := by have := hs.len; rw [row_len, hu1, Nat.mul_one] at this; exact this
  by_cases hlive : e.cells = []
  ·have hn : ns = [] := by
    have := hs.xs
    rw [hlive] at this
    cases ns with
    | nil => rfl
    | cons x l => simp [ints] at this
   subst hn
   subst hlen
   cases base with
   | none => simp [Conv.bytesToString, str]
   | some p => exact run_bytesToString w p 0 cap [] (by simp [loadCells, loadCellsFrom])
  ·obtain ⟨hb, hel⟩ := hs.at_ hlive
   subst hb
   have hc := hh.cell (nth_mem he) hlive
   refine run_bytesToString w ⟨e.blk, 0, none⟩ len cap ns ?_
   rw [Go.Vc.run_loadCells hc len (by have h1 := hs.size; have h2 := hs.le; rw [hu1, Nat.mul_one] at h1; omega), List.drop_zero]
   have := hs.xs
   rw [hu1, Nat.mul_one] at this
   rw [this]
   rfl
 simp [execOp, ev_ok hr hx, run_convert_bytes_string w S T eT base len cap k1 k2 k3, key]
theorem pure_str_eql {x y : Operand} {T U : TypeId} {s t : ByteArray} (hx : ev rs x = some (.string s)) (hy : ev rs y = some (.string t)) :
  Pure B E rs m ⟨dst, .binOp .eql T x y U, ty, pos, aft, gd⟩ (.bool (s.toList == t.toList)) := by
 refine ⟨fun a w hr hh hk => ?_⟩
 simp [execOp, ev_ok hr hx, ev_ok hr hy, eqGuard, binOp, Op.stringOp]
end s
end Go.Vc
