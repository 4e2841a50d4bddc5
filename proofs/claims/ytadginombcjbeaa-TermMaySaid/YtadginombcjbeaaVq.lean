/- Arrays of integers, compared. -/
import Derived.Test.YtadginombcjbeaaVt
import Derived.ChangeKeysEq
namespace Go.Vc
open Go.RowKit
set_option linter.unusedVariables false
section q
variable {B : Tb} {E : Env} {rs : Rs} {m : Mem} {dst : Option Tmp} {ty : TypeId} {pos : String} {aft : Array Edge} {gd : Option (Nat × Bool)}
theorem run_eq_int {e : TypeId} {u : Ty} {k : IntKind} (hu : B.ty e = some u) (hd : u.desc = .int k) (d : Nat) (a b : Int) (w : World) :
  (Op.equalIn (d + 1) e (.int k a) (.int k b)).run B.P w = .ok (a == b) w := by
 have h := under_plain hu (by rw [hd]; rfl)
 rw [hd] at h
 simp [Op.equalIn, run_underlying h]
theorem run_items_ints {e : TypeId} {u : Ty} {k : IntKind} (hu : B.ty e = some u) (hd : u.desc = .int k) (ha : u.agg = false) (d : Nat) (l x : List Int) (w : World) : ∀ is : List Nat, (∀ i ∈ is, i < l.length ∧ i < x.length) →
  (Op.eqItems (d + 1) e 1 (ints k l).toArray (ints k x).toArray is).run B.P w = .ok (is.all fun i => l.getD i 0 == x.getD i 0) w := by
 intro is
 induction is with
 | nil => intro _; simp [Op.eqItems]
 | cons i is ih =>
  intro h
  have hi := h i (.head _)
  have p1 := run_part (B := B) hu ha (cs := (ints k l).toArray) (off := i * 1) (v := .int k (l.getD i 0)) (by rw [Nat.mul_one]; simpa using ints_get k l i hi.1) w
  have p2 := run_part (B := B) hu ha (cs := (ints k x).toArray) (off := i * 1) (v := .int k (x.getD i 0)) (by rw [Nat.mul_one]; simpa using ints_get k x i hi.2) w
  simp only [Op.eqItems, Sem.run_bind, p1, p2, run_eq_int hu hd, Result.andThen_ok]
  have := ih (fun j hj => h j (.tail _ hj))
  cases hb : (l.getD i 0 == x.getD i 0) with
  | false => simp [List.all_cons, -List.getD_eq_getElem?_getD, hb]
  | true => simp [List.all_cons, -List.getD_eq_getElem?_getD, hb, this]
theorem all_getD_iff (l x : List Int) (h : l.length = x.length) : ((List.range l.length).all fun i => l.getD i 0 == x.getD i 0) = decide (l = x) := by
 rw [Bool.eq_iff_iff, List.all_eq_true, decide_eq_true_iff]
 constructor
 ·intro hh
  apply List.ext_getElem h
  intro i h1 h2
  have := hh i (List.mem_range.2 h1)
  simp only [beq_iff_eq] at this
  simpa [h1, h2] using this
 ·rintro rfl i _
  simp
theorem info_of {T : TypeId} {d : Ty} (h : B.ty T = some d) : ∃ i, B.P.info? T = some i ∧ i.size = d.size := by
 have := Tb.tyOf h
 unfold Vc.tyOf at this
 cases hu : B.P.underlying T with
 | none => simp [hu] at this
 | some u =>
  cases hi : B.P.info? T with
  | none => simp [hu, hi] at this
  | some i =>
   simp [hu, hi] at this
   subst this
   exact ⟨i, rfl, rfl⟩
theorem cells_of {T : TypeId} {d : Ty} (h : B.ty T = some d) : B.P.cellsOf T = d.size := by
 obtain ⟨i, hi, hs⟩ := info_of h
 simp [Program.cellsOf, hi, hs]
/-- An array of integers equals another just if their lists are alike. -/
theorem run_eq_arr {T e : TypeId} {dT u : Ty} {k : IntKind} {n : Nat} (hT : B.ty T = some dT) (hd : dT.desc = .array n e) (hu : B.ty e = some u) (hk : u.desc = .int k) (hs : u.size = 1) (ha : u.agg = false)
  (d : Nat) (l x : List Int) (hl : l.length = n) (hx : x.length = n) (w : World) :
  (Op.equalIn (d + 2) T (.agg (ints k l).toArray) (.agg (ints k x).toArray)).run B.P w = .ok (decide (l = x)) w := by
 have h1 := under_plain hT (by rw [hd]; rfl)
 rw [hd] at h1
 obtain ⟨i, hi, _⟩ := info_of hu
 rw [run_equalIn_array w (d + 1) _ _ h1 hi, cells_of hu, hs, run_items_ints hu hk ha d l x w _ (fun j hj => by have := List.mem_range.1 hj; omega)]
 rw [← hl, all_getD_iff l x (by omega)]
theorem pure_eql_arr {x y : Operand} {T U e : TypeId} {dT u : Ty} {k : IntKind} {n : Nat} {l r : List Int} (hx : ev rs x = some (.agg (ints k l).toArray)) (hy : ev rs y = some (.agg (ints k r).toArray))
  (hg : B.P.eqGuardType B.P.depth T = false)
  (hT : B.ty T = some dT) (hd : dT.desc = .array n e) (hu : B.ty e = some u) (hk : u.desc = .int k) (hs : u.size = 1) (ha : u.agg = false) (hl : l.length = n) (hr : r.length = n) :
  Pure B E rs m ⟨dst, .binOp .eql T x y U, ty, pos, aft, gd⟩ (.bool (decide (l = r))) := by
 refine ⟨fun a w hrg hh hkp => ?_⟩
 have key := run_eq_arr hT hd hu hk hs ha 9998 l r hl hr w
 simp [execOp, ev_ok hrg hx, ev_ok hrg hy, eqGuard, binOp, hg, Op.equal, Op.maxDepth, key]
end q
end Go.Vc
