/- A small engine for walks: a state is what is known of the registers and which blocks lie in memory; one lemma an operation. No program is named here. -/
import Derived.WalkKit
import Derived.Deep.LoopGhost
import Derived.TacticsIn
import Derived.OrdersIn
namespace Go.Vc
open Go.RowKit
set_option linter.unusedVariables false
/-! ### types -/
structure Ty where
 desc : TypeDesc
 size : Nat
 agg : Bool
def aggOf : TypeDesc → Bool
 | .struct _ => true
 | .array _ _ => true
 | _ => false
/-- A field: its type, and where it stands. -/
def fd (t off : Nat) : Field := { name := "", type := t, offset := off, embedded := false, tag := "", pkgPath := "", byteOffset := 0 }
/-- What a walk asks of a type. -/
def slim : TypeDesc → TypeDesc
 | .struct fs => .struct (fs.map fun f => fd f.type f.offset)
 | .interface _ => .interface #[]
 | .func _ _ _ => .func #[] #[] false
 | .named _ _ => .invalid
 | d => d
def tyOf (P : Program) (T : TypeId) : Option Ty :=
 match P.underlying T, P.info? T with
 | some d, some i => some { desc := slim d, size := i.size, agg := aggOf d }
 | _, _ => none
/-- A program with a table of its types. -/
structure Tb where
 P : Program
 tys : List (Option Ty)
 ok : (List.range tys.length).map (tyOf P) = tys
 rnd : Option Nat := none
/-- The same, within a round of a loop over a function. -/
def Tb.inRound (B : Tb) (l : Nat) : Tb := { B with rnd := some l }
/-- Any function may be called, however deep. -/
def Tb.F (B : Tb) : Fence := { Fence.wide with round := B.rnd }
def nth {α : Type} : List α → Nat → Option α
 | [], _ => none
 | x :: r, n => bif Nat.beq n 0 then some x else nth r (Nat.pred n)
theorem nth_eq {α : Type} (l : List α) (n : Nat) : nth l n = l[n]? := by
 induction l generalizing n with
 | nil => rfl
 | cons x r ih =>
  cases n with
  | zero => rfl
  | succ n => exact ih n
def Tb.ty (B : Tb) (T : TypeId) : Option Ty := (nth B.tys T).join
theorem Tb.tyOf {B : Tb} {T : TypeId} {d : Ty} (h : B.ty T = some d) : Vc.tyOf B.P T = some d := by
 unfold Tb.ty at h
 rw [nth_eq] at h
 have hl : T < B.tys.length := by
  apply Classical.byContradiction; intro hn
  rw [List.getElem?_eq_none (Nat.le_of_not_lt hn)] at h
  simp at h
 have e := congrArg (fun l => l[T]?) B.ok
 simp only [List.getElem?_map, List.getElem?_range hl, Option.map_some] at e
 rw [← e] at h
 simpa using h
section
variable {B : Tb} {T : TypeId} {d : Ty}
theorem ty_slim (h : B.ty T = some d) : ∃ u, slim u = d.desc ∧ ∀ w, (underlying T).run B.P w = .ok u w := by
 have := Tb.tyOf h
 unfold Vc.tyOf at this
 cases hu : B.P.underlying T with
 | none => simp [hu] at this
 | some u =>
  cases hi : B.P.info? T with
  | none => simp [hu, hi] at this
  | some i =>
   simp [hu, hi] at this
   subst this
   exact ⟨u, rfl, fun w => by simp [underlying, hu]⟩
def plain : TypeDesc → Bool
 | .struct _ => false
 | .interface _ => false
 | .func _ _ _ => false
 | .named _ _ => false
 | .invalid => false
 | _ => true
theorem ty_under (h : B.ty T = some d) (hp : plain d.desc = true) (w : World) : (underlying T).run B.P w = .ok d.desc w := by
 obtain ⟨u, hs, hr⟩ := ty_slim h
 rw [hr w]
 cases u <;> simp only [slim] at hs <;> first | (rw [hs]) | (rw [← hs] at hp; cases hp)
theorem ty_struct (h : B.ty T = some d) {fs : Array Field} (hd : d.desc = .struct fs) : ∃ gs : Array Field, (gs.map fun f => fd f.type f.offset) = fs ∧ ∀ w, (underlying T).run B.P w = .ok (.struct gs) w := by
 obtain ⟨u, hs, hr⟩ := ty_slim h
 rw [hd] at hs
 cases u <;> simp only [slim] at hs <;> first | (injection hs with hs; exact ⟨_, hs, hr⟩) | cases hs
theorem ty_size (h : B.ty T = some d) (w : World) : (sizeOf T).run B.P w = .ok d.size w := by
 have := Tb.tyOf h
 unfold Vc.tyOf at this
 cases hu : B.P.underlying T with
 | none => simp [hu] at this
 | some u =>
  cases hi : B.P.info? T with
  | none => simp [hu, hi] at this
  | some i =>
   simp [hu, hi] at this
   subst this
   simp [sizeOf, typeInfo, hi]
theorem ty_agg (h : B.ty T = some d) (w : World) : (isAgg T).run B.P w = .ok d.agg w := by
 have := Tb.tyOf h
 unfold Vc.tyOf at this
 cases hu : B.P.underlying T with
 | none => simp [hu] at this
 | some u =>
  cases hi : B.P.info? T with
  | none => simp [hu, hi] at this
  | some i =>
   simp [hu, hi] at this
   subst this
   cases u <;> simp [isAgg, underlying, hu, aggOf]
end
/-! ### registers -/
abbrev Rs := List (Nat × Value)
def look : Rs → Nat → Option Value
 | [], _ => none
 | (k, v) :: r, t => bif Nat.beq k t then some v else look r t
def Regs (rs : Rs) (a : Act) : Prop := ∀ t v, look rs t = some v → a.tmps[t]? = some v
def put (rs : Rs) (d : Option Tmp) (v : Value) : Rs :=
 match d with
 | some d => (d, v) :: rs
 | none => rs
def dOk (n : Nat) (d : Option Tmp) : Bool :=
 match d with
 | some d => Nat.blt d n
 | none => true
def ev (rs : Rs) : Operand → Option Value
 | .tmp t => look rs t
 | .const v => some v
 | .global g => some (.pointer (some ⟨g, 0, none⟩))
 | .func f => some (.func (.func f) #[] #[])
theorem ev_ok {rs : Rs} {a : Act} {x : Operand} {v : Value} (h : Regs rs a) (hx : ev rs x = some v) : a.eval x = v := by
 cases x with
 | tmp t =>
  have := h t v hx
  simp [Act.eval, Array.getD_eq_getD_getElem?, this]
 | const u => exact Option.some.inj hx
 | global g => exact Option.some.inj hx
 | func f => exact Option.some.inj hx
theorem put_size (a : Act) (d : Option Tmp) (v : Value) : (a.put d v).tmps.size = a.tmps.size := by
 cases d <;> simp [Act.put]
theorem put_defers (a : Act) (d : Option Tmp) (v : Value) : (a.put d v).defers = a.defers := by
 cases d <;> rfl
theorem put_regs {n : Nat} {rs : Rs} {a : Act} {d : Option Tmp} {v : Value} (hn : a.tmps.size = n) (hd : dOk n d = true) (h : Regs rs a) :
  Regs (put rs d v) (a.put d v) := by
 cases d with
 | none => exact h
 | some d =>
  have hlt : d < n := by
   have : Nat.blt d n = true := hd
   exact Nat.le_of_ble_eq_true this
  intro t u hu
  simp only [put, look] at hu
  by_cases e : d = t
  ·subst e
   have hb : Nat.beq d d = true := Nat.beq_refl d
   rw [hb] at hu
   simp only [cond_true, Option.some.injEq] at hu
   subst hu
   simp [Act.put, hn, hlt]
  ·have e' : Nat.beq d t = false := by
    cases hb : Nat.beq d t with
    | false => rfl
    | true => exact absurd (Nat.eq_of_beq_eq_true hb) e
   rw [e'] at hu
   have := h t u hu
   simp only [Act.put, Array.getElem?_setIfInBounds_ne e]
   exact this
/-! ### memory -/
structure Ent where
 blk : Nat
 cells : List Value
 elem : TypeId
abbrev Mem := List Ent
def apartFrom (b : Nat) : Mem → Prop
 | [] => True
 | e :: m => (e.cells ≠ [] → b ≠ e.blk) ∧ apartFrom b m
/-- The blocks lie there, each with its cells, no two the same. Of a block without cells nothing is said. -/
def Has (w : World) : Mem → Prop
 | [] => True
 | e :: m => (e.cells ≠ [] → w.heap[e.blk]? = some (.cells e.cells.toArray e.elem (0, 0))) ∧ (e.cells ≠ [] → apartFrom e.blk m) ∧ Has w m
/-- A start, and the blocks from before it that may be written. -/
structure Env where
 w0 : World
 ws : List Nat
 defs : List Deferred
structure Keep (w0 w : World) (ws : List Nat) : Prop where
 os : w.os = w0.os
 tape : w.tape = w0.tape
 output : w.output = w0.output
 size : w0.heap.size ≤ w.heap.size
 block : ∀ k, k < w0.heap.size → k ∉ ws → w.heap[k]? = w0.heap[k]?
theorem Keep.refl (w : World) (ws : List Nat) : Keep w w ws := ⟨rfl, rfl, rfl, Nat.le_refl _, fun _ _ _ => rfl⟩
theorem Keep.trans {a b c : World} {ws vs : List Nat} (h : Keep a b ws) (k : Keep b c vs) (hs : ∀ x ∈ vs, x < a.heap.size → x ∈ ws) : Keep a c ws :=
 ⟨k.os.trans h.os, k.tape.trans h.tape, k.output.trans h.output, Nat.le_trans h.size k.size, fun i hi hn =>
  (k.block i (Nat.lt_of_lt_of_le hi h.size) (fun hv => hn (hs i hv hi))).trans (h.block i hi hn)⟩
theorem Keep.below {a b : World} (h : Keep a b []) : Below a.heap.size a b :=
 ⟨h.os, h.tape, h.output, h.size, fun k hk => h.block k hk (by simp)⟩
theorem Keep.of_below {a b : World} (h : Below a.heap.size a b) (ws : List Nat) : Keep a b ws :=
 ⟨h.os, h.tape, h.output, h.size, fun k hk _ => h.block k hk⟩
theorem Keep.mono {a b : World} {ws vs : List Nat} (h : Keep a b ws) (hs : ∀ x ∈ ws, x ∈ vs) : Keep a b vs :=
 ⟨h.os, h.tape, h.output, h.size, fun k hk hn => h.block k hk (fun hx => hn (hs k hx))⟩
theorem Keep.drew {a b : World} {ws : List Nat} (h : Keep a b ws) : Keep a b.drew ws := ⟨h.os, h.tape, h.output, h.size, h.block⟩
/-- What may be written: new blocks, and those that are named. -/
def Own (E : Env) : Mem → Prop
 | [] => True
 | e :: m => (e.cells ≠ [] → E.w0.heap.size ≤ e.blk ∨ e.blk ∈ E.ws) ∧ Own E m
theorem lt_of_heap {w : World} {b : Nat} {o : Obj} (h : w.heap[b]? = some o) : b < w.heap.size := by
 rcases Nat.lt_or_ge b w.heap.size with h' | h'
 ·exact h'
 ·rw [Array.getElem?_eq_none h'] at h; cases h
theorem Has.cell {w : World} {m : Mem} {e : Ent} (h : Has w m) (he : e ∈ m) (hl : e.cells ≠ []) : w.heap[e.blk]? = some (.cells e.cells.toArray e.elem (0, 0)) := by
 induction m with
 | nil => cases he
 | cons x m ih =>
  cases he with
  | head => exact h.1 hl
  | tail _ hm => exact ih h.2.2 hm
theorem Own.at {E : Env} {m : Mem} {e : Ent} (h : Own E m) (he : e ∈ m) (hl : e.cells ≠ []) : E.w0.heap.size ≤ e.blk ∨ e.blk ∈ E.ws := by
 induction m with
 | nil => cases he
 | cons x m ih =>
  cases he with
  | head => exact h.1 hl
  | tail _ hm => exact ih h.2 hm
/-- Blocks that another world holds as well. -/
theorem Has.of_same {w w' : World} {m : Mem} (h : Has w m) (hs : ∀ e ∈ m, e.cells ≠ [] → w'.heap[e.blk]? = w.heap[e.blk]?) : Has w' m := by
 induction m with
 | nil => trivial
 | cons x m ih => exact ⟨fun hl => (hs x (.head _) hl).trans (h.1 hl), h.2.1, ih h.2.2 (fun e he => hs e (.tail _ he))⟩
structure Ok (E : Env) (n : Nat) (rs : Rs) (m : Mem) (a : Act) (w : World) : Prop where
 size : a.tmps.size = n
 defers : a.defers = E.defs
 regs : Regs rs a
 has : Has w m
 own : Own E m
 keep : Keep E.w0 w E.ws
abbrev Post := Exit → Rs → Mem → Prop
def lift (E : Env) (n : Nat) (Q : Post) : Exit → Act → World → Prop := fun e a w => ∃ rs m, Ok E n rs m a w ∧ Q e rs m
/-- What is known where a list of operations ends. -/
def KK (E : Env) (n : Nat) (Q : Rs → Mem → Prop) : Act → World → Prop := fun a w => ∃ rs m, Ok E n rs m a w ∧ Q rs m
/-- The code, from each state of which this is known, comes to one of which Q says what is known. -/
structure WP (B : Tb) (E : Env) (n : Nat) (c : Code) (rs : Rs) (m : Mem) (Q : Post) : Prop where
 run : ∀ a w, Ok E n rs m a w → c.wpIn B.F 9 B.P (lift E n Q) a w
/-- A loop: an invariant that bears a number, which every round lowers. -/
theorem loop_ghost {F : Fence} {n : Nat} {P : Program} {Q : Exit → Act → World → Prop} {a : Act} {w : World} {c : Code} (I : Nat → Act → World → Prop) (n₀ : Nat) (h₀ : I n₀ a w)
  (round : ∀ k a w, I k a w → c.wpIn F n P (Exit.then (fun a' w' => ∃ k', k' < k ∧ I k' a' w') Q) a w) : (Code.loop c).wpIn F n P Q a w := by
 refine wpIn_loop (fun a w => ∃ k, I k a w) (fun a w => leastOf (fun k => I k a w)) ⟨n₀, h₀⟩ ?_
 intro a w hI
 refine Go.wpIn_mono (round _ a w (leastOf_spec hI).1) ?_
 intro e a' w' hq
 cases e with
 | normal =>
  obtain ⟨k', hlt, hI'⟩ := hq
  exact show (∃ k, I k a' w') ∧ leastOf (fun k => I k a' w') < leastOf (fun k => I k a w) from ⟨⟨k', hI'⟩, Nat.lt_of_le_of_lt ((leastOf_spec ⟨k', hI'⟩).2 k' hI') hlt⟩
 | exit id => exact hq
 | goto l => exact hq
 | ret => exact hq
 | panic ch => exact hq
 | outgrown => exact hq
/-! What is shown of an operation anywhere holds within a round. -/
def isDef : Op → Bool
 | .defer _ => true
 | _ => false
def noDef : List Oper → Bool
 | [] => true
 | o :: l => bif isDef o.op then false else noDef l
theorem noDef_ok {l : List Oper} (h : noDef l = true) : ∀ o ∈ l, ∀ c, o.op ≠ .defer c := by
 induction l with
 | nil => intro o ho; cases ho
 | cons x l ih =>
  simp only [noDef] at h
  cases hx : isDef x.op with
  | true => rw [hx] at h; cases h
  | false =>
   rw [hx] at h
   intro o ho c e
   cases ho with
   | head => rw [e] at hx; cases hx
   | tail _ hm => exact ih h o hm c e
theorem oper_in {B : Tb} {o : Oper} {a : Act} {w : World} {K : Act → World → Prop} {Q : Exit → Act → World → Prop} (hd : ∀ c, o.op ≠ .defer c) (h : o.wp B.P a w K Q) :
  o.wpIn B.F 9 B.P a w K Q := by
 refine ⟨fun _ _ => trivial, ?_⟩
 rw [Oper.semAt_eq _ _ _ hd]
 unfold Oper.wp at h
 generalize (execOp a.eval o).run B.P w = r at h ⊢
 cases r with
 | ok x w' =>
  cases x <;> simp only [Oper.upon, Oper.uponIn] at h ⊢ <;>
   first
    | exact h
    | exact ⟨fun hx => (by cases hx), callsIn_wide.2 h⟩
    | exact ⟨fun hx => (by cases hx), fun c cs _ => let ⟨v, w', r, s⟩ := h c cs; ⟨v, w', r, stepsIn_wide.2 s⟩⟩
    | exact h.elim
 | halt x w' => cases x <;> simp only [Oper.upon, Oper.uponIn] at h ⊢ <;> exact h
theorem list_in {B : Tb} {ops : Array Oper} {Q : Exit → Act → World → Prop} (hQ : ¬ LetsOut Q) : ∀ (l : List Oper) (a : Act) (w : World),
  (∀ o ∈ l, ∀ c, o.op ≠ .defer c) → wpList B.P ops Q l a w → wpListIn B.F 9 B.P ops Q l a w := by
 intro l
 induction l with
 | nil => intro a w _ h; exact h
 | cons o l ih =>
  intro a w hd h
  unfold wpList at h
  unfold wpListIn
  have hl := fun a w => ih a w (fun o ho => hd o (.tail _ ho))
  split at h
  ·rename_i hw
   rw [if_pos hw]
   exact Oper.wpIn_mono hl (oper_in (hd o (.head _)) (h.resolve_right fun h => hQ h.2))
  ·rename_i hw
   rw [if_neg hw]
   exact ⟨fun _ _ => trivial, hl _ _ h⟩
theorem op_in {B : Tb} {ops : Array Oper} {Q : Exit → Act → World → Prop} (hQ : ¬ LetsOut Q) (hd : ∀ o ∈ ops, ∀ c, o.op ≠ .defer c) {i : Nat} {K : Act → World → Prop} {a : Act} {w : World}
  (h : wpOp B.P ops Q i K a w) : wpOpIn B.F 9 B.P ops Q i K a w := by
 unfold wpOp at h
 unfold wpOpIn
 split at h
 ·rename_i ho
  rw [ho]
  exact h
 ·rename_i o ho
  rw [ho]
  simp only
  split at h
  ·rename_i hw
   rw [if_pos hw]
   exact oper_in (hd o (Array.mem_of_getElem? ho)) (h.resolve_right fun h => hQ h.2)
  ·rename_i hw
   rw [if_neg hw]
   exact ⟨fun _ _ => trivial, h⟩
theorem any_in {B : Tb} {md : Region.Mode} {ops : Array Oper} {Q : Exit → Act → World → Prop} (hQ : ¬ LetsOut Q) (hd : ∀ o ∈ ops, ∀ c, o.op ≠ .defer c) :
  ∀ (fuel : Nat) (listed : Array Bool) (a : Act) (w : World), wpAny B.P md ops Q fuel listed a w → wpAnyIn B.F 9 B.P md ops Q fuel listed a w
 | 0, _, _, _, h => h
 | fuel + 1, listed, a, w, h => ⟨h.1, fun i hi => wpOpIn_mono (fun a w => any_in hQ hd fuel _ a w) (op_in hQ hd (h.2 i hi))⟩
/-- A post that speaks of the ordinary way out alone. -/
def nq (Q : Act → World → Prop) : Exit → Act → World → Prop
 | .normal, a, w => Q a w
 | _, _, _ => False
theorem nq_in {Q : Act → World → Prop} : ¬ LetsOut (nq Q) := fun h => by
 first | exact h | (obtain ⟨_, _, h⟩ := h; exact h)
section code
variable {B : Tb} {E : Env} {n : Nat} {rs : Rs} {m : Mem} {Q : Post}
abbrev thenQ (K : Rs → Mem → Prop) (Q : Post) : Post := fun e rs m =>
 match e with
 | .normal => K rs m
 | e => Q e rs m
abbrev blockQ (id : Nat) (Q : Post) : Post := fun e rs m =>
 match e with
 | .exit i => bif Nat.beq i id then Q .normal rs m else Q (.exit i) rs m
 | e => Q e rs m
theorem c_seq {x y : Code} (h : WP B E n x rs m (thenQ (fun rs m => WP B E n y rs m Q) Q)) : WP B E n (.seq x y) rs m Q := by
 refine ⟨fun a w hok => ?_⟩
 refine Go.wpIn_seq (Go.wpIn_mono (h.run a w hok) ?_)
 rintro e a' w' ⟨rs', m', hok', hq⟩
 cases e with
 | normal => exact hq.run a' w' hok'
 | exit id => exact ⟨rs', m', hok', hq⟩
 | goto l => exact ⟨rs', m', hok', hq⟩
 | ret => exact ⟨rs', m', hok', hq⟩
 | panic c => exact ⟨rs', m', hok', hq⟩
 | outgrown => exact ⟨rs', m', hok', hq⟩
theorem c_skip (h : Q .normal rs m) : WP B E n .skip rs m Q := ⟨fun a w hok => Go.wpIn_skip ⟨rs, m, hok, h⟩⟩
theorem c_label {l : Nat} (h : Q .normal rs m) : WP B E n (.label l) rs m Q := ⟨fun a w hok => Go.wpIn_label ⟨rs, m, hok, h⟩⟩
theorem c_exit {id : Nat} (h : Q (.exit id) rs m) : WP B E n (.exit id) rs m Q := ⟨fun a w hok => Go.wpIn_exit ⟨rs, m, hok, h⟩⟩
theorem c_ret (h : Q .ret rs m) : WP B E n .ret rs m Q := ⟨fun a w hok => Go.wpIn_ret ⟨rs, m, hok, h⟩⟩
theorem c_cond {c : Operand} {x y : Code} {b : Bool} (hc : ev rs c = some (.bool b)) (ht : b = true → WP B E n x rs m Q)
  (hf : b = false → WP B E n y rs m Q) : WP B E n (.cond c x y) rs m Q := ⟨fun a w hok =>
 Go.wpIn_cond_split (ev_ok hok.regs hc) (fun h => (ht h).run a w hok) (fun h => (hf h).run a w hok)⟩
theorem c_cond_yes {c : Operand} {x y : Code} {b : Bool} (hc : ev rs c = some (.bool b)) (hb : b = true) (ht : WP B E n x rs m Q) :
  WP B E n (.cond c x y) rs m Q := c_cond hc (fun _ => ht) (fun h => by rw [hb] at h; cases h)
theorem c_cond_no {c : Operand} {x y : Code} {b : Bool} (hc : ev rs c = some (.bool b)) (hb : b = false) (hf : WP B E n y rs m Q) :
  WP B E n (.cond c x y) rs m Q := c_cond hc (fun h => by rw [hb] at h; cases h) (fun _ => hf)
theorem c_block {id : Nat} {c : Code} (h : WP B E n c rs m (blockQ id Q)) : WP B E n (.block id c) rs m Q := by
 refine ⟨fun a w hok => ?_⟩
 refine Go.wpIn_block (Go.wpIn_mono (h.run a w hok) ?_)
 rintro e a' w' ⟨rs', m', hok', hq⟩
 cases e with
 | exit i =>
  simp only [Exit.inBlock]
  by_cases e : i = id
  ·subst e
   rw [if_pos rfl]
   simp only [blockQ, Nat.beq_refl, cond_true] at hq
   exact ⟨rs', m', hok', hq⟩
  ·rw [if_neg e]
   have e' : Nat.beq i id = false := by
    cases hb : Nat.beq i id with
    | false => rfl
    | true => exact absurd (Nat.eq_of_beq_eq_true hb) e
   simp only [blockQ, e', cond_false] at hq
   exact ⟨rs', m', hok', hq⟩
 | normal => exact ⟨rs', m', hok', hq⟩
 | goto l => exact ⟨rs', m', hok', hq⟩
 | ret => exact ⟨rs', m', hok', hq⟩
 | panic c => exact ⟨rs', m', hok', hq⟩
 | outgrown => exact ⟨rs', m', hok', hq⟩
/-- What is known is forgotten, or its blocks stand otherwise. -/
structure Less (rs : Rs) (m : Mem) (rs' : Rs) (m' : Mem) : Prop where
 regs : ∀ t v, look rs' t = some v → look rs t = some v
 has : ∀ w, Has w m → Has w m'
 own : ∀ E : Env, Own E m → Own E m'
theorem Less.ok {rs' : Rs} {m' : Mem} (h : Less rs m rs' m') {a : Act} {w : World} (ok : Ok E n rs m a w) : Ok E n rs' m' a w :=
 ⟨ok.size, ok.defers, fun t v hv => ok.regs t v (h.regs t v hv), h.has w ok.has, h.own E ok.own, ok.keep⟩
theorem c_less {c : Code} {rs' : Rs} {m' : Mem} (h : Less rs m rs' m') (hc : WP B E n c rs' m' Q) : WP B E n c rs m Q :=
 ⟨fun a w hok => hc.run a w (h.ok hok)⟩
/-- Each of these registers is known to hold that. -/
def All (rs : Rs) : Rs → Prop
 | [] => True
 | (t, v) :: r => look rs t = some v ∧ All rs r
theorem look_all {rs rs' : Rs} (h : All rs rs') : ∀ t v, look rs' t = some v → look rs t = some v := by
 induction rs' with
 | nil => intro t v hv; cases hv
 | cons x r ih =>
  obtain ⟨k, u⟩ := x
  intro t v hv
  simp only [look] at hv
  cases hb : Nat.beq k t with
  | true =>
   rw [hb] at hv
   have := Nat.eq_of_beq_eq_true hb
   subst this
   simp only [cond_true, Option.some.injEq] at hv
   subst hv
   exact h.1
  | false =>
   rw [hb] at hv
   exact ih h.2 t v hv
theorem apartFrom.sublist {b : Nat} {m m' : Mem} (hs : m'.Sublist m) : apartFrom b m → apartFrom b m' := by
 induction hs with
 | slnil => exact id
 | cons x _ ih => exact fun h => ih h.2
 | cons_cons x _ ih => exact fun h => ⟨h.1, ih h.2⟩
theorem Has.sublist {w : World} {m m' : Mem} (hs : m'.Sublist m) : Has w m → Has w m' := by
 induction hs with
 | slnil => exact id
 | cons x _ ih => exact fun h => ih h.2.2
 | cons_cons x hs ih => exact fun h => ⟨h.1, fun hx => (h.2.1 hx).sublist hs, ih h.2.2⟩
theorem Own.sublist {E : Env} {m m' : Mem} (hs : m'.Sublist m) : Own E m → Own E m' := by
 induction hs with
 | slnil => exact id
 | cons x _ ih => exact fun h => ih h.2
 | cons_cons x _ ih => exact fun h => ⟨h.1, ih h.2⟩
/-- Some blocks are forgotten. -/
theorem less_sub {rs' : Rs} {m' : Mem} (h : All rs rs') (hs : m'.Sublist m) : Less rs m rs' m' := ⟨look_all h, fun _ => Has.sublist hs, fun _ => Own.sublist hs⟩
theorem less_of {rs' : Rs} {m' : Mem} (h : All rs rs') (hm : m = m') : Less rs m rs' m' := ⟨look_all h, fun _ h => hm ▸ h, fun _ h => hm ▸ h⟩
theorem less_regs {rs' : Rs} (h : All rs rs') : Less rs m rs' m := ⟨look_all h, fun _ h => h, fun _ h => h⟩
/-- A loop: a family of states, a number that falls. -/
theorem c_loop {α : Type} {body : Code} (F : α → Rs) (G : α → Mem) (p : α → Prop) (μ : α → Nat) (x0 : α) (h0 : p x0) (hs : Less rs m (F x0) (G x0))
  (round : ∀ x, p x → WP B E n body (F x) (G x) (thenQ (fun rs' m' => ∃ y, p y ∧ μ y < μ x ∧ Less rs' m' (F y) (G y)) Q)) :
  WP B E n (.loop body) rs m Q := by
 refine ⟨fun a w hok => ?_⟩
 refine loop_ghost (I := fun k a w => ∃ x, p x ∧ μ x = k ∧ Ok E n (F x) (G x) a w) (μ x0) ⟨x0, h0, rfl, hs.ok hok⟩ ?_
 rintro k a w ⟨x, hx, rfl, hok⟩
 refine Go.wpIn_mono ((round x hx).run a w hok) ?_
 rintro e a' w' ⟨rs', m', hok', hq⟩
 cases e with
 | normal =>
  obtain ⟨y, hy, hlt, hl⟩ := hq
  exact ⟨μ y, hlt, y, hy, rfl, hl.ok hok'⟩
 | exit id => exact ⟨rs', m', hok', hq⟩
 | goto l => exact ⟨rs', m', hok', hq⟩
 | ret => exact ⟨rs', m', hok', hq⟩
 | panic c => exact ⟨rs', m', hok', hq⟩
 | outgrown => exact ⟨rs', m', hok', hq⟩
/-- A place where ways meet: what is known there. -/
theorem c_meet {x : Code} (F : Rs) (G : Mem) (hx : WP B E n x rs m (thenQ (fun rs' m' => Less rs' m' F G) Q)) (hy : Q .normal F G) : WP B E n x rs m Q := by
 refine ⟨fun a w hok => Go.wpIn_mono (hx.run a w hok) ?_⟩
 rintro e a' w' ⟨rs', m', hok', hq⟩
 cases e with
 | normal => exact ⟨F, G, hq.ok hok', hy⟩
 | exit id => exact ⟨rs', m', hok', hq⟩
 | goto l => exact ⟨rs', m', hok', hq⟩
 | ret => exact ⟨rs', m', hok', hq⟩
 | panic c => exact ⟨rs', m', hok', hq⟩
 | outgrown => exact ⟨rs', m', hok', hq⟩
theorem c_cut {c : Code} {R : Post} (h : WP B E n c rs m R) (hr : ∀ e rs m, R e rs m → Q e rs m) : WP B E n c rs m Q :=
 ⟨fun a w hok => Go.wpIn_mono (h.run a w hok) fun _ _ _ ⟨rs', m', ok, q⟩ => ⟨rs', m', ok, hr _ _ _ q⟩⟩
end code
/-! ### operations -/
/-- A list of operations of a region. -/
structure WPl (B : Tb) (E : Env) (n : Nat) (all : List Oper) (rest : List Oper) (rs : Rs) (m : Mem) (K : Act → World → Prop) : Prop where
 run : ∀ (Q : Exit → Act → World → Prop), (∀ a w, K a w → Q .normal a w) → ∀ a w, Ok E n rs m a w → wpList B.P all.toArray Q rest a w
/-- Is the operation carried out? (none: not known.) -/
def wants (all : List Oper) (rs : Rs) (o : Oper) : Option Bool :=
 match o.guard with
 | none => some true
 | some (j, want) =>
  match (nth all j).bind (·.dst) with
  | none => some false
  | some t =>
   match look rs t with
   | some (.bool b) => some (b == want)
   | some (.tuple _) => some false
   | _ => none
section ops
variable {B : Tb} {E : Env} {n : Nat} {all rest : List Oper} {o : Oper} {rs : Rs} {m : Mem} {K : Act → World → Prop}
theorem wants_ok {b : Bool} {a : Act} (h : Regs rs a) (hw : wants all rs o = some b) :
  Region.wanted o (yielded all.toArray a.tmps) = b := by
 unfold wants at hw
 unfold Region.wanted
 cases hg : o.guard with
 | none => simp only [hg] at hw; exact Option.some.inj hw
 | some gw =>
  obtain ⟨j, want⟩ := gw
  simp only [hg] at hw
  rw [nth_eq] at hw
  unfold yielded
  simp only [List.getElem?_toArray]
  cases ht : (all[j]?).bind (·.dst) with
  | none => simp only [ht] at hw; simp [← Option.some.inj hw]
  | some t =>
   simp only [ht] at hw
   cases hl : look rs t with
   | none => simp [hl] at hw
   | some v =>
    have hv := h t v hl
    simp only [hl] at hw
    simp only [Option.bind_some, hv]
    cases v <;> simp at hw <;> subst hw <;> first | rfl | (rename_i b; cases b <;> cases want <;> rfl)
/-- The operation yields this, and changes nothing. -/
structure Pure (B : Tb) (E : Env) (rs : Rs) (m : Mem) (o : Oper) (v : Value) : Prop where
 run : ∀ a w, Regs rs a → Has w m → Keep E.w0 w E.ws → (execOp a.eval o).run B.P w = .ok (.value v) w
theorem step_pure0 {v : Value} (hw : wants all rs o = some true) (hd : dOk n o.dst = true) (hv : Pure B E rs m o v)
  (h : WPl B E n all rest (put rs o.dst v) m K) : WPl B E n all (o :: rest) rs m K := by
 refine ⟨fun Q hQ a w ok => ?_⟩
 unfold wpList
 rw [if_pos (wants_ok ok.regs hw)]
 left
 unfold Oper.wp
 rw [hv.run a w ok.regs ok.has ok.keep]
 exact h.run Q hQ _ _ ⟨(put_size ..).trans ok.size, (put_defers ..).trans ok.defers, put_regs ok.size hd ok.regs, ok.has, ok.own, ok.keep⟩
/-- It is carried out, and its value goes to this register. -/
def chk (all : List Oper) (n : Nat) (rs : Rs) (o : Oper) : Option Nat :=
 match wants all rs o, o.dst with
 | some true, some d => bif Nat.blt d n then some d else none
 | _, _ => none
theorem chk_ok {d : Nat} (h : chk all n rs o = some d) : wants all rs o = some true ∧ o.dst = some d ∧ dOk n (some d) = true := by
 unfold chk at h
 cases hw : wants all rs o with
 | none => simp [hw] at h
 | some b =>
  cases b with
  | false => simp [hw] at h
  | true =>
   cases hd : o.dst with
   | none => simp [hw, hd] at h
   | some e =>
    simp only [hw, hd] at h
    cases hb : Nat.blt e n with
    | false => rw [hb] at h; cases h
    | true =>
     rw [hb] at h
     have := Option.some.inj h
     subst this
     exact ⟨rfl, rfl, hb⟩
theorem step_pure {v : Value} {d : Nat} (hc : chk all n rs o = some d) (hv : Pure B E rs m o v)
  (h : WPl B E n all rest ((d, v) :: rs) m K) : WPl B E n all (o :: rest) rs m K := by
 obtain ⟨h1, h2, h3⟩ := chk_ok hc
 exact step_pure0 h1 (by rw [h2]; exact h3) hv (by rw [h2]; exact h)
/-- The same, its value told otherwise. -/
theorem step_as {v v' : Value} {d : Nat} (hc : chk all n rs o = some d) (hv : Pure B E rs m o v) (he : v = v')
  (h : WPl B E n all rest ((d, v') :: rs) m K) : WPl B E n all (o :: rest) rs m K := step_pure hc hv (by rw [he]; exact h)
/-- It is passed over. -/
theorem step_pass {d : Nat} (hw : wants all rs o = some false) (hd : o.dst = some d) (hn : Nat.blt d n = true)
  (h : WPl B E n all rest ((d, undef) :: rs) m K) : WPl B E n all (o :: rest) rs m K := by
 refine ⟨fun Q hQ a w ok => ?_⟩
 unfold wpList
 rw [if_neg (by rw [wants_ok ok.regs hw]; simp)]
 rw [hd]
 exact h.run Q hQ _ _ ⟨(put_size ..).trans ok.size, (put_defers ..).trans ok.defers, put_regs (d := some d) ok.size hn ok.regs, ok.has, ok.own, ok.keep⟩
theorem step_pass_none (hw : wants all rs o = some false) (hd : o.dst = none)
  (h : WPl B E n all rest rs m K) : WPl B E n all (o :: rest) rs m K := by
 refine ⟨fun Q hQ a w ok => ?_⟩
 unfold wpList
 rw [if_neg (by rw [wants_ok ok.regs hw]; simp)]
 rw [hd]
 exact h.run Q hQ _ _ ok
theorem step_nil {Q : Rs → Mem → Prop} (h : Q rs m) : WPl B E n all [] rs m (KK E n Q) := ⟨fun R hR a w ok => hR _ _ ⟨rs, m, ok, h⟩⟩
theorem step_end (h : ∀ a w, Ok E n rs m a w → K a w) : WPl B E n all [] rs m K := ⟨fun R hR a w ok => hR _ _ (h a w ok)⟩
/-- A value is given a name. -/
theorem step_name {rs' : Rs} {m' : Mem} (hr : rs = rs') (hm : m = m') (h : WPl B E n all rest rs' m' K) : WPl B E n all rest rs m K := by
 subst hr; subst hm; exact h
/-- A register that holds an undecided bool is decided. -/
theorem step_split {t : Nat} {b : Bool} (ht : look rs t = some (.bool b)) (h1 : b = true → WPl B E n all rest ((t, .bool true) :: rs) m K)
  (h2 : b = false → WPl B E n all rest ((t, .bool false) :: rs) m K) : WPl B E n all rest rs m K := by
 refine ⟨fun Q hQ a w ok => ?_⟩
 have hx := ok.regs t _ ht
 have key : ∀ c : Bool, b = c → Regs ((t, .bool c) :: rs) a := by
  intro c hc u v hv
  subst hc
  simp only [look] at hv
  cases hb : Nat.beq t u with
  | true =>
   have := Nat.eq_of_beq_eq_true hb
   subst this
   rw [hb] at hv
   simp only [cond_true, Option.some.injEq] at hv
   subst hv
   exact hx
  | false => rw [hb] at hv; exact ok.regs u v hv
 cases hb : b with
 | true => exact (h1 hb).run Q hQ a w ⟨ok.size, ok.defers, key true hb, ok.has, ok.own, ok.keep⟩
 | false => exact (h2 hb).run Q hQ a w ⟨ok.size, ok.defers, key false hb, ok.has, ok.own, ok.keep⟩
theorem c_region {id : Nat} {l : List Oper} {Q : Post} (h : WPl B E n l l rs m (KK E n (fun rs m => Q .normal rs m))) (hd : noDef l = true := by rfl) :
  WP B E n (.region id l.toArray false) rs m Q := ⟨fun a w ok =>
 Go.wpIn_mono (wpIn_region_lit (list_in nq_in l a w (noDef_ok hd) (h.run (nq (lift E n Q .normal)) (fun a w ⟨rs, m, ok, hk⟩ => ⟨rs, m, ok, hk⟩) a w ok)))
  (fun e a w hq => by cases e <;> first | exact hq | exact hq.elim)⟩
/-! pure operations -/
variable {dst : Option Tmp} {ty : TypeId} {pos : String} {aft : Array Edge} {gd : Option (Nat × Bool)}
theorem pure_move {x : Operand} {v : Value} (hx : ev rs x = some v) : Pure B E rs m ⟨dst, .move x, ty, pos, aft, gd⟩ v := by
 refine ⟨fun a w hr hh hk => ?_⟩
 show Result.ok (Next.value (a.eval x)) w = _
 rw [ev_ok hr hx]
theorem pure_assign {x : Operand} {v : Value} (hx : ev rs x = some v) : Pure B E rs m ⟨dst, .assign x, ty, pos, aft, gd⟩ v := by
 refine ⟨fun a w hr hh hk => ?_⟩
 show Result.ok (Next.value (a.eval x)) w = _
 rw [ev_ok hr hx]
theorem pure_pick_yes {c x y : Operand} {v : Value} (hc : ev rs c = some (.bool true)) (hx : ev rs x = some v) :
  Pure B E rs m ⟨dst, .pick c x y, ty, pos, aft, gd⟩ v := by
 refine ⟨fun a w hr hh hk => ?_⟩
 simp [execOp, ev_ok hr hc, ev_ok hr hx, asBool]
theorem pure_pick_no {c x y : Operand} {v : Value} (hc : ev rs c = some (.bool false)) (hy : ev rs y = some v) :
  Pure B E rs m ⟨dst, .pick c x y, ty, pos, aft, gd⟩ v := by
 refine ⟨fun a w hr hh hk => ?_⟩
 simp [execOp, ev_ok hr hc, ev_ok hr hy, asBool]
theorem pure_pick_bool {c x y : Operand} {p q r : Bool} (hc : ev rs c = some (.bool p)) (hx : ev rs x = some (.bool q)) (hy : ev rs y = some (.bool r)) :
  Pure B E rs m ⟨dst, .pick c x y, ty, pos, aft, gd⟩ (.bool (bif p then q else r)) := by
 refine ⟨fun a w hr hh hk => ?_⟩
 cases p <;> simp [execOp, ev_ok hr hc, ev_ok hr hx, ev_ok hr hy, asBool]
theorem pure_nilCheck {x : Operand} {p : Addr} (hx : ev rs x = some (.pointer (some p))) :
  Pure B E rs m ⟨dst, .nilCheck x, ty, pos, aft, gd⟩ (.pointer (some p)) := by
 refine ⟨fun a w hr hh hk => ?_⟩
 simp [execOp, ev_ok hr hx]
theorem pure_not {x : Operand} {b : Bool} {T : TypeId} (hx : ev rs x = some (.bool b)) :
  Pure B E rs m ⟨dst, .unOp .not T x, ty, pos, aft, gd⟩ (.bool (!b)) := by
 refine ⟨fun a w hr hh hk => ?_⟩
 simp [execOp, ev_ok hr hx, Op.unary]
theorem pure_neg {x : Operand} {k : IntKind} {z : Int} {T : TypeId} (hx : ev rs x = some (.int k z)) :
  Pure B E rs m ⟨dst, .unOp .neg T x, ty, pos, aft, gd⟩ (.int k (k.wrap (0 - z))) := by
 refine ⟨fun a w hr hh hk => ?_⟩
 simp [execOp, ev_ok hr hx, Op.unary, Op.intArith]
theorem pure_extract {x : Operand} {vs : List Value} {i : Nat} {v : Value} (hx : ev rs x = some (.tuple vs.toArray)) (hv : nth vs i = some v) :
  Pure B E rs m ⟨dst, .extract x i, ty, pos, aft, gd⟩ v := by
 refine ⟨fun a w hr hh hk => ?_⟩
 rw [nth_eq] at hv
 simp [execOp, ev_ok hr hx, Instr.extract, hv]
section arith
variable {x y : Operand} {k : IntKind} {p q : Int} {T U : TypeId}
theorem run_eqGuard_int (op : BinOp) (T : TypeId) (x y : Operand) (k k' : IntKind) (p q : Int) (w : World) :
  (eqGuard op T x y (.int k p) (.int k' q)).run B.P w = .ok () w := by
 cases op <;> simp [eqGuard]
theorem pure_int (op : BinOp) (z : Value) (hx : ev rs x = some (.int k p)) (hy : ev rs y = some (.int k q))
  (h : ∀ w, (binOp op T (.int k p) (.int k q)).run B.P w = .ok z w) : Pure B E rs m ⟨dst, .binOp op T x y U, ty, pos, aft, gd⟩ z := by
 refine ⟨fun a w hr hh hk => ?_⟩
 simp [execOp, ev_ok hr hx, ev_ok hr hy, run_eqGuard_int, h]
theorem pure_add (hx : ev rs x = some (.int k p)) (hy : ev rs y = some (.int k q)) :
  Pure B E rs m ⟨dst, .binOp .add T x y U, ty, pos, aft, gd⟩ (.int k (k.wrap (p + q))) :=
 pure_int _ _ hx hy (fun w => by simp [binOp, Op.intArith])
theorem pure_sub (hx : ev rs x = some (.int k p)) (hy : ev rs y = some (.int k q)) :
  Pure B E rs m ⟨dst, .binOp .sub T x y U, ty, pos, aft, gd⟩ (.int k (k.wrap (p - q))) :=
 pure_int _ _ hx hy (fun w => by simp [binOp, Op.intArith])
theorem pure_mul (hx : ev rs x = some (.int k p)) (hy : ev rs y = some (.int k q)) :
  Pure B E rs m ⟨dst, .binOp .mul T x y U, ty, pos, aft, gd⟩ (.int k (k.wrap (p * q))) :=
 pure_int _ _ hx hy (fun w => by simp [binOp, Op.intArith])
theorem wrap_i64 {z : Int} (h1 : -9223372036854775808 ≤ z) (h2 : z ≤ 9223372036854775807) : IntKind.i64.wrap z = z := IntWalk.i64_in z ⟨h1, h2⟩
theorem pure_add64 (hx : ev rs x = some (.int .i64 p)) (hy : ev rs y = some (.int .i64 q)) (h1 : -9223372036854775808 ≤ p + q) (h2 : p + q ≤ 9223372036854775807) :
  Pure B E rs m ⟨dst, .binOp .add T x y U, ty, pos, aft, gd⟩ (.int .i64 (p + q)) := by
 have := pure_add (B := B) (E := E) (m := m) (dst := dst) (ty := ty) (pos := pos) (aft := aft) (gd := gd) (T := T) (U := U) hx hy
 rwa [wrap_i64 h1 h2] at this
theorem pure_sub64 (hx : ev rs x = some (.int .i64 p)) (hy : ev rs y = some (.int .i64 q)) (h1 : -9223372036854775808 ≤ p - q) (h2 : p - q ≤ 9223372036854775807) :
  Pure B E rs m ⟨dst, .binOp .sub T x y U, ty, pos, aft, gd⟩ (.int .i64 (p - q)) := by
 have := pure_sub (B := B) (E := E) (m := m) (dst := dst) (ty := ty) (pos := pos) (aft := aft) (gd := gd) (T := T) (U := U) hx hy
 rwa [wrap_i64 h1 h2] at this
theorem pure_mul64 (hx : ev rs x = some (.int .i64 p)) (hy : ev rs y = some (.int .i64 q)) (h1 : -9223372036854775808 ≤ p * q) (h2 : p * q ≤ 9223372036854775807) :
  Pure B E rs m ⟨dst, .binOp .mul T x y U, ty, pos, aft, gd⟩ (.int .i64 (p * q)) := by
 have := pure_mul (B := B) (E := E) (m := m) (dst := dst) (ty := ty) (pos := pos) (aft := aft) (gd := gd) (T := T) (U := U) hx hy
 rwa [wrap_i64 h1 h2] at this
theorem pure_quo (hx : ev rs x = some (.int k p)) (hy : ev rs y = some (.int k q)) (h0 : q ≠ 0) :
  Pure B E rs m ⟨dst, .binOp .quo T x y U, ty, pos, aft, gd⟩ (.int k (k.wrap (p.tdiv q))) :=
 pure_int _ _ hx hy (fun w => by simp [binOp, Op.intDiv, h0])
theorem pure_rem (hx : ev rs x = some (.int k p)) (hy : ev rs y = some (.int k q)) (h0 : q ≠ 0) :
  Pure B E rs m ⟨dst, .binOp .rem T x y U, ty, pos, aft, gd⟩ (.int k (p.tmod q)) :=
 pure_int _ _ hx hy (fun w => by simp [binOp, Op.intDiv, h0])
theorem pure_rem_pos (hx : ev rs x = some (.int k p)) (hy : ev rs y = some (.int k q)) (h1 : 0 ≤ p) (h0 : 0 < q) :
  Pure B E rs m ⟨dst, .binOp .rem T x y U, ty, pos, aft, gd⟩ (.int k (p % q)) := by
 have := pure_rem (B := B) (E := E) (m := m) (dst := dst) (ty := ty) (pos := pos) (aft := aft) (gd := gd) (T := T) (U := U) hx hy (by omega)
 rwa [Int.tmod_eq_emod_of_nonneg h1] at this
theorem pure_quo_pos (hx : ev rs x = some (.int .i64 p)) (hy : ev rs y = some (.int .i64 q)) (h1 : 0 ≤ p) (h2 : p ≤ 9223372036854775807) (h0 : 0 < q) :
  Pure B E rs m ⟨dst, .binOp .quo T x y U, ty, pos, aft, gd⟩ (.int .i64 (p / q)) := by
 have := pure_quo (B := B) (E := E) (m := m) (dst := dst) (ty := ty) (pos := pos) (aft := aft) (gd := gd) (T := T) (U := U) hx hy (by omega)
 rw [Int.tdiv_eq_ediv_of_nonneg h1] at this
 have h3 : 0 ≤ p / q := Int.ediv_nonneg h1 (by omega)
 have h4 : p / q ≤ p := Int.ediv_le_self q h1
 rwa [wrap_i64 (by omega) (by omega)] at this
theorem pure_and (hx : ev rs x = some (.int k p)) (hy : ev rs y = some (.int k q)) :
  Pure B E rs m ⟨dst, .binOp .and T x y U, ty, pos, aft, gd⟩ (.int k (bits .and k p q)) :=
 pure_int _ _ hx hy (fun w => by simp [binOp, Op.intBits, bits])
theorem pure_or (hx : ev rs x = some (.int k p)) (hy : ev rs y = some (.int k q)) :
  Pure B E rs m ⟨dst, .binOp .or T x y U, ty, pos, aft, gd⟩ (.int k (bits .or k p q)) :=
 pure_int _ _ hx hy (fun w => by simp [binOp, Op.intBits, bits])
theorem pure_xor (hx : ev rs x = some (.int k p)) (hy : ev rs y = some (.int k q)) :
  Pure B E rs m ⟨dst, .binOp .xor T x y U, ty, pos, aft, gd⟩ (.int k (bits .xor k p q)) :=
 pure_int _ _ hx hy (fun w => by simp [binOp, Op.intBits, bits])
theorem pure_andNot (hx : ev rs x = some (.int k p)) (hy : ev rs y = some (.int k q)) :
  Pure B E rs m ⟨dst, .binOp .andNot T x y U, ty, pos, aft, gd⟩ (.int k (bits .andNot k p q)) :=
 pure_int _ _ hx hy (fun w => by simp [binOp, Op.intBits, bits])
theorem pure_eql (hx : ev rs x = some (.int k p)) (hy : ev rs y = some (.int k q)) :
  Pure B E rs m ⟨dst, .binOp .eql T x y U, ty, pos, aft, gd⟩ (.bool (p == q)) :=
 pure_int _ _ hx hy (fun w => by simp [binOp, Op.intCmp])
theorem pure_neq (hx : ev rs x = some (.int k p)) (hy : ev rs y = some (.int k q)) :
  Pure B E rs m ⟨dst, .binOp .neq T x y U, ty, pos, aft, gd⟩ (.bool (p != q)) :=
 pure_int _ _ hx hy (fun w => by simp [binOp, Op.intCmp])
theorem pure_lss (hx : ev rs x = some (.int k p)) (hy : ev rs y = some (.int k q)) :
  Pure B E rs m ⟨dst, .binOp .lss T x y U, ty, pos, aft, gd⟩ (.bool (decide (p < q))) :=
 pure_int _ _ hx hy (fun w => by simp [binOp, Op.intCmp])
theorem pure_leq (hx : ev rs x = some (.int k p)) (hy : ev rs y = some (.int k q)) :
  Pure B E rs m ⟨dst, .binOp .leq T x y U, ty, pos, aft, gd⟩ (.bool (decide (p ≤ q))) :=
 pure_int _ _ hx hy (fun w => by simp [binOp, Op.intCmp])
theorem pure_gtr (hx : ev rs x = some (.int k p)) (hy : ev rs y = some (.int k q)) :
  Pure B E rs m ⟨dst, .binOp .gtr T x y U, ty, pos, aft, gd⟩ (.bool (decide (p > q))) :=
 pure_int _ _ hx hy (fun w => by simp [binOp, Op.intCmp])
theorem pure_geq (hx : ev rs x = some (.int k p)) (hy : ev rs y = some (.int k q)) :
  Pure B E rs m ⟨dst, .binOp .geq T x y U, ty, pos, aft, gd⟩ (.bool (decide (p ≥ q))) :=
 pure_int _ _ hx hy (fun w => by simp [binOp, Op.intCmp])
theorem pure_shl {k' : IntKind} (hx : ev rs x = some (.int k p)) (hy : ev rs y = some (.int k' q)) (h0 : 0 ≤ q) :
  Pure B E rs m ⟨dst, .binOp .shl T x y U, ty, pos, aft, gd⟩ (.int k (k.wrap (p * 2 ^ min q.toNat k.bits))) := by
 refine ⟨fun a w hr hh hk => ?_⟩
 have h1 : ¬ q < 0 := by omega
 simp [execOp, ev_ok hr hx, ev_ok hr hy, run_eqGuard_int, binOp, Op.shift, h1]
theorem pure_shr {k' : IntKind} (hx : ev rs x = some (.int k p)) (hy : ev rs y = some (.int k' q)) (h0 : 0 ≤ q) :
  Pure B E rs m ⟨dst, .binOp .shr T x y U, ty, pos, aft, gd⟩ (.int k (p / 2 ^ min q.toNat k.bits)) := by
 refine ⟨fun a w hr hh hk => ?_⟩
 have h1 : ¬ q < 0 := by omega
 have h2 : p.fdiv (2 ^ min q.toNat k.bits) = p / 2 ^ min q.toNat k.bits := Int.fdiv_eq_ediv_of_nonneg _ (Int.pow_nonneg (by decide))
 simp [execOp, ev_ok hr hx, ev_ok hr hy, run_eqGuard_int, binOp, Op.shift, h1, h2]
end arith
theorem pure_conv {x : Operand} {k k' : IntKind} {p : Int} {S T : TypeId} {d e : Ty} (hx : ev rs x = some (.int k p))
  (hT : B.ty T = some d) (hd : d.desc = .int k') (hS : B.ty S = some e) : Pure B E rs m ⟨dst, .convert S T x, ty, pos, aft, gd⟩ (.int k' (k'.wrap p)) := by
 refine ⟨fun a w hr hh hk => ?_⟩
 obtain ⟨u, _, hu⟩ := ty_slim hS
 have h1 := ty_under hT (by rw [hd]; rfl) w
 rw [hd] at h1
 simp [execOp, ev_ok hr hx, convert, h1, hu, Conv.intToInt]
/-! builtins that only reckon -/
theorem pure_len_slice {x : Operand} {T eT : TypeId} {a0 : Option Addr} {len cap : Nat} {d : Ty} (hx : ev rs x = some (.slice a0 len cap))
  (hT : B.ty T = some d) (hd : d.desc = .slice eT) :
  Pure B E rs m ⟨dst, .call ⟨.builtin .len, #[x], #[T]⟩, ty, pos, aft, gd⟩ (.int .i64 len) := by
 refine ⟨fun a w hr hh hk => ?_⟩
 simp [execOp, resolve, invoke, builtin, Builtin.len_, ev_ok hr hx, hd ▸ ty_under hT (by rw [hd]; rfl), goInt]
theorem pure_len_string {x : Operand} {T : TypeId} {s : ByteArray} {d : Ty} (hx : ev rs x = some (.string s))
  (hT : B.ty T = some d) (hd : d.desc = .string) :
  Pure B E rs m ⟨dst, .call ⟨.builtin .len, #[x], #[T]⟩, ty, pos, aft, gd⟩ (.int .i64 s.size) := by
 refine ⟨fun a w hr hh hk => ?_⟩
 simp [execOp, resolve, invoke, builtin, Builtin.len_, ev_ok hr hx, hd ▸ ty_under hT (by rw [hd]; rfl), goInt]
theorem pure_max {x y : Operand} {ats : Array TypeId} {k : IntKind} {p q : Int} (hx : ev rs x = some (.int k p)) (hy : ev rs y = some (.int k q)) :
  Pure B E rs m ⟨dst, .call ⟨.builtin .max, #[x, y], ats⟩, ty, pos, aft, gd⟩ (.int k (max p q)) := by
 refine ⟨fun a w hr hh hk => ?_⟩
 simp [execOp, resolve, invoke, builtin, Builtin.max_, Builtin.max2, ev_ok hr hx, ev_ok hr hy]
 omega
theorem pure_min {x y : Operand} {ats : Array TypeId} {k : IntKind} {p q : Int} (hx : ev rs x = some (.int k p)) (hy : ev rs y = some (.int k q)) :
  Pure B E rs m ⟨dst, .call ⟨.builtin .min, #[x, y], ats⟩, ty, pos, aft, gd⟩ (.int k (min p q)) := by
 refine ⟨fun a w hr hh hk => ?_⟩
 simp [execOp, resolve, invoke, builtin, Builtin.min_, Builtin.min2, ev_ok hr hx, ev_ok hr hy]
 omega
/-! memory -/
theorem add_none (b off n : Nat) : (⟨b, off, none⟩ : Addr).add n = ⟨b, off + n, none⟩ := by
 unfold Addr.add
 split
 ·subst_vars; rfl
 ·rfl
theorem field_of {gs fs : Array Field} {f ft fo : Nat} (hg : (gs.map fun f => fd f.type f.offset) = fs) (hf : fs[f]? = some (fd ft fo)) :
  ∃ g, gs[f]? = some g ∧ g.type = ft ∧ g.offset = fo := by
 subst hg
 rw [Array.getElem?_map] at hf
 cases hx : gs[f]? with
 | none => rw [hx] at hf; cases hf
 | some g =>
  rw [hx] at hf
  have := Option.some.inj hf
  exact ⟨g, rfl, congrArg Field.type this, congrArg Field.offset this⟩
theorem pure_fieldAddr {x : Operand} {S : TypeId} {f ft fo : Nat} {b off : Nat} {d u : Ty} {fs : Array Field}
  (hx : ev rs x = some (.pointer (some ⟨b, off, none⟩))) (hS : B.ty S = some d) (hd : d.desc = .struct fs) (hf : fs[f]? = some (fd ft fo))
  (hu : B.ty ft = some u) (h0 : u.size ≠ 0) :
  Pure B E rs m ⟨dst, .fieldAddr S x f, ty, pos, aft, gd⟩ (.pointer (some ⟨b, off + fo, none⟩)) := by
 refine ⟨fun a w hr hh hk => ?_⟩
 obtain ⟨gs, hg, hs⟩ := ty_struct hS hd
 obtain ⟨g, hg1, hg2, hg3⟩ := field_of hg hf
 rw [← hg2] at hu
 simp [execOp, ev_ok hr hx, Instr.fieldAt, hs, hg1, Instr.sureAddr, fieldPlace, ty_size hu, h0, add_none, hg3]
theorem pure_indexAddr_arr {x y : Operand} {T eT : TypeId} {len b off : Nat} {k : IntKind} {i : Int} {d u : Ty}
  (hx : ev rs x = some (.pointer (some ⟨b, off, none⟩))) (hy : ev rs y = some (.int k i)) (hT : B.ty T = some d) (hd : d.desc = .array len eT)
  (hu : B.ty eT = some u) (h0 : 0 ≤ i) (h1 : i < len) :
  Pure B E rs m ⟨dst, .indexAddr T x y, ty, pos, aft, gd⟩ (.pointer (some ⟨b, off + i.toNat * u.size, none⟩)) := by
 refine ⟨fun a w hr hh hk => ?_⟩
 simp [execOp, ev_ok hr hx, ev_ok hr hy, Instr.indexAt, asIntOf, hd ▸ ty_under hT (by rw [hd]; rfl), Instr.sureAddr, h0, h1, ty_size hu, add_none]
theorem pure_indexAddr_slice {x y : Operand} {T eT : TypeId} {len cap b off : Nat} {k : IntKind} {i : Int} {d u : Ty}
  (hx : ev rs x = some (.slice (some ⟨b, off, none⟩) len cap)) (hy : ev rs y = some (.int k i)) (hT : B.ty T = some d) (hd : d.desc = .slice eT)
  (hu : B.ty eT = some u) (h0 : 0 ≤ i) (h1 : i < len) :
  Pure B E rs m ⟨dst, .indexAddr T x y, ty, pos, aft, gd⟩ (.pointer (some ⟨b, off + i.toNat * u.size, none⟩)) := by
 refine ⟨fun a w hr hh hk => ?_⟩
 simp [execOp, ev_ok hr hx, ev_ok hr hy, Instr.indexAt, asIntOf, hd ▸ ty_under hT (by rw [hd]; rfl), h0, h1, ty_size hu, add_none]
theorem run_part {T : TypeId} {u : Ty} {cs : Array Value} {off : Nat} {v : Value} (hu : B.ty T = some u) (h : u.agg = false) (hv : cs[off]? = some v) (w : World) :
  (part T cs off).run B.P w = .ok v w := by
 simp [part, ty_agg hu, h, hv]
theorem run_part_agg {T : TypeId} {u : Ty} {cs : Array Value} {off : Nat} (hu : B.ty T = some u) (h : u.agg = true) (w : World) :
  (part T cs off).run B.P w = .ok (.agg (cs.extract off (off + u.size))) w := by
 simp [part, ty_agg hu, h, ty_size hu]
theorem pure_field {x : Operand} {S : TypeId} {f ft fo : Nat} {d u : Ty} {fs : Array Field} {cs : List Value} {v : Value}
  (hx : ev rs x = some (.agg cs.toArray)) (hS : B.ty S = some d) (hd : d.desc = .struct fs) (hf : fs[f]? = some (fd ft fo))
  (hu : B.ty ft = some u) (h0 : u.agg = false) (hv : nth cs fo = some v) :
  Pure B E rs m ⟨dst, .field S x f, ty, pos, aft, gd⟩ v := by
 refine ⟨fun a w hr hh hk => ?_⟩
 rw [nth_eq] at hv
 obtain ⟨gs, hg, hs⟩ := ty_struct hS hd
 obtain ⟨g, hg1, rfl, rfl⟩ := field_of hg hf
 simp [execOp, ev_ok hr hx, Instr.field, hs, hg1, asAgg, run_part hu h0 (cs := cs.toArray) (by simpa using hv)]
theorem pure_field_agg {x : Operand} {S : TypeId} {f ft fo : Nat} {d u : Ty} {fs : Array Field} {cs vs : List Value}
  (hx : ev rs x = some (.agg cs.toArray)) (hS : B.ty S = some d) (hd : d.desc = .struct fs) (hf : fs[f]? = some (fd ft fo))
  (hu : B.ty ft = some u) (h0 : u.agg = true) (hv : (cs.drop fo).take u.size = vs) :
  Pure B E rs m ⟨dst, .field S x f, ty, pos, aft, gd⟩ (.agg vs.toArray) := by
 refine ⟨fun a w hr hh hk => ?_⟩
 subst hv
 obtain ⟨gs, hg, hs⟩ := ty_struct hS hd
 obtain ⟨g, hg1, rfl, rfl⟩ := field_of hg hf
 have e : cs.toArray.extract g.offset (g.offset + u.size) = ((cs.drop g.offset).take u.size).toArray := by
  simp [List.extract_toArray, List.extract_eq_take_drop]
 simp only [execOp, ev_ok hr hx, Instr.field]
 simp [hs, hg1, asAgg, run_part_agg hu h0, e]
theorem pure_index {x y : Operand} {T eT : TypeId} {len : Nat} {k : IntKind} {i : Int} {d u : Ty} {cs : List Value} {v : Value}
  (hx : ev rs x = some (.agg cs.toArray)) (hy : ev rs y = some (.int k i)) (hT : B.ty T = some d) (hd : d.desc = .array len eT)
  (hu : B.ty eT = some u) (hg : u.agg = false) (h0 : 0 ≤ i) (h1 : i < len) (hv : cs[i.toNat * u.size]? = some v) :
  Pure B E rs m ⟨dst, .index T x y, ty, pos, aft, gd⟩ v := by
 refine ⟨fun a w hr hh hk => ?_⟩
 simp [execOp, ev_ok hr hx, ev_ok hr hy, Instr.index, asIntOf, hd ▸ ty_under hT (by rw [hd]; rfl), h0, h1, ty_size hu, run_part hu hg (cs := cs.toArray) (off := i.toNat * u.size) (by simpa using hv)]
theorem cell_of {w : World} {b : Nat} {c : List Value} {t : TypeId} {off : Nat} {v : Value} (h : w.heap[b]? = some (.cells c.toArray t (0, 0))) (hv : c[off]? = some v) :
  w.cell? ⟨b, off, none⟩ = some v := by
 simp [World.cell?, h, hv]
theorem free_of {w : World} {b : Nat} {c : Array Value} {t : TypeId} {off : Nat} (h : w.heap[b]? = some (.cells c t (0, 0))) :
  w.frozen? ⟨b, off, none⟩ = false := by
 simp [World.frozen?, h]
theorem nth_mem {α : Type} {l : List α} {i : Nat} {x : α} (h : nth l i = some x) : x ∈ l := by
 rw [nth_eq] at h
 exact List.mem_of_getElem? h
theorem pure_load {x : Operand} {T : TypeId} {b off i : Nat} {e : Ent} {d : Ty} {v : Value} (hx : ev rs x = some (.pointer (some ⟨b, off, none⟩)))
  (hT : B.ty T = some d) (hd : d.agg = false) (he : nth m i = some e) (hb : e.blk = b) (hv : e.cells[off]? = some v) :
  Pure B E rs m ⟨dst, .load T x, ty, pos, aft, gd⟩ v := by
 refine ⟨fun a w hr hh hk => ?_⟩
 have hc := cell_of (hh.cell (nth_mem he) (fun h => by rw [h] at hv; cases hv)) hv
 rw [hb] at hc
 simp [execOp, ev_ok hr hx, Instr.loadAt, Instr.sureAddr, loadVar, ty_agg hT, hd, hc]
theorem run_loadCellsFrom {P : Program} {w : World} {b off : Nat} {c : List Value} {t : TypeId} (h : w.heap[b]? = some (.cells c.toArray t (0, 0))) (k : Nat) :
  ∀ (i : Nat) (acc : Array Value), off + i + k ≤ c.length →
   (loadCellsFrom ⟨b, off, none⟩ i k acc).run P w = .ok (acc ++ ((c.drop (off + i)).take k).toArray) w := by
 induction k with
 | zero => intro i acc _; simp [loadCellsFrom]
 | succ k ih =>
  intro i acc hl
  have hlt : off + i < c.length := by omega
  have hc : w.cell? ⟨b, off + i, none⟩ = some c[off + i] := cell_of h (List.getElem?_eq_getElem hlt)
  simp only [loadCellsFrom, add_none, Sem.run_bind, run_load, hc, Result.andThen_ok]
  rw [ih (i + 1) _ (by omega), List.drop_eq_getElem_cons hlt]
  simp [Nat.add_assoc]
theorem run_loadCells {P : Program} {w : World} {b off : Nat} {c : List Value} {t : TypeId} (h : w.heap[b]? = some (.cells c.toArray t (0, 0))) (k : Nat) (hl : off + k ≤ c.length) :
  (loadCells ⟨b, off, none⟩ k).run P w = .ok ((c.drop off).take k).toArray w := by
 unfold loadCells
 rw [run_loadCellsFrom h k 0 #[] (by omega)]
 simp
theorem run_loadCells0 {P : Program} {w : World} {b off : Nat} {c : List Value} {t : TypeId} (h : c ≠ [] → w.heap[b]? = some (.cells c.toArray t (0, 0))) (k : Nat) (hl : off + k ≤ c.length) :
  (loadCells ⟨b, off, none⟩ k).run P w = .ok ((c.drop off).take k).toArray w := by
 by_cases hc : c = []
 ·subst hc
  simp at hl
  simp [hl, loadCells, loadCellsFrom]
 ·exact run_loadCells (h hc) k hl
theorem pure_load_agg {x : Operand} {T : TypeId} {b off i : Nat} {e : Ent} {d : Ty} {vs : List Value} (hx : ev rs x = some (.pointer (some ⟨b, off, none⟩)))
  (hT : B.ty T = some d) (hd : d.agg = true) (he : nth m i = some e) (hb : e.blk = b) (hl : off + d.size ≤ e.cells.length)
  (hv : (e.cells.drop off).take d.size = vs) : Pure B E rs m ⟨dst, .load T x, ty, pos, aft, gd⟩ (.agg vs.toArray) := by
 refine ⟨fun a w hr hh hk => ?_⟩
 have hc := hh.cell (nth_mem he)
 rw [hb] at hc
 subst hv
 simp [execOp, ev_ok hr hx, Instr.loadAt, Instr.sureAddr, loadVar, ty_agg hT, hd, ty_size hT, run_loadCells0 hc _ hl]
/-- A cell that lay there when all began. -/
theorem pure_view {x : Operand} {T : TypeId} {b off : Nat} {d : Ty} {v : Value} (hx : ev rs x = some (.pointer (some ⟨b, off, none⟩)))
  (hT : B.ty T = some d) (hd : d.agg = false) (hc : E.w0.cell? ⟨b, off, none⟩ = some v) (hb : b ∉ E.ws) :
  Pure B E rs m ⟨dst, .load T x, ty, pos, aft, gd⟩ v := by
 refine ⟨fun a w hr hh hk => ?_⟩
 have hlt : b < E.w0.heap.size := World.block_lt_of_cell? _ _ hc
 have hc' : w.cell? ⟨b, off, none⟩ = some v := by
  unfold World.cell? at hc ⊢
  rw [hk.block b hlt hb]
  exact hc
 simp [execOp, ev_ok hr hx, Instr.loadAt, Instr.sureAddr, loadVar, ty_agg hT, hd, hc']
/-! operations that change memory -/
/-- The operation leaves this value and these blocks. -/
structure Eff (B : Tb) (E : Env) (rs : Rs) (m : Mem) (o : Oper) (R : Value → Mem → Prop) : Prop where
 run : ∀ a w, Regs rs a → Has w m → Own E m → Keep E.w0 w E.ws →
  ∃ x w' v m', (execOp a.eval o).run B.P w = .ok x w' ∧ (x = .value v ∨ (x = .skip ∧ v = undef)) ∧ Has w' m' ∧ Own E m' ∧ Keep E.w0 w' E.ws ∧ R v m'
theorem step_eff {R : Value → Mem → Prop} (hw : wants all rs o = some true) (hd : dOk n o.dst = true) (he : Eff B E rs m o R)
  (h : ∀ v m', R v m' → WPl B E n all rest (put rs o.dst v) m' K) : WPl B E n all (o :: rest) rs m K := by
 refine ⟨fun Q hQ a w ok => ?_⟩
 unfold wpList
 rw [if_pos (wants_ok ok.regs hw)]
 left
 unfold Oper.wp
 obtain ⟨x, w', v, m', hrun, hx, h1, h2, h3, hR⟩ := he.run a w ok.regs ok.has ok.own ok.keep
 rw [hrun]
 have fin := (h v m' hR).run Q hQ (a.put o.dst v) w' ⟨(put_size ..).trans ok.size, (put_defers ..).trans ok.defers, put_regs ok.size hd ok.regs, h1, h2, h3⟩
 rcases hx with rfl | ⟨rfl, rfl⟩
 ·exact fin
 ·exact fin
theorem heap_alloc_old {w : World} {o : Obj} {b : Nat} (h : b < w.heap.size) : (w.alloc o).heap[b]? = w.heap[b]? := Below.heap_alloc w o b h
theorem heap_alloc_new (w : World) (o : Obj) : (w.alloc o).heap[w.heap.size]? = some o := by
 show (w.heap.push o)[w.heap.size]? = some o
 exact Array.getElem?_push_size
theorem Has.lt {w : World} {m : Mem} (h : Has w m) : ∀ e ∈ m, e.cells ≠ [] → e.blk < w.heap.size := fun e he hl => lt_of_heap (h.cell he hl)
theorem apartFrom_of {b : Nat} {m : Mem} (h : ∀ e ∈ m, e.cells ≠ [] → b ≠ e.blk) : apartFrom b m := by
 induction m with
 | nil => trivial
 | cons x m ih => exact ⟨h x (.head _), ih (fun e he => h e (.tail _ he))⟩
theorem Keep.alloc {w0 w : World} {ws : List Nat} (h : Keep w0 w ws) (o : Obj) : Keep w0 (w.alloc o) ws :=
 ⟨h.os, h.tape, h.output, by have := h.size; simp; omega, fun k hk hn => (heap_alloc_old (by have := h.size; omega)).trans (h.block k hk hn)⟩
theorem Has.alloc {w : World} {m : Mem} (h : Has w m) (c : List Value) (t : TypeId) :
  Has (w.alloc (.cells c.toArray t)) (⟨w.heap.size, c, t⟩ :: m) :=
 ⟨fun _ => heap_alloc_new _ _, fun _ => apartFrom_of (fun e he hl => Nat.ne_of_gt (h.lt e he hl)), h.of_same (fun e he hl => heap_alloc_old (h.lt e he hl))⟩
/-- A new block of cells. -/
theorem eff_new {c : List Value} {t : TypeId} (hrun : ∀ a w, Regs rs a → Has w m → Keep E.w0 w E.ws →
   (execOp a.eval o).run B.P w = .ok (.value (.pointer (some ⟨w.heap.size, 0, none⟩))) (w.alloc (.cells c.toArray t))) :
  Eff B E rs m o (fun v m' => ∃ b, v = .pointer (some ⟨b, 0, none⟩) ∧ m' = ⟨b, c, t⟩ :: m) := by
 refine ⟨fun a w hr hh ho hk => ?_⟩
 refine ⟨_, _, _, _, hrun a w hr hh hk, .inl rfl, hh.alloc c t, ⟨fun _ => .inl hk.size, ho⟩, hk.alloc _, _, rfl, rfl⟩
theorem step_new {c : List Value} {t : TypeId} {d : Nat} (hc : chk all n rs o = some d)
  (hrun : ∀ a w, Regs rs a → Has w m → Keep E.w0 w E.ws →
   (execOp a.eval o).run B.P w = .ok (.value (.pointer (some ⟨w.heap.size, 0, none⟩))) (w.alloc (.cells c.toArray t)))
  (h : ∀ b, WPl B E n all rest ((d, .pointer (some ⟨b, 0, none⟩)) :: rs) (⟨b, c, t⟩ :: m) K) : WPl B E n all (o :: rest) rs m K := by
 obtain ⟨h1, h2, h3⟩ := chk_ok hc
 exact step_eff h1 (by rw [h2]; exact h3) (eff_new hrun) (by rintro v m' ⟨b, rfl, rfl⟩; rw [h2]; exact h b)
def ZeroIs (B : Tb) (T : TypeId) (c : List Value) : Prop := ∃ z : Value, z.cells = c.toArray ∧ ∀ w, (zeroValue T).run B.P w = .ok z w
theorem run_new {T : TypeId} {c : List Value} (hz : ZeroIs B T c) {a : Act} {w : World} :
  (execOp a.eval ⟨dst, .alloc T, ty, pos, aft, gd⟩).run B.P w = .ok (.value (.pointer (some ⟨w.heap.size, 0, none⟩))) (w.alloc (.cells c.toArray T)) := by
 obtain ⟨z, hc, hz⟩ := hz
 simp [execOp, Instr.alloc, hz, newVar, newRow, hc]
theorem step_alloc {T : TypeId} {c : List Value} {d : Nat} (hc : chk all n rs ⟨dst, .alloc T, ty, pos, aft, gd⟩ = some d) (hz : ZeroIs B T c)
  (h : ∀ b, WPl B E n all rest ((d, .pointer (some ⟨b, 0, none⟩)) :: rs) (⟨b, c, T⟩ :: m) K) :
  WPl B E n all (⟨dst, .alloc T, ty, pos, aft, gd⟩ :: rest) rs m K :=
 step_new hc (fun _ _ _ _ _ => run_new hz) h
theorem step_box_agg {T : TypeId} {x : Operand} {c : List Value} {d : Nat} (hc : chk all n rs ⟨dst, .box T x, ty, pos, aft, gd⟩ = some d)
  (hx : ev rs x = some (.agg c.toArray))
  (h : ∀ b, WPl B E n all rest ((d, .pointer (some ⟨b, 0, none⟩)) :: rs) (⟨b, c, T⟩ :: m) K) :
  WPl B E n all (⟨dst, .box T x, ty, pos, aft, gd⟩ :: rest) rs m K :=
 step_new hc (fun a w hr _ _ => by simp [execOp, ev_ok hr hx, Instr.box, newVar, newRow, Value.cells]) h
theorem step_box {T : TypeId} {x : Operand} {v : Value} {d : Nat} (hc : chk all n rs ⟨dst, .box T x, ty, pos, aft, gd⟩ = some d)
  (hx : ev rs x = some v) (hv : v.cells = #[v])
  (h : ∀ b, WPl B E n all rest ((d, .pointer (some ⟨b, 0, none⟩)) :: rs) (⟨b, [v], T⟩ :: m) K) :
  WPl B E n all (⟨dst, .box T x, ty, pos, aft, gd⟩ :: rest) rs m K :=
 step_new hc (fun a w hr _ _ => by simp [execOp, ev_ok hr hx, Instr.box, newVar, newRow, hv]) h
/-! composite values -/
def evp (rs : Rs) : List (Nat × Operand) → Option (List (Nat × Value))
 | [] => some []
 | (i, x) :: r =>
  match ev rs x, evp rs r with
  | some v, some vs => some ((i, v) :: vs)
  | _, _ => none
theorem evp_ok {a : Act} (hr : Regs rs a) : ∀ {l : List (Nat × Operand)} {vs : List (Nat × Value)}, evp rs l = some vs → l.map (fun p => (p.1, a.eval p.2)) = vs := by
 intro l
 induction l with
 | nil => intro vs h; exact Option.some.inj h
 | cons x r ih =>
  obtain ⟨i, x⟩ := x
  intro vs h
  simp only [evp] at h
  cases hx : ev rs x with
  | none => simp [hx] at h
  | some v =>
   cases hv : evp rs r with
   | none => simp [hx, hv] at h
   | some us =>
    simp [hx, hv] at h
    subst h
    simp [ev_ok hr hx, ih hv]
/-- Cells stored one behind the other. -/
def splice {α : Type} (c : List α) (off : Nat) (vs : List α) : List α := c.take off ++ vs ++ c.drop (off + vs.length)
theorem splice_one {α : Type} {c : List α} {off : Nat} {v : α} (h : off < c.length) : splice c off [v] = c.set off v := by
 unfold splice
 rw [List.set_eq_take_append_cons_drop, if_pos h]
 simp
theorem splice_cons {α : Type} {c vs : List α} {off : Nat} {v : α} (h : off + vs.length < c.length) : splice c off (v :: vs) = splice (c.set off v) (off + 1) vs := by
 unfold splice
 have e1 : (c.set off v).take (off + 1) = c.take off ++ [v] := by
  rw [List.take_add_one, List.take_set_of_le (Nat.le_refl _)]
  simp [show off < c.length from by omega]
 have e2 : (c.set off v).drop (off + 1 + vs.length) = c.drop (off + (v :: vs).length) := by
  rw [List.drop_set_of_lt (by omega)]
  congr 1
  simp; omega
 rw [e1, e2]
 simp
def fillL (place : Nat → Option (Nat × Nat)) (cs : List Value) : List (Nat × Value) → Option (List Value)
 | [] => some cs
 | (i, v) :: rest =>
  match place i with
  | none => none
  | some (off, size) =>
   match v.cells.toList with
   | [x] => bif Nat.beq size 1 && Nat.blt off cs.length then fillL place (cs.set off x) rest else none
   | vs => bif Nat.beq vs.length size && Nat.ble (off + size) cs.length then fillL place (splice cs off vs) rest else none
theorem foldl_splice0 (vs : List Value) : ∀ (k off : Nat) (cs : List Value), off + k + vs.length ≤ cs.length →
  (vs.zipIdx k).foldl (fun (cs : Array Value) (x : Value × Nat) => cs.setIfInBounds (off + x.2) x.1) cs.toArray = (splice cs (off + k) vs).toArray := by
 induction vs with
 | nil => intro k off cs _; simp [splice]
 | cons v vs ih =>
  intro k off cs h
  simp only [List.length_cons] at h
  have := ih (k + 1) off (cs.set (off + k) v) (by simp; omega)
  rw [splice_cons (by omega)]
  rw [List.zipIdx_cons, List.foldl_cons, List.setIfInBounds_toArray, this, Nat.add_assoc]
theorem foldl_splice (vs : List Value) (k off : Nat) (cs : List Value) (h : off + k + vs.length ≤ cs.length) :
  (vs.toArray.zipIdx k).foldl (fun (cs : Array Value) (x : Value × Nat) => cs.setIfInBounds (off + x.2) x.1) cs.toArray = (splice cs (off + k) vs).toArray := by
 rw [← foldl_splice0 vs k off cs h, ← Array.foldl_toList, Array.toList_zipIdx]
theorem fill_ok {place : Nat → Option (Nat × Nat)} : ∀ {l : List (Nat × Value)} {cs out : List Value}, fillL place cs l = some out → Instr.fill place cs.toArray l = some out.toArray := by
 intro l
 induction l with
 | nil => intro cs out h; have := Option.some.inj h; subst this; rfl
 | cons x l ih =>
  obtain ⟨i, v⟩ := x
  intro cs out h
  simp only [fillL] at h
  unfold Instr.fill
  cases hp : place i with
  | none => simp [hp] at h
  | some os =>
   obtain ⟨off, size⟩ := os
   simp only [hp] at h
   have key : ∀ vs : List Value, v.cells.toList = vs → vs.length = size → off + size ≤ cs.length → fillL place (splice cs off vs) l = some out →
     (if v.cells.size ≠ size || off + v.cells.size > cs.toArray.size then none
      else Instr.fill place (v.cells.zipIdx.foldl (fun (cs : Array Value) (x : Value × Nat) => cs.setIfInBounds (off + x.2) x.1) cs.toArray) l) = some out.toArray := by
    intro vs hv hs hl hf
    have hv' : v.cells = vs.toArray := by rw [← hv]
    rw [hv']
    have h1 : ¬ ((decide (vs.toArray.size ≠ size) || decide (off + vs.toArray.size > cs.toArray.size)) = true) := by
     simp [hs]; omega
    rw [if_neg h1]
    have := foldl_splice vs 0 off cs (by omega)
    rw [this]
    exact ih hf
   split at h
   ·rename_i x hx
    cases hb : (Nat.beq size 1 && Nat.blt off cs.length) with
    | false => rw [hb] at h; cases h
    | true =>
     rw [hb] at h
     rw [Bool.and_eq_true] at hb
     have h1 := Nat.eq_of_beq_eq_true hb.1
     have h2 : off < cs.length := Nat.le_of_ble_eq_true hb.2
     exact key [x] hx (by simp [h1]) (by omega) (by rw [splice_one h2]; exact h)
   ·cases hb : (Nat.beq v.cells.toList.length size && Nat.ble (off + size) cs.length) with
    | false => rw [hb] at h; cases h
    | true =>
     rw [hb] at h
     rw [Bool.and_eq_true] at hb
     exact key _ rfl (Nat.eq_of_beq_eq_true hb.1) (Nat.le_of_ble_eq_true hb.2) h
theorem pure_build_arr {T eT : TypeId} {len : Nat} {ps : List (Nat × Operand)} {vs : List (Nat × Value)} {zs : List Value} {cs : List Value} {d u : Ty}
  (hv : evp rs ps = some vs) (hz : ZeroIs B T zs) (hT : B.ty T = some d) (hd : d.desc = .array len eT) (hu : B.ty eT = some u)
  (hf : fillL (fun i => some (i * u.size, u.size)) zs vs = some cs) :
  Pure B E rs m ⟨dst, .build T ps.toArray, ty, pos, aft, gd⟩ (.agg cs.toArray) := by
 refine ⟨fun a w hr hh hk => ?_⟩
 obtain ⟨z, hc, hz⟩ := hz
 have e1 : (ps.toArray.map fun p => (p.1, a.eval p.2)) = vs.toArray := by rw [List.map_toArray, evp_ok hr hv]
 simp only [execOp, e1, Instr.build]
 simp [hz, hc, hd ▸ ty_under hT (by rw [hd]; rfl), ty_size hu, fill_ok hf]
theorem run_places {fs gs : Array Field} (hg : (gs.map fun f => fd f.type f.offset) = fs) {pl : List (Nat × Nat)} {w : World}
  (hp : fs.toList.map (fun f => (B.ty f.type).map fun u => (f.offset, u.size)) = pl.map some) :
  (gs.mapM fun f => Prod.mk f.offset <$> sizeOf f.type).run B.P w = .ok pl.toArray w := by
 have key : ∀ (l : List Field) (pl : List (Nat × Nat)), (l.map fun f => (B.ty f.type).map fun u => (f.offset, u.size)) = pl.map some →
   (l.mapM fun f => Prod.mk f.offset <$> sizeOf f.type).run B.P w = .ok pl w := by
  intro l
  induction l with
  | nil => intro pl h; cases pl with
   | nil => rfl
   | cons p pl => simp at h
  | cons f l ih =>
   intro pl h
   cases pl with
   | nil => simp at h
   | cons p pl =>
    simp only [List.map_cons, List.cons.injEq] at h
    cases hu : B.ty f.type with
    | none => rw [hu] at h; simp at h
    | some u =>
     rw [hu] at h
     simp only [Option.map_some, Option.some.injEq] at h
     simp [List.mapM_cons, ty_size hu, ih pl h.2, h.1]
 have h2 : gs.toList.map (fun f => (B.ty f.type).map fun u => (f.offset, u.size)) = pl.map some := by
  rw [← hp, ← hg]
  simp [fd]
 have := key gs.toList pl h2
 cases gs with
 | mk l =>
  rw [List.mapM_toArray]
  simp at this
  simp [this]
theorem pure_build_struct {T : TypeId} {fs : Array Field} {ps : List (Nat × Operand)} {vs : List (Nat × Value)} {zs : List Value} {cs : List Value} {d : Ty} {pl : List (Nat × Nat)}
  (hv : evp rs ps = some vs) (hz : ZeroIs B T zs) (hT : B.ty T = some d) (hd : d.desc = .struct fs)
  (hp : fs.toList.map (fun f => (B.ty f.type).map fun u => (f.offset, u.size)) = pl.map some)
  (hf : fillL (fun i => nth pl i) zs vs = some cs) :
  Pure B E rs m ⟨dst, .build T ps.toArray, ty, pos, aft, gd⟩ (.agg cs.toArray) := by
 refine ⟨fun a w hr hh hk => ?_⟩
 obtain ⟨z, hc, hz⟩ := hz
 obtain ⟨gs, hg, hs⟩ := ty_struct hT hd
 have e1 : (ps.toArray.map fun p => (p.1, a.eval p.2)) = vs.toArray := by rw [List.map_toArray, evp_ok hr hv]
 have e2 : (fun i => nth pl i) = fun i => pl[i]? := by funext i; rw [nth_eq]
 rw [e2] at hf
 have hf := fill_ok hf
 simp only [execOp, e1, Instr.build]
 simp [hz, hc, hs, run_places hg hp, hf]
/-! stores -/
def setAt : Mem → Nat → List Value → Mem
 | [], _, _ => []
 | e :: m, 0, c => ⟨e.blk, c, e.elem⟩ :: m
 | e :: m, i + 1, c => e :: setAt m i c
theorem apartFrom_setAt {b : Nat} {i : Nat} {c : List Value} {e : Ent} (hl : e.cells ≠ []) : ∀ {m : Mem}, nth m i = some e → apartFrom b m → apartFrom b (setAt m i c) := by
 induction i with
 | zero => intro m he h; cases m with
  | nil => trivial
  | cons x m =>
   have : x = e := Option.some.inj he
   subst this
   exact ⟨fun _ => h.1 hl, h.2⟩
 | succ i ih => intro m he h; cases m with
  | nil => trivial
  | cons x m => exact ⟨h.1, ih he h.2⟩
theorem apartFrom_at {b : Nat} {m : Mem} (h : apartFrom b m) {e : Ent} (he : e ∈ m) (hl : e.cells ≠ []) : b ≠ e.blk := by
 induction m with
 | nil => cases he
 | cons x m ih =>
  cases he with
  | head => exact h.1 hl
  | tail _ hm => exact ih h.2 hm
/-- A world in which one of these blocks has other cells. -/
theorem Has.setAt {w w' : World} {i : Nat} {c : List Value} {e : Ent} (hl : e.cells ≠ []) : ∀ {m : Mem}, Has w m → nth m i = some e →
  (∀ b, b ≠ e.blk → w'.heap[b]? = w.heap[b]?) → w'.heap[e.blk]? = some (.cells c.toArray e.elem (0, 0)) → Has w' (Vc.setAt m i c) := by
 induction i with
 | zero =>
  intro m h he ho hn
  cases m with
  | nil => cases he
  | cons x m =>
   have : x = e := Option.some.inj he
   subst this
   exact ⟨fun _ => hn, fun _ => h.2.1 hl, h.2.2.of_same (fun y hy hyl => ho _ (Ne.symm (apartFrom_at (h.2.1 hl) hy hyl)))⟩
 | succ i ih =>
  intro m h he ho hn
  cases m with
  | nil => cases he
  | cons x m =>
   have he' : nth m i = some e := he
   exact ⟨fun hx => (ho _ (apartFrom_at (h.2.1 hx) (nth_mem he') hl)).trans (h.1 hx), fun hx => apartFrom_setAt hl he' (h.2.1 hx), ih h.2.2 he' ho hn⟩
theorem Own.setAt {i : Nat} {c : List Value} {e : Ent} (hl : e.cells ≠ []) : ∀ {m : Mem}, nth m i = some e → Own E m → Own E (Vc.setAt m i c) := by
 induction i with
 | zero => intro m he h; cases m with
  | nil => trivial
  | cons x m =>
   have : x = e := Option.some.inj he
   subst this
   exact ⟨fun _ => h.1 hl, h.2⟩
 | succ i ih => intro m he h; cases m with
  | nil => trivial
  | cons x m => exact ⟨h.1, ih he h.2⟩
/-- A block is put in another's place. -/
def repl : Mem → Nat → Ent → Mem
 | [], _, _ => []
 | _ :: m, 0, e => e :: m
 | x :: m, i + 1, e => x :: repl m i e
theorem mem_repl {i : Nat} {e' y : Ent} : ∀ {m : Mem}, y ∈ repl m i e' → y = e' ∨ y ∈ m := by
 induction i with
 | zero => intro m h; cases m with
  | nil => cases h
  | cons x m =>
   cases h with
   | head => exact .inl rfl
   | tail _ hm => exact .inr (.tail _ hm)
 | succ i ih => intro m h; cases m with
  | nil => cases h
  | cons x m =>
   cases h with
   | head => exact .inr (.head _)
   | tail _ hm => exact (ih hm).elim .inl (fun h => .inr (.tail _ h))
theorem apartFrom_repl {b i : Nat} {e' : Ent} (hb : e'.cells ≠ [] → b ≠ e'.blk) : ∀ {m : Mem}, apartFrom b m → apartFrom b (repl m i e') := by
 induction i with
 | zero => intro m h; cases m with
  | nil => trivial
  | cons x m => exact ⟨hb, h.2⟩
 | succ i ih => intro m h; cases m with
  | nil => trivial
  | cons x m => exact ⟨h.1, ih h.2⟩
/-- A block that was not there takes another's place. -/
theorem Has.repl {w w' : World} {i : Nat} {e' : Ent} (hf : w.heap.size ≤ e'.blk) (hn : w'.heap[e'.blk]? = some (.cells e'.cells.toArray e'.elem (0, 0))) :
  ∀ {m : Mem}, Has w m → (∀ b, b < w.heap.size → w'.heap[b]? = w.heap[b]?) → Has w' (Vc.repl m i e') := by
 induction i with
 | zero =>
  intro m h ho
  cases m with
  | nil => trivial
  | cons x m => exact ⟨fun _ => hn, fun _ => apartFrom_of (fun y hy hyl => by have := h.2.2.cell hy hyl; have := lt_of_heap this; omega), h.2.2.of_same (fun y hy hyl => ho _ (lt_of_heap (h.2.2.cell hy hyl)))⟩
 | succ i ih =>
  intro m h ho
  cases m with
  | nil => trivial
  | cons x m =>
   exact ⟨fun hx => (ho _ (lt_of_heap (h.1 hx))).trans (h.1 hx), fun hx => apartFrom_repl (fun _ => by have := lt_of_heap (h.1 hx); omega) (h.2.1 hx), ih h.2.2 ho⟩
theorem Own.repl {i : Nat} {e' : Ent} (hb : e'.cells ≠ [] → E.w0.heap.size ≤ e'.blk ∨ e'.blk ∈ E.ws) : ∀ {m : Mem}, Own E m → Own E (Vc.repl m i e') := by
 induction i with
 | zero => intro m h; cases m with
  | nil => trivial
  | cons x m => exact ⟨hb, h.2⟩
 | succ i ih => intro m h; cases m with
  | nil => trivial
  | cons x m => exact ⟨h.1, ih h.2⟩
theorem setAt_repl {i : Nat} {c : List Value} {e : Ent} : ∀ {m : Mem}, nth m i = some e → setAt m i c = repl m i ⟨e.blk, c, e.elem⟩ := by
 induction i with
 | zero => intro m he; cases m with
  | nil => rfl
  | cons x m =>
   have : x = e := Option.some.inj he
   subst this
   rfl
 | succ i ih => intro m he; cases m with
  | nil => rfl
  | cons x m => exact congrArg (x :: ·) (ih he)
theorem setAt_self {i : Nat} {e : Ent} : ∀ {m : Mem}, nth m i = some e → setAt m i e.cells = m := by
 induction i with
 | zero => intro m he; cases m with
  | nil => rfl
  | cons x m =>
   have : x = e := Option.some.inj he
   subst this
   rfl
 | succ i ih => intro m he; cases m with
  | nil => rfl
  | cons x m => exact congrArg (x :: ·) (ih he)
theorem setCell_heap_other {w : World} {b off : Nat} {v : Value} {k : Nat} (h : k ≠ b) : (w.setCell ⟨b, off, none⟩ v).heap[k]? = w.heap[k]? :=
 Below.heap_setCell w ⟨b, off, none⟩ v k h
theorem setCell_heap_same {w : World} {b off : Nat} {v : Value} {c : List Value} {t : TypeId} (h : w.heap[b]? = some (.cells c.toArray t (0, 0))) :
  (w.setCell ⟨b, off, none⟩ v).heap[b]? = some (.cells (c.set off v).toArray t (0, 0)) := by
 simp [World.setCell, Array.getElem?_modify, h]
theorem run_storeCells {P : Program} {b off : Nat} {t : TypeId} (vs : List Value) : ∀ (i : Nat) (w : World) (c : List Value), (∀ v ∈ vs, v.oneCell' = true) →
  w.heap[b]? = some (.cells c.toArray t (0, 0)) → off + i + vs.length ≤ c.length →
  ∃ w', (storeCells ⟨b, off, none⟩ vs i).run P w = .ok () w' ∧ w'.heap[b]? = some (.cells (splice c (off + i) vs).toArray t (0, 0)) ∧
   (∀ k, k ≠ b → w'.heap[k]? = w.heap[k]?) ∧ w'.os = w.os ∧ w'.tape = w.tape ∧ w'.output = w.output ∧ w'.heap.size = w.heap.size := by
 induction vs with
 | nil => intro i w c _ h _; exact ⟨w, rfl, by simpa [splice] using h, fun _ _ => rfl, rfl, rfl, rfl, rfl⟩
 | cons v vs ih =>
  intro i w c hv h hl
  simp only [List.length_cons] at hl
  have hlt : off + i < c.length := by omega
  have hc : w.cell? ⟨b, off + i, none⟩ = some c[off + i] := cell_of h (List.getElem?_eq_getElem hlt)
  have hf : w.frozen? ⟨b, off + i, none⟩ = false := free_of h
  obtain ⟨w', h1, h2, h3, h4, h5, h6, h7⟩ := ih (i + 1) (w.setCell ⟨b, off + i, none⟩ v) (c.set (off + i) v) (fun u hu => hv u (.tail _ hu))
   (setCell_heap_same h) (by simp; omega)
  refine ⟨w', ?_, ?_, fun k hk => (h3 k hk).trans (setCell_heap_other hk), h4, h5, h6, by rw [h7]; simp⟩
  ·simp only [storeCells, add_none, Sem.run_bind, run_store _ _ _ _ _ (hv v (.head _)), hc, hf, Bool.false_eq_true, if_false, Result.andThen_ok]
   exact h1
  ·rw [h2]
   congr 2
   unfold splice
   have e1 : (c.set (off + i) v).take (off + (i + 1)) = c.take (off + i) ++ [v] := by
    rw [← Nat.add_assoc, List.take_add_one, List.take_set_of_le (Nat.le_refl _)]
    simp [hlt]
   have e2 : (c.set (off + i) v).drop (off + (i + 1) + vs.length) = c.drop (off + i + (v :: vs).length) := by
    rw [List.drop_set_of_lt (by omega)]
    congr 1
    simp; omega
   rw [e1, e2]
   simp
theorem Keep.write {w0 w w' : World} {ws : List Nat} {b : Nat} (h : Keep w0 w ws) (hb : w0.heap.size ≤ b ∨ b ∈ ws) (h3 : ∀ k, k ≠ b → w'.heap[k]? = w.heap[k]?)
  (h4 : w'.os = w.os) (h5 : w'.tape = w.tape) (h6 : w'.output = w.output) (h7 : w'.heap.size = w.heap.size) : Keep w0 w' ws :=
 ⟨h4.trans h.os, h5.trans h.tape, h6.trans h.output, by rw [h7]; exact h.size, fun k hk hn => by
  have : k ≠ b := by rintro rfl; exact hb.elim (fun hb => by omega) hn
  exact (h3 k this).trans (h.block k hk hn)⟩
theorem eff_store {T : TypeId} {x y : Operand} {b off i : Nat} {e : Ent} {d : Ty} {v : Value} {vs : List Value} {c : List Value}
  (hx : ev rs x = some (.pointer (some ⟨b, off, none⟩))) (hy : ev rs y = some v) (hvs : v.cells = vs.toArray) (hT : B.ty T = some d)
  (hs : vs.length = d.size) (hone : ∀ v ∈ vs, v.oneCell' = true) (he : nth m i = some e) (hb : e.blk = b) (hl : off + d.size ≤ e.cells.length) (hc : splice e.cells off vs = c) :
  Eff B E rs m ⟨dst, .store T x y, ty, pos, aft, gd⟩ (fun v' m' => v' = undef ∧ m' = setAt m i c) := by
 refine ⟨fun a w hr hh ho hk => ?_⟩
 by_cases hlv : e.cells = []
 ·rw [hlv] at hl hc
  simp at hl
  have hvs0 : vs = [] := List.eq_nil_of_length_eq_zero (by omega)
  have hc0 : c = e.cells := by rw [hlv, ← hc, hvs0]; simp [splice]
  have hm : setAt m i c = m := by rw [hc0]; exact setAt_self he
  refine ⟨.skip, w, undef, setAt m i c, ?_, .inr ⟨rfl, rfl⟩, by rw [hm]; exact hh, by rw [hm]; exact ho, hk, rfl, rfl⟩
  have h0 : d.size = 0 := by omega
  simp [execOp, ev_ok hr hx, ev_ok hr hy, Instr.storeAt, Instr.sureAddr, storeVar, hvs, ty_size hT, hvs0, h0, storeCells]
 ·have hcell := hh.cell (nth_mem he) hlv
  obtain ⟨w', h1, h2, h3, h4, h5, h6, h7⟩ := run_storeCells (P := B.P) (off := off) vs 0 w e.cells hone hcell (by omega)
  refine ⟨.skip, w', undef, setAt m i c, ?_, .inr ⟨rfl, rfl⟩, ?_, ho.setAt hlv he, hk.write (ho.at (nth_mem he) hlv) h3 h4 h5 h6 h7, rfl, rfl⟩
  ·subst hb
   simp [execOp, ev_ok hr hx, ev_ok hr hy, Instr.storeAt, Instr.sureAddr, storeVar, hvs, ty_size hT, hs, h1]
  ·refine hh.setAt hlv he h3 ?_
   rw [h2]
   simp only [Nat.add_zero, hc]
/-- One cell is stored. -/
theorem step_store {T : TypeId} {x y : Operand} {b off : Nat} {e : Ent} {d : Ty} {v : Value} {c : List Value} (i : Nat)
  (hw : wants all rs ⟨none, .store T x y, ty, pos, aft, gd⟩ = some true)
  (hx : ev rs x = some (.pointer (some ⟨b, off, none⟩))) (hy : ev rs y = some v) (hv : v.oneCell' = true) (hT : B.ty T = some d)
  (hs : d.size = 1) (he : nth m i = some e) (hb : e.blk = b) (hl : off < e.cells.length) (hc : e.cells.set off v = c)
  (h : WPl B E n all rest rs (setAt m i c) K) :
  WPl B E n all (⟨none, .store T x y, ty, pos, aft, gd⟩ :: rest) rs m K := by
 refine step_eff hw rfl (eff_store (vs := [v]) (c := c) hx hy (by cases v <;> first | rfl | cases hv) hT (by simp [hs]) (by simpa using hv) he hb (by omega) ?_) ?_
 ·rw [splice_one hl, hc]
 ·rintro v' m' ⟨rfl, rfl⟩; exact h
/-- A struct or an array is stored. -/
theorem step_store_agg {T : TypeId} {x y : Operand} {b off : Nat} {e : Ent} {d : Ty} {vs : List Value} {c : List Value} (i : Nat)
  (hw : wants all rs ⟨none, .store T x y, ty, pos, aft, gd⟩ = some true)
  (hx : ev rs x = some (.pointer (some ⟨b, off, none⟩))) (hy : ev rs y = some (.agg vs.toArray)) (hv : ∀ v ∈ vs, v.oneCell' = true) (hT : B.ty T = some d)
  (hs : vs.length = d.size) (he : nth m i = some e) (hb : e.blk = b) (hl : off + d.size ≤ e.cells.length) (hc : splice e.cells off vs = c)
  (h : WPl B E n all rest rs (setAt m i c) K) :
  WPl B E n all (⟨none, .store T x y, ty, pos, aft, gd⟩ :: rest) rs m K := by
 refine step_eff hw rfl (eff_store (vs := vs) (c := c) hx hy rfl hT hs hv he hb hl hc) ?_
 rintro v' m' ⟨rfl, rfl⟩; exact h
/-! ### calls -/
def evs (rs : Rs) : List Operand → Option (List Value)
 | [] => some []
 | x :: r =>
  match ev rs x, evs rs r with
  | some v, some vs => some (v :: vs)
  | _, _ => none
theorem evs_ok {a : Act} (hr : Regs rs a) : ∀ {l : List Operand} {vs : List Value}, evs rs l = some vs → l.map a.eval = vs := by
 intro l
 induction l with
 | nil => intro vs h; exact Option.some.inj h
 | cons x r ih =>
  intro vs h
  simp only [evs] at h
  cases hx : ev rs x with
  | none => simp [hx] at h
  | some v =>
   cases hv : evs rs r with
   | none => simp [hx, hv] at h
   | some us =>
    simp [hx, hv] at h
    subst h
    simp [ev_ok hr hx, ih hv]
/-- A function that the program knows, with a body of its own. -/
def Fun (B : Tb) (f : FuncId) : Prop := ∀ args w, (callFunc f args).run B.P w = .ok (.enter f args) w
theorem step_callee {f : FuncId} {fx : Operand} {args : List Operand} {ats : Array TypeId} {vs caps : List Value} {d : Nat}
  (hc : chk all n rs ⟨dst, .call ⟨.value fx, args.toArray, ats⟩, ty, pos, aft, gd⟩ = some d)
  (hfx : ev rs fx = some (.func (.func f) #[] caps.toArray)) (hf : Fun B f) (hv : evs rs args = some vs)
  (h : ∀ w, Has w m → Keep E.w0 w E.ws → Calls B.P f (vs ++ caps).toArray w fun e w' => ∃ v m', e = .returned v ∧ Has w' m' ∧ Own E m' ∧ Keep E.w0 w' E.ws ∧
   WPl B E n all rest ((d, v) :: rs) m' K) :
  WPl B E n all (⟨dst, .call ⟨.value fx, args.toArray, ats⟩, ty, pos, aft, gd⟩ :: rest) rs m K := by
 refine ⟨fun Q hQ a w ok => ?_⟩
 obtain ⟨hw, hd, hdn⟩ := chk_ok hc
 unfold wpList
 rw [if_pos (wants_ok ok.regs hw)]
 left
 unfold Oper.wp
 have hrun : (execOp a.eval ⟨dst, .call ⟨.value fx, args.toArray, ats⟩, ty, pos, aft, gd⟩).run B.P w = .ok (.enter f (vs ++ caps).toArray) w := by
  have e1 : args.toArray.map a.eval = vs.toArray := by rw [List.map_toArray, evs_ok ok.regs hv]
  simp only [execOp, resolve, e1, ev_ok ok.regs hfx, Deferred.ofValue, Sem.run_bind, Sem.run_pure, Result.andThen_ok, invoke]
  have := hf (vs ++ caps).toArray w
  simpa using this
 rw [hrun]
 refine (h w ok.has ok.keep).mono ?_
 rintro e w' ⟨v, m', rfl, h1, h2, h3, h4⟩
 have hd' : dst = some d := hd
 subst hd'
 exact h4.run Q hQ _ _ ⟨(put_size ..).trans ok.size, (put_defers ..).trans ok.defers, put_regs (d := some d) ok.size hdn ok.regs, h1, h2, h3⟩
theorem step_call {f : FuncId} {args : List Operand} {ats : Array TypeId} {vs : List Value} {d : Nat}
  (hc : chk all n rs ⟨dst, .call ⟨.value (.func f), args.toArray, ats⟩, ty, pos, aft, gd⟩ = some d)
  (hf : Fun B f) (hv : evs rs args = some vs)
  (h : ∀ w, Has w m → Keep E.w0 w E.ws → Calls B.P f vs.toArray w fun e w' => ∃ v m', e = .returned v ∧ Has w' m' ∧ Own E m' ∧ Keep E.w0 w' E.ws ∧
   WPl B E n all rest ((d, v) :: rs) m' K) :
  WPl B E n all (⟨dst, .call ⟨.value (.func f), args.toArray, ats⟩, ty, pos, aft, gd⟩ :: rest) rs m K :=
 step_callee (caps := []) hc rfl hf hv (fun w h1 h2 => by rw [List.append_nil]; exact h w h1 h2)
theorem Keep.has {w w' : World} {m : Mem} (h : Keep w w' []) (hh : Has w m) : Has w' m :=
 hh.of_same (fun e he hl => h.block e.blk (hh.lt e he hl) (by simp))
/-- A callee that gives this value, and writes nothing that was there. -/
structure Gives (B : Tb) (f : FuncId) (vs : List Value) (w : World) (v : Value) : Prop where
 calls : Calls B.P f vs.toArray w fun e w' => e = .returned v ∧ Keep w w' []
theorem step_gives {f : FuncId} {args : List Operand} {ats : Array TypeId} {vs : List Value} {v : Value} {d : Nat}
  (hc : chk all n rs ⟨dst, .call ⟨.value (.func f), args.toArray, ats⟩, ty, pos, aft, gd⟩ = some d)
  (hf : Fun B f) (hv : evs rs args = some vs) (hg : ∀ w, Has w m → Keep E.w0 w E.ws → Gives B f vs w v)
  (h : WPl B E n all rest ((d, v) :: rs) m K) :
  WPl B E n all (⟨dst, .call ⟨.value (.func f), args.toArray, ats⟩, ty, pos, aft, gd⟩ :: rest) rs m K := by
 refine ⟨fun Q hQ a w ok => ?_⟩
 refine (step_call (m := m) (K := K) hc hf hv (fun w hh hk => (hg w hh hk).calls.mono ?_)).run Q hQ a w ok
 rintro e w' ⟨rfl, hkeep⟩
 exact ⟨v, m, rfl, hkeep.has hh, ok.own, hk.trans hkeep (by simp), h⟩
/-! ### a function's beginning and end -/
def argRs : Nat → List Value → Rs
 | _, [] => []
 | i, v :: vs => (i, v) :: argRs (i + 1) vs
theorem look_argRs (vs : List Value) : ∀ i t, look (argRs i vs) t = if i ≤ t then vs[t - i]? else none := by
 induction vs with
 | nil => intro i t; simp [argRs, look]
 | cons v vs ih =>
  intro i t
  simp only [argRs, look]
  by_cases e : i = t
  ·subst e; simp
  ·have e' : Nat.beq i t = false := by
    cases hb : Nat.beq i t with
    | false => rfl
    | true => exact absurd (Nat.eq_of_beq_eq_true hb) e
   rw [e', ih]
   simp only [cond_false]
   by_cases h : i ≤ t
   ·rw [if_pos (by omega), if_pos h, show t - i = (t - (i + 1)) + 1 from by omega]; simp
   ·rw [if_neg (by omega), if_neg h]
/-- What a function hands back. -/
structure ResIs (B : Tb) (fn : Func) (rs : Rs) (m : Mem) (v : Value) : Prop where
 run : ∀ a w, Regs rs a → Has w m → (results fn a.tmps).run B.P w = .ok v w
def retQ (B : Tb) (E : Env) (fn : Func) (R : Value → Mem → Prop) : Post := fun e rs m =>
 match e with
 | .normal => ∃ v, ResIs B fn rs m v ∧ R v m
 | .ret => ∃ v, ResIs B fn rs m v ∧ R v m
 | _ => False
theorem calls_of {f : FuncId} {fn : Func} {c : Code} {vs : List Value} {w : World} {ws : List Nat} {m0 : Mem} {R : Value → Mem → Prop}
  (hf : B.P.funcs[f]? = some fn) (hb : fn.body = some c) (hn : fn.ntmps = n) (hl : Nat.ble vs.length n = true)
  (hm : Has w m0) (ho : Own ⟨w, ws, []⟩ m0)
  (h : WP B ⟨w, ws, []⟩ n c (argRs 0 vs) m0 (retQ B ⟨w, ws, []⟩ fn R)) (hrn : B.rnd = none := by rfl) :
  Calls B.P f vs.toArray w fun e w' => ∃ v m', e = .returned v ∧ R v m' ∧ Has w' m' ∧ Own ⟨w, ws, []⟩ m' ∧ Keep w w' ws := by
 have hF : B.F = Fence.wide := by unfold Tb.F; rw [hrn]; rfl
 have hrun : ∀ a w', Ok ⟨w, ws, []⟩ n (argRs 0 vs) m0 a w' → c.wp B.P (lift ⟨w, ws, []⟩ n (retQ B ⟨w, ws, []⟩ fn R)) a w' := fun a w' ok => by
  have := h.run a w' ok
  rw [hF] at this
  exact wpIn_wide.1 this
 refine calls_of_wp hf hb (Go.wp_mono (hrun _ w ⟨?_, rfl, ?_, hm, ho, Keep.refl w ws⟩) ?_)
 ·have := Nat.le_of_ble_eq_true hl
  simp [hn]; omega
 ·intro t v hv
  rw [look_argRs] at hv
  simp only [Nat.zero_le, if_true, Nat.sub_zero] at hv
  have hlt : t < vs.length := by
   rcases Nat.lt_or_ge t vs.length with h' | h'
   ·exact h'
   ·rw [List.getElem?_eq_none h'] at hv; cases hv
  simp [Array.getElem?_append, hlt]
  simpa [hlt] using hv
 ·rintro e a' w' ⟨rs', m', ok, hq⟩
  cases e with
  | normal =>
   obtain ⟨v, hv, hR⟩ := hq
   exact ⟨ok.defers, v, hv.run _ _ ok.regs ok.has, v, m', rfl, hR, ok.has, ok.own, ok.keep⟩
  | ret =>
   obtain ⟨v, hv, hR⟩ := hq
   exact ⟨ok.defers, v, hv.run _ _ ok.regs ok.has, v, m', rfl, hR, ok.has, ok.own, ok.keep⟩
  | exit id => exact hq.elim
  | goto l => exact hq.elim
  | panic ch => exact hq.elim
  | outgrown => exact hq.elim
theorem gives_of {f : FuncId} {fn : Func} {c : Code} {vs : List Value} {w : World} {v : Value}
  (hf : B.P.funcs[f]? = some fn) (hb : fn.body = some c) (hn : fn.ntmps = n) (hl : Nat.ble vs.length n = true)
  (h : WP B ⟨w, [], []⟩ n c (argRs 0 vs) [] (retQ B ⟨w, [], []⟩ fn (fun u _ => u = v))) (hrn : B.rnd = none := by rfl) : Gives B f vs w v :=
 ⟨(calls_of hf hb hn hl (m0 := []) trivial trivial h hrn).mono (by rintro e w' ⟨u, m', rfl, rfl, _, _, hk⟩; exact ⟨rfl, hk⟩)⟩
/-- A callee that hands back a value and new blocks, and writes nothing that was there. -/
structure Makes (B : Tb) (f : FuncId) (vs : List Value) (w : World) (R : Value → Mem → Prop) : Prop where
 calls : Calls B.P f vs.toArray w fun e w' => ∃ v m', e = .returned v ∧ R v m' ∧ Has w' m' ∧ Own ⟨w, [], []⟩ m' ∧ Keep w w' []
theorem makes_of {f : FuncId} {fn : Func} {c : Code} {vs : List Value} {w : World} {R : Value → Mem → Prop}
  (hf : B.P.funcs[f]? = some fn) (hb : fn.body = some c) (hn : fn.ntmps = n) (hl : Nat.ble vs.length n = true)
  (h : WP B ⟨w, [], []⟩ n c (argRs 0 vs) [] (retQ B ⟨w, [], []⟩ fn (fun u m => ∃ m', m'.Sublist m ∧ R u m'))) (hrn : B.rnd = none := by rfl) : Makes B f vs w R :=
 ⟨(calls_of hf hb hn hl (m0 := []) trivial trivial h hrn).mono (by rintro e w' ⟨u, m', rfl, ⟨m2, hs, hR⟩, hh, ho, hk⟩; exact ⟨u, m2, rfl, hR, hh.sublist hs, ho.sublist hs, hk⟩)⟩
theorem apartFrom_append {b : Nat} {m1 m2 : Mem} (h1 : apartFrom b m1) (h2 : apartFrom b m2) : apartFrom b (m1 ++ m2) := by
 induction m1 with
 | nil => exact h2
 | cons x m ih => exact ⟨h1.1, ih h1.2⟩
theorem Has.join {w1 w' : World} {d : List Deferred} {m2 : Mem} (h2 : Has w1 m2) (k : Keep w1 w' []) : ∀ {m1 : Mem}, Has w' m1 → Own ⟨w1, [], d⟩ m1 → Has w' (m1 ++ m2) := by
 intro m1
 induction m1 with
 | nil => exact fun _ _ => k.has h2
 | cons x m ih =>
  intro h1 o1
  refine ⟨h1.1, fun hx => apartFrom_append (h1.2.1 hx) (apartFrom_of fun e he hl => ?_), ih h1.2.2 o1.2⟩
  have h3 := h2.lt e he hl
  rcases o1.1 hx with h4 | h4
  ·have h5 : w1.heap.size ≤ x.blk := h4
   omega
  ·cases h4
theorem Own.join {w1 : World} {d : List Deferred} {m2 : Mem} (hs : E.w0.heap.size ≤ w1.heap.size) (o2 : Own E m2) : ∀ {m1 : Mem}, Own ⟨w1, [], d⟩ m1 → Own E (m1 ++ m2) := by
 intro m1
 induction m1 with
 | nil => exact fun _ => o2
 | cons x m ih =>
  intro o1
  refine ⟨fun hx => ?_, ih o1.2⟩
  rcases o1.1 hx with h4 | h4
  ·have h5 : w1.heap.size ≤ x.blk := h4
   exact .inl (by omega)
  ·cases h4
theorem step_makes {f : FuncId} {args : List Operand} {ats : Array TypeId} {vs : List Value} {R : Value → Mem → Prop} {d : Nat}
  (hc : chk all n rs ⟨dst, .call ⟨.value (.func f), args.toArray, ats⟩, ty, pos, aft, gd⟩ = some d)
  (hf : Fun B f) (hv : evs rs args = some vs) (hg : ∀ w, Has w m → Keep E.w0 w E.ws → Makes B f vs w R)
  (h : ∀ v m', R v m' → WPl B E n all rest ((d, v) :: rs) (m' ++ m) K) :
  WPl B E n all (⟨dst, .call ⟨.value (.func f), args.toArray, ats⟩, ty, pos, aft, gd⟩ :: rest) rs m K := by
 refine ⟨fun Q hQ a w ok => ?_⟩
 refine (step_call (m := m) (K := K) hc hf hv (fun w hh hk => (hg w hh hk).calls.mono ?_)).run Q hQ a w ok
 rintro e w' ⟨v, m', rfl, hR, h1, h2, hkeep⟩
 exact ⟨v, m' ++ m, rfl, Has.join hh hkeep h1 h2, Own.join hk.size ok.own h2, hk.trans hkeep (by simp), h v m' hR⟩
theorem res_none {fn : Func} (h : fn.results = #[]) : ResIs B fn rs m (.tuple #[]) := by
 refine ⟨fun a w hr hh => ?_⟩
 simp [results, h]
theorem res_tmp {fn : Func} {t : Tmp} {v : Value} (h : fn.results = #[.tmp t]) (hv : look rs t = some v) : ResIs B fn rs m v := by
 refine ⟨fun a w hr hh => ?_⟩
 have := hr t v hv
 simp [results, h, Array.getD_eq_getD_getElem?, this]
theorem res_tmp2 {fn : Func} {t u : Tmp} {v x : Value} (h : fn.results = #[.tmp t, .tmp u]) (hv : look rs t = some v) (hx : look rs u = some x) :
  ResIs B fn rs m (.tuple #[v, x]) := by
 refine ⟨fun a w hr hh => ?_⟩
 have h1 := hr t v hv
 have h2 := hr u x hx
 simp [results, h, Array.getD_eq_getD_getElem?, h1, h2]
theorem res_cell_agg {fn : Func} {t : Tmp} {T : TypeId} {b off i : Nat} {e : Ent} {d : Ty} {vs : List Value} (h : fn.results = #[.cell t T])
  (hx : look rs t = some (.pointer (some ⟨b, off, none⟩))) (hT : B.ty T = some d) (hd : d.agg = true) (he : nth m i = some e) (hb : e.blk = b)
  (hl : off + d.size ≤ e.cells.length) (hv : (e.cells.drop off).take d.size = vs) : ResIs B fn rs m (.agg vs.toArray) := by
 refine ⟨fun a w hr hh => ?_⟩
 have h1 := hr t _ hx
 have hc := hh.cell (nth_mem he)
 rw [hb] at hc
 subst hv
 simp [results, h, Array.getD_eq_getD_getElem?, h1, asAddr, loadVar, ty_agg hT, hd, ty_size hT, run_loadCells0 hc _ hl]
end ops
/-! short names of the commonest steps (shrink.py puts them in) -/
section short
variable {B : Tb} {E : Env} {n : Nat} {all rest : List Oper} {rs : Rs} {m : Mem} {K : Act → World → Prop}
variable {dst : Option Tmp} {ty : TypeId} {pos : String} {aft : Array Edge} {gd : Option (Nat × Bool)} {d : Nat} {x : Operand} {v : Value}
theorem qm (hc : chk all n rs ⟨dst, .move x, ty, pos, aft, gd⟩ = some d) (hx : ev rs x = some v) (h : WPl B E n all rest ((d, v) :: rs) m K) : WPl B E n all (⟨dst, .move x, ty, pos, aft, gd⟩ :: rest) rs m K := step_pure hc (pure_move hx) h
theorem qa (hc : chk all n rs ⟨dst, .assign x, ty, pos, aft, gd⟩ = some d) (hx : ev rs x = some v) (h : WPl B E n all rest ((d, v) :: rs) m K) : WPl B E n all (⟨dst, .assign x, ty, pos, aft, gd⟩ :: rest) rs m K := step_pure hc (pure_assign hx) h
theorem qx {vs : List Value} {i : Nat} (hc : chk all n rs ⟨dst, .extract x i, ty, pos, aft, gd⟩ = some d) (hx : ev rs x = some (.tuple vs.toArray)) (hv : nth vs i = some v) (h : WPl B E n all rest ((d, v) :: rs) m K) :
  WPl B E n all (⟨dst, .extract x i, ty, pos, aft, gd⟩ :: rest) rs m K := step_pure hc (pure_extract hx hv) h
theorem qp {o : Oper} (hw : wants all rs o = some false) (hd : o.dst = some d) (hn : Nat.blt d n = true) (h : WPl B E n all rest ((d, undef) :: rs) m K) : WPl B E n all (o :: rest) rs m K := step_pass hw hd hn h
end short
end Go.Vc
