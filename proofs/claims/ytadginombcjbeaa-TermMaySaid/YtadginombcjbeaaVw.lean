/- States whose start may be renewed: what is known of memory that nobody writes any more is a fact of the start. -/
import Derived.Test.YtadginombcjbeaaVs
import Derived.Test.YtadginombcjbeaaVr
namespace Go.Vc
open Go.RowKit
set_option linter.unusedVariables false
/-- The blocks of which something is known. -/
def blks (m : Mem) : List Nat := (m.filter fun e => !e.cells.isEmpty).map Ent.blk
theorem mem_blks {m : Mem} {b : Nat} : b ∈ blks m ↔ ∃ e ∈ m, e.cells ≠ [] ∧ e.blk = b := by
 simp [blks, and_assoc]
/-- A cell that nobody writes any more. -/
def Cel (E : Env) (p : Addr) (x : Value) : Prop := E.w0.cell? p = some x ∧ p.block ∉ E.ws
/-- .. and that is new. -/
def Nw (E0 E : Env) (p : Addr) (x : Value) : Prop := Cel E p x ∧ E0.w0.heap.size ≤ p.block
def Mono (E E' : Env) : Prop := ∀ p x, Cel E p x → Cel E' p x
def Back (E E' : Env) : Prop := ∀ n rs m a w, Ok E' n rs m a w → Ok E n rs m a w
theorem Mono.refl (E : Env) : Mono E E := fun _ _ h => h
theorem Mono.trans {E E1 E2 : Env} (h : Mono E E1) (k : Mono E1 E2) : Mono E E2 := fun p x hp => k p x (h p x hp)
theorem Back.refl (E : Env) : Back E E := fun _ _ _ _ _ h => h
theorem Back.trans {E E1 E2 : Env} (h : Back E E1) (k : Back E1 E2) : Back E E2 := fun n rs m a w ok => h n rs m a w (k n rs m a w ok)
theorem Mono.nw {E0 E E' : Env} (h : Mono E E') {p : Addr} {x : Value} (k : Nw E0 E p x) : Nw E0 E' p x := ⟨h p x k.1, k.2⟩
theorem own_at {E : Env} {m : Mem} {b : Nat} (ho : Own E m) (h : b ∈ blks m) : E.w0.heap.size ≤ b ∨ b ∈ E.ws := by
 obtain ⟨e, he, hl, rfl⟩ := mem_blks.1 h
 exact ho.at he hl
theorem cell_lt {w : World} {p : Addr} {x : Value} (h : w.cell? p = some x) : p.block < w.heap.size := World.block_lt_of_cell? _ _ h
theorem cell_keep {w w' : World} {ws : List Nat} {p : Addr} {x : Value} (h : w.cell? p = some x) (k : Keep w w' ws) (hn : p.block ∉ ws) : w'.cell? p = some x := by
 have hlt := cell_lt h
 unfold World.cell? at h ⊢
 rw [k.block _ hlt hn]
 exact h
theorem Cel.now {E : Env} {p : Addr} {x : Value} {w : World} (h : Cel E p x) (k : Keep E.w0 w E.ws) : w.cell? p = some x := cell_keep h.1 k h.2
theorem at_mono {E : Env} {m : Mem} {w : World} (ho : Own E m) (k : Keep E.w0 w E.ws) : Mono E ⟨w, blks m, E.defs⟩ := by
 intro p x h
 refine ⟨h.now k, fun hb => ?_⟩
 have hlt := cell_lt h.1
 rcases own_at ho hb with h1 | h1
 ·omega
 ·exact h.2 h1
theorem at_back {E : Env} {m : Mem} {w : World} (ho : Own E m) (k : Keep E.w0 w E.ws) : Back E ⟨w, blks m, E.defs⟩ := by
 intro n rs m' a w' ok
 refine ⟨ok.size, ok.defers, ok.regs, ok.has, ?_, k.trans ok.keep fun x hx hlt => ?_⟩
 ·have key : ∀ m'', Own ⟨w, blks m, E.defs⟩ m'' → Own E m'' := by
   intro m''
   induction m'' with
   | nil => exact fun _ => trivial
   | cons e m'' ih =>
    intro h
    refine ⟨fun hl => ?_, ih h.2⟩
    rcases h.1 hl with h1 | h1
    ·exact .inl (Nat.le_trans k.size h1)
    ·exact own_at ho h1
  exact key _ ok.own
 ·rcases own_at ho hx with h1 | h1
  ·omega
  ·exact h1
theorem at_ok {E : Env} {n : Nat} {rs : Rs} {m m' : Mem} {a : Act} {w : World} (ok : Ok E n rs m a w) (hs : m'.Sublist m) : Ok ⟨w, blks m', E.defs⟩ n rs m' a w := by
 refine ⟨ok.size, ok.defers, ok.regs, ok.has.sublist hs, ?_, Keep.refl w _⟩
 have key : ∀ m'', (∀ e ∈ m'', e ∈ m') → Own ⟨w, blks m', E.defs⟩ m'' := by
  intro m''
  induction m'' with
  | nil => exact fun _ => trivial
  | cons e m'' ih => exact fun h => ⟨fun hl => .inr (mem_blks.2 ⟨e, h e (.head _), hl, rfl⟩), ih fun x hx => h x (.tail _ hx)⟩
 exact key m' fun _ h => h
theorem has_apart {w : World} : ∀ {m : Mem} (h : Has w m) {i : Nat} {e : Ent} (he : nth m i = some e) (hl : e.cells ≠ []), e.blk ∉ blks (m.eraseIdx i)
 | [], _, _, _, he, _ => by cases he
 | x :: m, h, 0, e, he, hl => by
  have : x = e := Option.some.inj he
  subst this
  intro hb
  obtain ⟨y, hy, hyl, hyb⟩ := mem_blks.1 hb
  have key : ∀ m', apartFrom x.blk m' → y ∈ m' → x.blk ≠ y.blk := by
   intro m'
   induction m' with
   | nil => intro _ h; cases h
   | cons z m' ih =>
    intro h hm
    cases hm with
    | head => exact h.1 hyl
    | tail _ hm => exact ih h.2 hm
  exact key _ (h.2.1 hl) hy hyb.symm
 | x :: m, h, i + 1, e, he, hl => by
  intro hb
  obtain ⟨y, hy, hyl, hyb⟩ := mem_blks.1 hb
  rw [List.eraseIdx_cons_succ] at hy
  cases hy with
  | head =>
   have hem : e ∈ m := nth_mem (i := i) he
   have key : ∀ m', apartFrom x.blk m' → e ∈ m' → x.blk ≠ e.blk := by
    intro m'
    induction m' with
    | nil => intro _ h; cases h
    | cons z m' ih =>
     intro h hm
     cases hm with
     | head => exact h.1 hl
     | tail _ hm => exact ih h.2 hm
   exact key _ (h.2.1 hyl) hem hyb
  | tail _ hy => exact has_apart h.2.2 (i := i) he hl (mem_blks.2 ⟨y, hy, hyl, hyb⟩)
/-- What is told of cells where a block is let go. -/
structure Let (E E' : Env) (e : Ent) : Prop where
 mono : Mono E E'
 back : Back E E'
 defs : E'.defs = E.defs
 cell : ∀ j x, e.cells[j]? = some x → Cel E' ⟨e.blk, j, none⟩ x
 fresh : ∀ E0, Back E0 E → E0.ws = [] → e.cells ≠ [] → E0.w0.heap.size ≤ e.blk
theorem let_of {E : Env} {n : Nat} {rs : Rs} {m : Mem} {i : Nat} {e : Ent} {a : Act} {w : World} (he : nth m i = some e) (ok : Ok E n rs m a w) : Let E ⟨w, blks (m.eraseIdx i), E.defs⟩ e := by
 have hs : (m.eraseIdx i).Sublist m := List.eraseIdx_sublist ..
 refine ⟨at_mono (ok.own.sublist hs) ok.keep, at_back (ok.own.sublist hs) ok.keep, rfl, fun j x hj => ?_, fun E0 hb h0 hl => ?_⟩
 ·have hl : e.cells ≠ [] := by intro h; rw [h] at hj; cases hj
  exact ⟨cell_of (ok.has.cell (nth_mem he) hl) hj, has_apart ok.has he hl⟩
 ·rcases (hb _ _ _ _ _ ok).own.at (nth_mem he) hl with h1 | h1
  ·exact h1
  ·rw [h0] at h1; cases h1
section w
variable {B : Tb} {E : Env} {n : Nat} {all rest : List Oper} {rs : Rs} {m : Mem} {K : Act → World → Prop} {Qs : Exit → Act → World → Prop} {c : Code}
variable {dst : Option Tmp} {ty : TypeId} {pos : String} {aft : Array Edge} {gd : Option (Nat × Bool)}
/-- A block of one's own that is not written any more is let go. -/
theorem s_drop {e : Ent} (i : Nat) (he : nth m i = some e) (h : ∀ E', Let E E' e → WPs B E' n c rs (m.eraseIdx i) Qs) : WPs B E n c rs m Qs :=
 ⟨fun a w ok => (h _ (let_of he ok)).run a w (at_ok ok (List.eraseIdx_sublist ..))⟩
theorem l_drop {e : Ent} (i : Nat) (he : nth m i = some e) (h : ∀ E', Let E E' e → WPl B E' n all rest rs (m.eraseIdx i) K) : WPl B E n all rest rs m K :=
 ⟨fun Q hQ a w ok => (h _ (let_of he ok)).run Q hQ a w (at_ok ok (List.eraseIdx_sublist ..))⟩
theorem s_reg {id : Nat} {l : List Oper} (h : WPl B E n l l rs m (fun a w => Qs .normal a w)) (hd : noDef l = true := by rfl) : WPs B E n (.region id l.toArray false) rs m Qs := ⟨fun a w ok =>
 Go.wpIn_mono (wpIn_region_lit (list_in nq_in l a w (noDef_ok hd) (h.run (nq (fun a w => Qs .normal a w)) (fun a w hk => hk) a w ok)))
  (fun e a w hq => by cases e <;> first | exact hq | exact hq.elim)⟩
theorem s_dreg {id : Nat} {l : List Oper} (codes : List Nat) (mS : Mem) (hm : B.P.follows .mixedOrders = true) (hp : planB l codes = true)
  (h : WPd B E n l mS codes codes rs m (fun a w => Qs .normal a w)) (hd : noDef l = true := by rfl) : WPs B E n (.region id l.toArray true) rs m Qs := by
 refine ⟨fun a w ok => ?_⟩
 simp only [planB, Bool.and_eq_true] at hp
 obtain ⟨h1, h2, h3, h4⟩ := hp
 have hlen : codes.length = l.toArray.size := by rw [List.size_toArray]; exact Nat.eq_of_beq_eq_true h3
 refine Go.wpIn_mono (Q := nq (fun a w => Qs .normal a w)) (wpIn_region_any hm (any_in nq_in (fun o ho => noDef_ok hd o (by simpa using ho)) _ _ _ _ (anyN_sound (G := fun w => Keep E.w0 w E.ws) (S := fun w => Has w mS) (needs := needsOf codes) _ _ _ _ ?_))) ?_
 ·have hcl : Closed .any l.toArray (Array.replicate l.length false) := by
   intro j oj hj hl
   rw [getD_replicate] at hl
   cases hl
  have := h.run (fun a w => Qs .normal a w) (fun a w hk => hk) h1 (maskB_ok h2) _ h4 hcl a { w with drawn := w.drawn + 1 }
   ⟨ok.size, ok.defers, ok.regs, ok.has.of_same (fun _ _ _ => rfl), ok.own, ok.keep.drew⟩
  rw [hlen] at this
  simpa using this
 ·intro e a w hq
  cases e <;> first | exact hq | exact hq.elim
theorem d_split {mS : Mem} {codes left : List Nat} {t : Nat} {b : Bool} (ht : look rs t = some (.bool b)) (h1 : b = true → WPd B E n all mS codes left ((t, .bool true) :: rs) m K)
  (h2 : b = false → WPd B E n all mS codes left ((t, .bool false) :: rs) m K) : WPd B E n all mS codes left rs m K := by
 refine ⟨fun Q hQ hsel hbm listed hp hcl a w ok => ?_⟩
 have hx := ok.regs t _ ht
 have key : ∀ c : Bool, b = c → Regs ((t, .bool c) :: rs) a := by
  intro c hc u v hv
  subst hc
  simp only [look] at hv
  cases hb : Nat.beq t u with
  | true =>
   have := Nat.eq_of_beq_eq_true hb
   subst this
   rw [hb] at hv
   simp only [cond_true, Option.some.injEq] at hv
   subst hv
   exact hx
  | false => rw [hb] at hv; exact ok.regs u v hv
 cases hb : b with
 | true => exact (h1 hb).run Q hQ hsel hbm listed hp hcl a w ⟨ok.size, ok.defers, key true hb, ok.has, ok.own, ok.keep⟩
 | false => exact (h2 hb).run Q hQ hsel hbm listed hp hcl a w ⟨ok.size, ok.defers, key false hb, ok.has, ok.own, ok.keep⟩
theorem s_skip (h : ∀ a w, Ok E n rs m a w → Qs .normal a w) : WPs B E n .skip rs m Qs := ⟨fun a w ok => Go.wpIn_skip (h a w ok)⟩
theorem s_exit {id : Nat} (h : ∀ a w, Ok E n rs m a w → Qs (.exit id) a w) : WPs B E n (.exit id) rs m Qs := ⟨fun a w ok => Go.wpIn_exit (h a w ok)⟩
theorem s_ret (h : ∀ a w, Ok E n rs m a w → Qs .ret a w) : WPs B E n .ret rs m Qs := ⟨fun a w ok => Go.wpIn_ret (h a w ok)⟩
theorem s_cond_yes {g : Operand} {x y : Code} {b : Bool} (hc : ev rs g = some (.bool b)) (hb : b = true) (ht : WPs B E n x rs m Qs) :
  WPs B E n (.cond g x y) rs m Qs := s_cond hc (fun _ => ht) (fun h => by rw [hb] at h; cases h)
theorem s_cond_no {g : Operand} {x y : Code} {b : Bool} (hc : ev rs g = some (.bool b)) (hb : b = false) (hf : WPs B E n y rs m Qs) :
  WPs B E n (.cond g x y) rs m Qs := s_cond hc (fun h => by rw [hb] at h; cases h) (fun _ => hf)
/-- A loop whose invariant may tell of memory that nobody writes. -/
theorem s_loopw {α : Type} {body : Code} (F : α → Rs) (G : α → Mem) (p : α → Env → Prop) (μ : α → Nat) (x0 : α) (h0 : p x0 E) (hs : Less rs m (F x0) (G x0))
  (round : ∀ x E1, p x E1 → Mono E E1 → Back E E1 → E1.defs = E.defs → WPs B E1 n body (F x) (G x)
   (Exit.then (fun a' w' => ∃ y E2, p y E2 ∧ μ y < μ x ∧ Mono E1 E2 ∧ Back E1 E2 ∧ E2.defs = E1.defs ∧ Ok E2 n (F y) (G y) a' w') Qs)) : WPs B E n (.loop body) rs m Qs := by
 refine s_loop (fun k a w => ∃ x E1, μ x = k ∧ p x E1 ∧ Mono E E1 ∧ Back E E1 ∧ E1.defs = E.defs ∧ Ok E1 n (F x) (G x) a w) (μ x0)
  (fun a w ok => ⟨x0, E, rfl, h0, Mono.refl E, Back.refl E, rfl, hs.ok ok⟩) ?_
 rintro k a w ⟨x, E1, rfl, hp, hm, hb, hd, ok⟩
 refine Go.wpIn_mono ((round x E1 hp hm hb hd).run a w ok) ?_
 intro e a' w' hq
 cases e with
 | normal =>
  obtain ⟨y, E2, hp2, hlt, hm2, hb2, hd2, ok2⟩ := hq
  exact ⟨μ y, hlt, y, E2, rfl, hp2, hm.trans hm2, hb.trans hb2, hd2.trans hd, ok2⟩
 | exit id => exact hq
 | goto l => exact hq
 | ret => exact hq
 | panic ch => exact hq
 | outgrown => exact hq
/-- Ways that meet: what is known there. -/
theorem s_meetw {α : Type} {x y : Code} (F : α → Rs) (G : α → Mem) (p : α → Env → Prop)
  (hx : WPs B E n x rs m (Exit.then (fun a w => ∃ z E1, p z E1 ∧ Mono E E1 ∧ Back E E1 ∧ E1.defs = E.defs ∧ Ok E1 n (F z) (G z) a w) Qs))
  (hy : ∀ z E1, p z E1 → Mono E E1 → Back E E1 → E1.defs = E.defs → WPs B E1 n y (F z) (G z) Qs) : WPs B E n (.seq x y) rs m Qs := by
 refine ⟨fun a w ok => Go.wpIn_seq (Go.wpIn_mono (hx.run a w ok) ?_)⟩
 intro e a' w' hq
 cases e with
 | normal =>
  obtain ⟨z, E1, hp, hm, hb, hd, ok1⟩ := hq
  exact (hy z E1 hp hm hb hd).run a' w' ok1
 | exit id => exact hq
 | goto l => exact hq
 | ret => exact hq
 | panic ch => exact hq
 | outgrown => exact hq
/-! ### callees that make memory that nobody writes any more -/
/-- Cells that are new, and not among the blocks that are handed over. -/
def Frz (w w' : World) (m1 : Mem) (p : Addr) (x : Value) : Prop := w'.cell? p = some x ∧ w.heap.size ≤ p.block ∧ p.block ∉ blks m1
structure MakesW (B : Tb) (f : FuncId) (vs : List Value) (w : World) (R : Value → Mem → (Addr → Value → Prop) → Prop) : Prop where
 calls : Calls B.P f vs.toArray w fun e w' => ∃ v m1, e = .returned v ∧ Has w' m1 ∧ Own ⟨w, [], []⟩ m1 ∧ Keep w w' [] ∧ R v m1 (Frz w w' m1)
/-- What a caller learns. -/
structure Got (E E' : Env) : Prop where
 mono : Mono E E'
 back : Back E E'
 defs : E'.defs = E.defs
theorem got_of {n : Nat} {rs rs' : Rs} {m m1 : Mem} {a a' : Act} {w w' : World} {R : (Addr → Value → Prop) → Prop} (hmono : ∀ C C' : Addr → Value → Prop, (∀ p x, C p x → C' p x) → R C → R C')
  (ok : Ok E n rs m a w) (h1 : Has w' m1) (h2 : Own ⟨w, [], []⟩ m1) (hk : Keep w w' []) (hR : R (Frz w w' m1)) :
  Got E ⟨w', blks (m1 ++ m), E.defs⟩ ∧ R (fun p x => Cel ⟨w', blks (m1 ++ m), E.defs⟩ p x ∧ ∀ E0, Back E0 E → E0.w0.heap.size ≤ p.block) := by
 have ho : Own E (m1 ++ m) := Own.join ok.keep.size ok.own h2
 have hk' : Keep E.w0 w' E.ws := ok.keep.trans hk (by simp)
 refine ⟨⟨at_mono ho hk', at_back ho hk', rfl⟩, hmono _ _ (fun p x hp => ⟨⟨hp.1, fun hb => ?_⟩, fun E0 hb0 => ?_⟩) hR⟩
 ·obtain ⟨e, he, hl, hbe⟩ := mem_blks.1 hb
  rcases List.mem_append.1 he with he | he
  ·exact hp.2.2 (mem_blks.2 ⟨e, he, hl, hbe⟩)
  ·have := ok.has.lt e he hl
   have := hp.2.1
   omega
 ·exact Nat.le_trans (hb0 _ _ _ _ _ ok).keep.size hp.2.1
theorem step_makesW {f : FuncId} {args : List Operand} {ats : Array TypeId} {vs : List Value} {R : Value → Mem → (Addr → Value → Prop) → Prop} {d : Nat}
  (hc : chk all n rs ⟨dst, .call ⟨.value (.func f), args.toArray, ats⟩, ty, pos, aft, gd⟩ = some d)
  (hf : Fun B f) (hv : evs rs args = some vs) (hg : ∀ w, Has w m → Keep E.w0 w E.ws → MakesW B f vs w R)
  (hmono : ∀ v m1 (C C' : Addr → Value → Prop), (∀ p x, C p x → C' p x) → R v m1 C → R v m1 C')
  (h : ∀ v m1 E', Got E E' → R v m1 (fun p x => Cel E' p x ∧ ∀ E0, Back E0 E → E0.w0.heap.size ≤ p.block) → WPl B E' n all rest ((d, v) :: rs) (m1 ++ m) K) :
  WPl B E n all (⟨dst, .call ⟨.value (.func f), args.toArray, ats⟩, ty, pos, aft, gd⟩ :: rest) rs m K := by
 refine ⟨fun Q hQ a w ok => ?_⟩
 obtain ⟨hw, hd, hdn⟩ := chk_ok hc
 unfold wpList
 rw [if_pos (wants_ok ok.regs hw)]
 left
 unfold Oper.wp
 have hrun : (execOp a.eval ⟨dst, .call ⟨.value (.func f), args.toArray, ats⟩, ty, pos, aft, gd⟩).run B.P w = .ok (.enter f vs.toArray) w := by
  have e1 : args.toArray.map a.eval = vs.toArray := by rw [List.map_toArray, evs_ok ok.regs hv]
  simp only [execOp, resolve, e1, Act.eval, Deferred.ofValue, Sem.run_bind, Sem.run_pure, Result.andThen_ok, invoke]
  have := hf vs.toArray w
  simpa using this
 rw [hrun]
 refine (hg w ok.has ok.keep).calls.mono ?_
 rintro e w' ⟨v, m1, rfl, h1, h2, hk, hR⟩
 obtain ⟨hgot, hR'⟩ := got_of (rs' := rs) (a' := a) (R := R v m1) (hmono v m1) ok h1 h2 hk hR
 have hd' : dst = some d := hd
 subst hd'
 have ok' : Ok E n ((d, v) :: rs) (m1 ++ m) (a.put (some d) v) w' := ⟨(put_size ..).trans ok.size, (put_defers ..).trans ok.defers, put_regs (d := some d) ok.size hdn ok.regs, Has.join ok.has hk h1 h2, Own.join ok.keep.size ok.own h2, ok.keep.trans hk (by simp)⟩
 exact (h v m1 _ hgot hR').run Q hQ _ _ (at_ok ok' (List.Sublist.refl _))
/-- A function's contract from its body. -/
theorem makesW_of {f : FuncId} {fn : Func} {c : Code} {vs : List Value} {w : World} {R : Value → Mem → (Addr → Value → Prop) → Prop}
  (hf : B.P.funcs[f]? = some fn) (hb : fn.body = some c) (hn : fn.ntmps = n) (hl : Nat.ble vs.length n = true)
  (h : WPs B ⟨w, [], []⟩ n c (argRs 0 vs) [] (bodyPostM Fence.wide 9 B.P fn (fun e w' => ∃ v m1, e = .returned v ∧ Has w' m1 ∧ Own ⟨w, [], []⟩ m1 ∧ Keep w w' [] ∧ R v m1 (Frz w w' m1)))) (hrn : B.rnd = none := by rfl) :
  MakesW B f vs w R := ⟨calls_sem hf hb hn hl h hrn⟩
/-- The function hands back a value, and these blocks. -/
theorem ends_makesW {fn : Func} {e : Exit} {v : Value} {a : Act} {w w' : World} {m1 : Mem} {R : Value → Mem → (Addr → Value → Prop) → Prop} (he : e = .normal ∨ e = .ret) (ok : Ok E n rs m a w') (hd : E.defs = [])
  (hB : Back ⟨w, [], []⟩ E) (hres : ResIs B fn rs m v) (hs : m1.Sublist m) (hmono : ∀ v m1 (C C' : Addr → Value → Prop), (∀ p x, C p x → C' p x) → R v m1 C → R v m1 C')
  (hR : R v m1 (Nw ⟨w, [], []⟩ E)) :
  bodyPostM Fence.wide 9 B.P fn (fun e w' => ∃ v m1, e = .returned v ∧ Has w' m1 ∧ Own ⟨w, [], []⟩ m1 ∧ Keep w w' [] ∧ R v m1 (Frz w w' m1)) e a w' := by
 have ok0 := hB _ _ _ _ _ ok
 refine ends_plain he ok hd hres ⟨v, m1, rfl, ok.has.sublist hs, ok0.own.sublist hs, ok0.keep, hmono v m1 _ _ (fun p x hp => ⟨hp.1.now ok.keep, hp.2, fun hb => ?_⟩) hR⟩
 have hlt := cell_lt hp.1.1
 rcases own_at (ok.own.sublist hs) hb with h1 | h1
 ·omega
 ·exact hp.1.2 h1
/-- The function gives a value. -/
theorem gives_ofw {f : FuncId} {fn : Func} {c : Code} {vs : List Value} {w : World} {v : Value}
  (hf : B.P.funcs[f]? = some fn) (hb : fn.body = some c) (hn : fn.ntmps = n) (hl : Nat.ble vs.length n = true)
  (h : WPs B ⟨w, [], []⟩ n c (argRs 0 vs) [] (bodyPostM Fence.wide 9 B.P fn (fun e w' => e = .returned v ∧ Keep w w' []))) (hrn : B.rnd = none := by rfl) :
  Gives B f vs w v := ⟨calls_sem hf hb hn hl h hrn⟩
theorem ends_gives {fn : Func} {e : Exit} {v : Value} {a : Act} {w w' : World} (he : e = .normal ∨ e = .ret) (ok : Ok E n rs m a w') (hd : E.defs = [])
  (hB : Back ⟨w, [], []⟩ E) (hres : ResIs B fn rs m v) : bodyPostM Fence.wide 9 B.P fn (fun e w' => e = .returned v ∧ Keep w w' []) e a w' :=
 ends_plain he ok hd hres ⟨rfl, (hB _ _ _ _ _ ok).keep⟩
/-! ### cells that nobody writes -/
theorem pure_cel {x : Operand} {T : TypeId} {p : Addr} {d : Ty} {v : Value} (hx : ev rs x = some (.pointer (some p)))
  (hT : B.ty T = some d) (hd : d.agg = false) (hc : Cel E p v) : Pure B E rs m ⟨dst, .load T x, ty, pos, aft, gd⟩ v := pure_view_at hx hT hd hc.1 hc.2
theorem pure_cel_agg {x : Operand} {T : TypeId} {p : Addr} {d : Ty} {vs : List Value} (hx : ev rs x = some (.pointer (some p)))
  (hT : B.ty T = some d) (hd : d.agg = true) (hl : vs.length = d.size) (hc : ∀ j v, vs[j]? = some v → Cel E (p.add j) v) :
  Pure B E rs m ⟨dst, .load T x, ty, pos, aft, gd⟩ (.agg vs.toArray) := by
 refine ⟨fun a w hr hh hk => ?_⟩
 have h1 := run_loadCells_list (P := B.P) w p vs (fun j v hj => (hc j v hj).now hk)
 simp [execOp, ev_ok hr hx, Instr.loadAt, Instr.sureAddr, loadVar, ty_agg hT, hd, ty_size hT, ← hl, h1]
/-- A slice of which the cells are known: n elements of sz cells. -/
def SlC (C : Addr → Value → Prop) (sz : Nat) (v : Value) (n : Nat) (xs : List Value) : Prop :=
 ∃ base cap, v = .slice base n cap ∧ n ≤ cap ∧ xs.length = n * sz ∧ (xs ≠ [] → ∃ p, base = some p ∧ ∀ j x, xs[j]? = some x → C (p.add j) x)
theorem SlC.mono {C C' : Addr → Value → Prop} {sz n : Nat} {v : Value} {xs : List Value} (h : SlC C sz v n xs) (hC : ∀ p x, C p x → C' p x) : SlC C' sz v n xs := by
 obtain ⟨base, cap, h1, h2, h3, h4⟩ := h
 refine ⟨base, cap, h1, h2, h3, fun hne => ?_⟩
 obtain ⟨p, hp, hc⟩ := h4 hne
 exact ⟨p, hp, fun j x hj => hC _ _ (hc j x hj)⟩
theorem SlC.slv {w : World} {v : Value} {n : Nat} {xs : List Value} (h : SlC (fun p x => w.cell? p = some x) 1 v n xs) : SlV w v xs := by
 obtain ⟨base, cap, rfl, h2, h3, h4⟩ := h
 rw [Nat.mul_one] at h3
 exact ⟨⟨base, cap, by rw [h3], h4⟩, fun _ _ _ h => by cases h; exact h2⟩
theorem slc_of_slv {w : World} {v : Value} {xs : List Value} (h : SlV w v xs) : SlC (Cel ⟨w, [], []⟩) 1 v xs.length xs := by
 obtain ⟨base, cap, rfl, h4⟩ := h.is
 refine ⟨base, cap, rfl, h.room _ _ _ rfl, by rw [Nat.mul_one], fun hne => ?_⟩
 obtain ⟨p, hp, hc⟩ := h4 hne
 exact ⟨p, hp, fun j x hj => ⟨hc j x hj, List.not_mem_nil⟩⟩
end w
end Go.Vc
