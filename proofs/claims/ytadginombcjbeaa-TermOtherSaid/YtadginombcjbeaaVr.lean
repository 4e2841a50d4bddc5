/- Loops over functions: what a round keeps; an iterator's contract; the law for the loop. -/
import Derived.Test.YtadginombcjbeaaVc
import Derived.RangeFuncRecord
import Derived.RangeFuncCalls
import Derived.RangeFuncSeq
namespace Go.Vc
open Go.RowKit
set_option linter.unusedVariables false
/-- Whatever is cells, and is not named, lies as it lay. -/
structure Kc (ws : List Nat) (A A' : World) : Prop where
 os : A'.os = A.os
 tape : A'.tape = A.tape
 output : A'.output = A.output
 size : A.heap.size ≤ A'.heap.size
 cells : ∀ k c t f, k ∉ ws → A.heap[k]? = some (.cells c t f) → A'.heap[k]? = some (.cells c t f)
theorem Kc.refl (ws : List Nat) (A : World) : Kc ws A A := ⟨rfl, rfl, rfl, Nat.le_refl _, fun _ _ _ _ _ h => h⟩
theorem Kc.trans {ws : List Nat} {A C D : World} (h : Kc ws A C) (k : Kc ws C D) : Kc ws A D :=
 ⟨k.os.trans h.os, k.tape.trans h.tape, k.output.trans h.output, Nat.le_trans h.size k.size, fun i c t f hn hi => k.cells i c t f hn (h.cells i c t f hn hi)⟩
theorem Kc.mono {ws vs : List Nat} {A C : World} (h : Kc ws A C) (hs : ∀ x ∈ ws, x ∈ vs) : Kc vs A C :=
 ⟨h.os, h.tape, h.output, h.size, fun k c t f hn hk => h.cells k c t f (fun hx => hn (hs k hx)) hk⟩
theorem Keep.kc {A C : World} {ws : List Nat} (h : Keep A C ws) : Kc ws A C :=
 ⟨h.os, h.tape, h.output, h.size, fun k c t f hn hk => (h.block k (lt_of_heap hk) hn).trans hk⟩
theorem Kc.put {ws : List Nat} {A : World} {l : Nat} {o : Obj} (o' : Obj) (h : A.heap[l]? = some o) (ho : o.isCells = false) : Kc ws A (A.putObj l o') :=
 ⟨rfl, rfl, rfl, by simp, fun k c t f hn hk => by
  by_cases e : k = l
  ·subst e; rw [h] at hk; cases hk; cases ho
  ·exact (World.putObj_heap_other e).trans hk⟩
theorem Keep.put {w A : World} {ws : List Nat} (h : Keep w A ws) {l : Nat} (hl : w.heap.size ≤ l) (o : Obj) : Keep w (A.putObj l o) ws :=
 ⟨h.os, h.tape, h.output, by simpa using h.size, fun k hk hn => (World.putObj_heap_other (by omega)).trans (h.block k hk hn)⟩
theorem Kc.has {A C : World} {m : Mem} {ws : List Nat} (h : Kc ws A C) (hh : Has A m) (hn : ∀ e ∈ m, e.cells ≠ [] → e.blk ∉ ws) : Has C m := by
 induction m with
 | nil => trivial
 | cons x m ih => exact ⟨fun hl => h.cells _ _ _ _ (hn x (.head _) hl) (hh.1 hl), hh.2.1, ih hh.2.2 (fun e he => hn e (.tail _ he))⟩
/-- An iterator: it hands out `enc 0`, `enc 1`, .. for as long as there is more, and ends of itself where that is the end. -/
def IterC (P : Program) (gf : FuncId) (lb : Array Value) (enc : Nat → Array Value) (ws : List Nat) (more fin : Nat → Prop) (w : World) : Prop :=
 ∀ (M l : Nat) (J Jx : Nat → World → Prop) (W : World), Keep w W [] →
  (∀ k A C, J k A → Keep A C [] → J k C) → (∀ k A C, Jx k A → Keep A C [] → Jx k C) → (∀ k A, J k A → k ≤ M) →
  (∀ k A, J k A → more k → YieldAt Fence.wide 9 P l (enc k) A fun e A' =>
   (e = .returned (.bool true) ∧ J (k + 1) A' ∧ Kc ws A A') ∨ (e = .returned (.bool false) ∧ Jx (k + 1) A')) →
  J 0 W → Calls P gf (#[.func (.yield l) #[] #[]] ++ lb) W fun e W' => (∃ v, e = .returned v) ∧ ((∃ k, fin k ∧ J k W') ∨ (∃ k, Jx k W'))
/-- How a round may be left. -/
def roundQ (ws : List Nat) (I : Nat → World → Prop) (Ix : Code → Nat → World → Prop) (k : Nat) (W : World) : Exit → Act → World → Prop
 | .normal, _, W' => Keep W W' ws ∧ I (k + 1) W'
 | .ret, _, W' => Keep W W' ws ∧ Ix .ret (k + 1) W'
 | .exit id, _, W' => Keep W W' ws ∧ Ix (.exit id) (k + 1) W'
 | .goto t, _, W' => Keep W W' ws ∧ Ix (.goto t) (k + 1) W'
 | .panic _, _, _ => False
 | .outgrown, _, _ => False
theorem any_n {F : Fence} (hF : F.depth = none) {n k : Nat} {P : Program} {c : Code} {Q : Exit → Act → World → Prop} {a : Act} {w : World} (h : c.wpIn F n P Q a w) : c.wpIn F k P Q a w :=
 fun b kk cs hro hb _ => h b kk cs hro hb (fun _ hd => by rw [hF] at hd; cases hd)
theorem round_any {n k : Nat} {P : Program} {l : Nat} {f : FuncId} {tmps : Array Value} {assign body : Code} {w : World} {R : Ending → World → Prop}
  (h : RoundIn Fence.wide n P l f tmps assign body w R) : RoundIn Fence.wide k P l f tmps assign body w R := ⟨h.1, fun c cs _ => h.2 c cs (room_wide _)⟩
/-- The loop. -/
theorem range_fn {P : Program} {g : Operand} {ps : Array Tmp} {assign body : Code} {Q : Exit → Act → World → Prop} {a : Act} {w : World} {gf : FuncId} {lb : Array Value}
  (hg : a.eval g = .func (.func gf) #[] lb) (hf : ∀ args w, (callFunc gf args).run P w = .ok (.enter gf args) w)
  {enc : Nat → Array Value} {ws : List Nat} {more fin : Nat → Prop} (hseq : IterC P gf lb enc ws more fin w)
  (hps : ∀ k, (enc k).size = ps.size) (hws : ∀ x ∈ ws, x < w.heap.size) (M : Nat)
  (I : Nat → World → Prop) (Ix : Code → Nat → World → Prop) (hM : ∀ k A, I k A → k ≤ M)
  (hI : ∀ k A C, I k A → Kc [] A C → I k C) (hIx : ∀ c k A C, Ix c k A → Kc [] A C → Ix c k C) (h0 : I 0 w)
  (hround : ∀ l k W, I k W → more k → assign.wpIn (Fence.wide.inRound l) 9 P
   (Exit.then (fun a₁ W₁ => Keep W W₁ [] ∧ ∀ W₂, Kc [] W₁ W₂ → I k W₂ → body.wpIn (Fence.wide.inRound l) 9 P (roundQ ws I Ix k W₂) a₁ W₂) (fun _ _ _ => False))
   { tmps := (ps.zip (enc k)).foldl (fun t (p, v) => t.setIfInBounds p v) a.tmps, defers := [] } W)
  (hdone : ∀ D k W, w.heap.size ≤ D → W.heap[D]? = some (.deferred (some [])) → Keep w W ws → fin k → I k W →
   Q .normal { a with defers := { target := .collected D, args := #[] } :: a.defers } W)
  (hstop : ∀ D c k W, w.heap.size ≤ D → W.heap[D]? = some (.deferred (some [])) → Keep w W ws → Ix c k W →
   c.wpIn Fence.wide 9 P Q { a with defers := { target := .collected D, args := #[] } :: a.defers } W) :
  (Code.rangeFunc g ps assign body).wpIn Fence.wide 9 P Q a w := by
 refine wpIn_rangeFunc ?_
 intro fn hfn
 obtain ⟨rec, hrec⟩ : ∃ rec : LoopState → Option Code → Loop, rec = fun st pe => { state := st, pending := pe, fn, tmps := a.tmps, params := ps, assign, body, defers := w.heap.size } := ⟨_, rfl⟩
 obtain ⟨W1, hW1⟩ : ∃ W1, (w.alloc (.deferred (some []))).alloc (.loop (rec .ready none)) = W1 := ⟨_, rfl⟩
 have hkW1 : Keep w W1 [] := by rw [← hW1]; exact ((Keep.refl w []).alloc _).alloc _
 have hL1 : W1.heap[w.heap.size + 1]? = some (.loop (rec .ready none)) := by
  rw [← hW1]
  have := heap_alloc_new (w.alloc (.deferred (some []))) (.loop (rec .ready none))
  rwa [World.size_alloc] at this
 have hK1 : W1.heap[w.heap.size]? = some (.deferred (some [])) := by
  rw [← hW1]
  exact (heap_alloc_old (by simp)).trans (heap_alloc_new w _)
 have hLw : w.heap.size + 1 ∉ ws := fun h => by have := hws _ h; omega
 have hDw : w.heap.size ∉ ws := fun h => by have := hws _ h; omega
 refine ⟨w.heap.size + 1, [{ target := .collected w.heap.size, args := #[] }], W1, { target := .fn (.func gf) lb, args := #[.func (.yield (w.heap.size + 1)) #[] #[]] }, W1, gf,
  #[.func (.yield (w.heap.size + 1)) #[] #[]] ++ lb, W1, ?_, ?_, fun _ _ => trivial, ?_, fun h => (by cases h), ?_⟩
 ·rw [← hW1, hrec]; exact run_enterLoop_outer _ _ _ _ _
 ·simp only [resolve, hg]
  simp [go_sem]
 ·simp [invoke, go_sem, hf]
 ·refine callsIn_wide.2 ((hseq M (w.heap.size + 1)
   (fun k A => I k A ∧ A.heap[w.heap.size + 1]? = some (.loop (rec .ready none)) ∧ A.heap[w.heap.size]? = some (.deferred (some [])) ∧ Keep w A ws)
   (fun k A => ∃ c, Ix c k A ∧ A.heap[w.heap.size + 1]? = some (.loop (rec .done (some c))) ∧ A.heap[w.heap.size]? = some (.deferred (some [])) ∧ Keep w A ws)
   W1 hkW1 ?_ ?_ (fun k A h => hM k A h.1) ?_ ⟨hI 0 w W1 h0 hkW1.kc, hL1, hK1, hkW1.mono (by simp)⟩).mono ?_)
  ·rintro k A C ⟨hi, hl, hd, hk⟩ hAC
   exact ⟨hI k A C hi hAC.kc, (hAC.block _ (lt_of_heap hl) (by simp)).trans hl, (hAC.block _ (lt_of_heap hd) (by simp)).trans hd, hk.trans hAC (by simp)⟩
  ·rintro k A C ⟨c, hi, hl, hd, hk⟩ hAC
   exact ⟨c, hIx c k A C hi hAC.kc, (hAC.block _ (lt_of_heap hl) (by simp)).trans hl, (hAC.block _ (lt_of_heap hd) (by simp)).trans hd, hk.trans hAC (by simp)⟩
  ·rintro k A ⟨hi, hl, hd, hk⟩ hmore
   have hy := run_yield (P := P) (args := enc k) hl (by rw [hrec]; exact hps k)
   rw [hrec] at hy
   refine ⟨fn, _, assign, body, hy, roundIn_of_wpIn trivial (Go.wpIn_mono (hround _ k A hi hmore) ?_)⟩
   intro e a₁ A₁ hq
   cases e with
   | normal =>
    obtain ⟨hk1, hb⟩ := hq
    have hl1 : A₁.heap[w.heap.size + 1]? = some (.loop (rec .ready none)) := (hk1.block _ (lt_of_heap hl) (by simp)).trans hl
    have hd1 : A₁.heap[w.heap.size]? = some (.deferred (some [])) := (hk1.block _ (lt_of_heap hd) (by simp)).trans hd
    have hbegin := run_beginRound (P := P) hl1 (by rw [hrec])
    rw [hrec] at hbegin
    refine ⟨_, hbegin, ?_⟩
    have hc12 : ∀ vs : List Nat, Kc vs A₁ (A₁.putObj (w.heap.size + 1) (.loop { rec .ready none with state := .busy })) := fun vs => Kc.put _ hl1 rfl
    have hl2 : (A₁.putObj (w.heap.size + 1) (.loop { rec .ready none with state := .busy })).heap[w.heap.size + 1]? = some (.loop { rec .ready none with state := .busy }) := World.putObj_heap_same (lt_of_heap hl1)
    have hd2 : (A₁.putObj (w.heap.size + 1) (.loop { rec .ready none with state := .busy })).heap[w.heap.size]? = some (.deferred (some [])) := (World.putObj_heap_other (by omega)).trans hd1
    have hk2 : Keep w (A₁.putObj (w.heap.size + 1) (.loop { rec .ready none with state := .busy })) ws := (hk.trans hk1 (by simp)).put (by omega) _
    have hi2 := hI k _ _ (hI k _ _ hi hk1.kc) (hc12 [])
    have hb2 := hb _ (hc12 []) hi2
    rw [hrec] at hb2 hl2 hd2 hk2 hc12
    dsimp only at hb2 hl2 hd2 hk2 hc12 ⊢
    refine Go.wpIn_mono hb2 ?_
    have hcA : ∀ A₃ (o : Obj), Keep (A₁.putObj (w.heap.size + 1) (.loop { state := .busy, pending := none, fn, tmps := a.tmps, params := ps, assign, body, defers := w.heap.size })) A₃ ws →
      ∀ jump : Option Code, (Instr.endRound (w.heap.size + 1) jump).run P A₃ = .ok (.bool jump.isNone) (A₃.putObj (w.heap.size + 1) (.loop (rec (if jump.isNone then .ready else .done) jump))) ∧
       (A₃.putObj (w.heap.size + 1) (.loop (rec (if jump.isNone then .ready else .done) jump))).heap[w.heap.size + 1]? = some (.loop (rec (if jump.isNone then .ready else .done) jump)) ∧
       (A₃.putObj (w.heap.size + 1) (.loop (rec (if jump.isNone then .ready else .done) jump))).heap[w.heap.size]? = some (.deferred (some [])) ∧
       Keep w (A₃.putObj (w.heap.size + 1) (.loop (rec (if jump.isNone then .ready else .done) jump))) ws ∧ Kc ws A (A₃.putObj (w.heap.size + 1) (.loop (rec (if jump.isNone then .ready else .done) jump))) ∧
       Kc [] A₃ (A₃.putObj (w.heap.size + 1) (.loop (rec (if jump.isNone then .ready else .done) jump))) := fun A₃ o hk3 jump => by
     have hl3 := (hk3.block _ (lt_of_heap hl2) hLw).trans hl2
     have hd3 := (hk3.block _ (lt_of_heap hd2) hDw).trans hd2
     have he := run_endRound (P := P) jump hl3
     refine ⟨by rw [he, hrec], World.putObj_heap_same (lt_of_heap hl3), (World.putObj_heap_other (by omega)).trans hd3, (hk2.trans hk3 (fun x hx _ => hx)).put (by omega) _,
      ((hk1.kc.mono (by simp)).trans (hc12 ws)).trans (hk3.kc.trans (Kc.put _ hl3 rfl)), Kc.put _ hl3 rfl⟩
    intro e₂ a₃ A₃ hq
    cases e₂ with
    | normal =>
     obtain ⟨hk3, hi3⟩ := hq
     obtain ⟨h1, h2, h3, h4, h5, h6⟩ := hcA A₃ default hk3 none
     exact ⟨_, _, h1, .inl ⟨rfl, ⟨hI _ _ _ hi3 h6, h2, h3, h4⟩, h5⟩⟩
    | ret =>
     obtain ⟨hk3, hi3⟩ := hq
     obtain ⟨h1, h2, h3, h4, h5, h6⟩ := hcA A₃ default hk3 (some .ret)
     exact ⟨_, _, h1, .inr ⟨rfl, .ret, hIx _ _ _ _ hi3 h6, h2, h3, h4⟩⟩
    | exit id =>
     obtain ⟨hk3, hi3⟩ := hq
     obtain ⟨h1, h2, h3, h4, h5, h6⟩ := hcA A₃ default hk3 (some (.exit id))
     exact ⟨_, _, h1, .inr ⟨rfl, .exit id, hIx _ _ _ _ hi3 h6, h2, h3, h4⟩⟩
    | goto t =>
     obtain ⟨hk3, hi3⟩ := hq
     obtain ⟨h1, h2, h3, h4, h5, h6⟩ := hcA A₃ default hk3 (some (.goto t))
     exact ⟨_, _, h1, .inr ⟨rfl, .goto t, hIx _ _ _ _ hi3 h6, h2, h3, h4⟩⟩
    | panic ch => exact hq.elim
    | outgrown => exact hq.elim
   | exit id => exact hq.elim
   | goto t => exact hq.elim
   | ret => exact hq.elim
   | panic ch => exact hq.elim
   | outgrown => exact hq.elim
  ·rintro e W₂ ⟨⟨v, rfl⟩, (⟨k, hfin, hi, hl, hd, hk⟩ | ⟨k, c, hi, hl, hd, hk⟩)⟩
   ·have he := run_endLoop (P := P) hl (by rw [hrec]; simp)
    refine ⟨none, _, by rw [he, hrec], ?_⟩
    exact hdone _ k _ (Nat.le_refl _) ((World.putObj_heap_other (by omega)).trans hd) (hk.put (by omega) _) hfin (hI _ _ _ hi (Kc.put _ hl rfl))
   ·have he := run_endLoop (P := P) hl (by rw [hrec]; simp)
    refine ⟨some c, _, by rw [he, hrec], ?_⟩
    exact hstop _ c k _ (Nat.le_refl _) ((World.putObj_heap_other (by omega)).trans hd) (hk.put (by omega) _) (hIx _ _ _ _ hi (Kc.put _ hl rfl))
/-! ### code whose ways out are told of worlds -/
structure WPs (B : Tb) (E : Env) (n : Nat) (c : Code) (rs : Rs) (m : Mem) (Qs : Exit → Act → World → Prop) : Prop where
 run : ∀ a w, Ok E n rs m a w → c.wpIn B.F 9 B.P Qs a w
section s
variable {B : Tb} {E : Env} {n : Nat} {rs : Rs} {m : Mem} {Qs : Exit → Act → World → Prop}
/-- What is known there goes over into what is told of worlds. -/
abbrev overQ (E : Env) (n : Nat) (Qs : Exit → Act → World → Prop) : Post := fun e rs m => ∀ a w, Ok E n rs m a w → Qs e a w
theorem s_wp {c : Code} (h : WP B E n c rs m (overQ E n Qs)) : WPs B E n c rs m Qs :=
 ⟨fun a w ok => Go.wpIn_mono (h.run a w ok) fun _ _ _ ⟨_, _, ok', hq⟩ => hq _ _ ok'⟩
theorem s_seq {x y : Code} (h : WP B E n x rs m (thenQ (fun rs m => WPs B E n y rs m Qs) (overQ E n Qs))) : WPs B E n (.seq x y) rs m Qs := by
 refine ⟨fun a w ok => Go.wpIn_seq (Go.wpIn_mono (h.run a w ok) ?_)⟩
 rintro e a' w' ⟨rs', m', ok', hq⟩
 cases e with
 | normal => exact hq.run a' w' ok'
 | exit id => exact hq _ _ ok'
 | goto l => exact hq _ _ ok'
 | ret => exact hq _ _ ok'
 | panic c => exact hq _ _ ok'
 | outgrown => exact hq _ _ ok'
theorem s_seqs {x y : Code} (h : WPs B E n x rs m (Exit.then (fun a w => y.wpIn B.F 9 B.P Qs a w) Qs)) : WPs B E n (.seq x y) rs m Qs :=
 ⟨fun a w ok => Go.wpIn_seq (h.run a w ok)⟩
theorem s_block {id : Nat} {c : Code} (h : WPs B E n c rs m (Exit.inBlock id Qs)) : WPs B E n (.block id c) rs m Qs := ⟨fun a w ok => Go.wpIn_block (h.run a w ok)⟩
theorem s_cond {c : Operand} {x y : Code} {b : Bool} (hc : ev rs c = some (.bool b)) (ht : b = true → WPs B E n x rs m Qs)
  (hf : b = false → WPs B E n y rs m Qs) : WPs B E n (.cond c x y) rs m Qs := ⟨fun a w hok =>
 Go.wpIn_cond_split (ev_ok hok.regs hc) (fun h => (ht h).run a w hok) (fun h => (hf h).run a w hok)⟩
theorem s_loop {c : Code} (I : Nat → Act → World → Prop) (k₀ : Nat) (h₀ : ∀ a w, Ok E n rs m a w → I k₀ a w)
  (round : ∀ k a w, I k a w → c.wpIn B.F 9 B.P (Exit.then (fun a' w' => ∃ k', k' < k ∧ I k' a' w') Qs) a w) : WPs B E n (.loop c) rs m Qs :=
 ⟨fun a w ok => loop_ghost I k₀ (h₀ a w ok) round⟩
/-- Operations of a region, its way out told of worlds. -/
structure WPls (B : Tb) (E : Env) (n : Nat) (all rest : List Oper) (rs : Rs) (m : Mem) (Qs : Exit → Act → World → Prop) : Prop where
 run : ∀ a w, Ok E n rs m a w → wpListIn B.F 9 B.P all.toArray Qs rest a w
variable {all rest : List Oper} {o : Oper}
theorem s_region {id : Nat} {l : List Oper} (h : WPls B E n l l rs m Qs) : WPs B E n (.region id l.toArray false) rs m Qs := ⟨fun a w ok => wpIn_region_lit (h.run a w ok)⟩
theorem ls_pure {v : Value} {d : Nat} (hc : chk all n rs o = some d) (hv : Pure B E rs m o v) (hnd : isDef o.op = false) (h : WPls B E n all rest ((d, v) :: rs) m Qs) :
  WPls B E n all (o :: rest) rs m Qs := by
 obtain ⟨h1, h2, h3⟩ := chk_ok hc
 refine ⟨fun a w ok => ?_⟩
 unfold wpListIn
 rw [if_pos (wants_ok ok.regs h1)]
 refine ⟨fun _ _ => trivial, ?_⟩
 rw [Oper.semAt_eq _ _ _ (fun c e => by rw [e] at hnd; cases hnd), hv.run a w ok.regs ok.has ok.keep]
 exact h.run _ _ ⟨(put_size ..).trans ok.size, (put_defers ..).trans ok.defers, by rw [h2]; exact put_regs (d := some d) ok.size h3 ok.regs, ok.has, ok.own, ok.keep⟩
theorem ls_nil (h : ∀ a w, Ok E n rs m a w → Qs .normal a w) : WPls B E n all [] rs m Qs := ⟨fun a w ok => h a w ok⟩
variable {dst : Option Tmp} {ty : TypeId} {pos : String} {aft : Array Edge} {gd : Option (Nat × Bool)}
theorem ls_yield {l : Nat} {fx : Operand} {args : List Operand} {ats : Array TypeId} {vs : List Value} {d : Nat} (hrn : B.rnd = none)
  (hc : chk all n rs ⟨dst, .call ⟨.value fx, args.toArray, ats⟩, ty, pos, aft, gd⟩ = some d)
  (hfx : ev rs fx = some (.func (.yield l) #[] #[])) (hv : evs rs args = some vs)
  (h : ∀ w, Keep E.w0 w E.ws → Has w m → ∃ R, YieldAt Fence.wide 9 B.P l vs.toArray w R ∧ ∀ e w', R e w' → ∃ v, e = .returned v ∧ WPls B ⟨w', [], E.defs⟩ n all rest ((d, v) :: rs) [] Qs) :
  WPls B E n all (⟨dst, .call ⟨.value fx, args.toArray, ats⟩, ty, pos, aft, gd⟩ :: rest) rs m Qs := by
 obtain ⟨h1, h2, h3⟩ := chk_ok hc
 refine ⟨fun a w ok => ?_⟩
 obtain ⟨R, ⟨fn, tmps, assign, body, hy, hround⟩, hR⟩ := h w ok.keep ok.has
 have hF : B.F = Fence.wide := by unfold Tb.F; rw [hrn]; rfl
 unfold wpListIn
 rw [if_pos (wants_ok ok.regs h1)]
 refine ⟨fun _ _ => by rw [hF]; trivial, ?_⟩
 rw [Oper.semAt_eq _ _ _ (fun c e => by cases e)]
 have hrun : (execOp a.eval ⟨dst, .call ⟨.value fx, args.toArray, ats⟩, ty, pos, aft, gd⟩).run B.P w = .ok (.round l fn tmps assign body) w := by
  have e1 : args.toArray.map a.eval = vs.toArray := by rw [List.map_toArray, evs_ok ok.regs hv]
  simp only [execOp, resolve, e1, ev_ok ok.regs hfx, Deferred.ofValue, Sem.run_bind, Sem.run_pure, Result.andThen_ok, invoke]
  simpa using hy
 rw [hrun, hF]
 refine ⟨fun hx => (by cases hx), (round_any hround).mono ?_⟩
 intro e w' hr
 obtain ⟨v, rfl, hw⟩ := hR e w' hr
 have hd : dst = some d := h2
 subst hd
 have := hw.run (a.put (some d) v) w' ⟨(put_size ..).trans ok.size, (put_defers ..).trans ok.defers, put_regs (d := some d) ok.size h3 ok.regs, trivial, trivial, Keep.refl w' []⟩
 rw [hF] at this
 exact this
/-- What is known of a world goes on being known from there: a new start. -/
theorem Ok.fresh {a : Act} {w : World} (ok : Ok E n rs m a w) : Ok ⟨w, [], E.defs⟩ n rs [] a w := ⟨ok.size, ok.defers, ok.regs, trivial, trivial, Keep.refl w []⟩
theorem Ok.less {rs' : Rs} {a : Act} {w : World} (ok : Ok E n rs m a w) (h : All rs rs') : Ok E n rs' m a w := (less_regs h).ok ok
/-- A function's contract from its body, told of worlds. -/
theorem calls_sem {f : FuncId} {fn : Func} {c : Code} {vs : List Value} {w : World} {R : Ending → World → Prop}
  (hf : B.P.funcs[f]? = some fn) (hb : fn.body = some c) (hn : fn.ntmps = n) (hl : Nat.ble vs.length n = true)
  (h : WPs B ⟨w, [], []⟩ n c (argRs 0 vs) [] (bodyPostM Fence.wide 9 B.P fn R)) (hrn : B.rnd = none := by rfl) : Calls B.P f vs.toArray w R := by
 have hF : B.F = Fence.wide := by unfold Tb.F; rw [hrn]; rfl
 have hr := h.run { tmps := vs.toArray ++ Array.replicate (fn.ntmps - vs.toArray.size) undef, defers := [] } w ⟨?_, rfl, ?_, trivial, trivial, Keep.refl w []⟩
 ·rw [hF] at hr
  exact callsIn_wide.1 (callsIn_of_wp_marks (n := 9) hf hb trivial hr)
 ·have := Nat.le_of_ble_eq_true hl
  simp [hn]; omega
 ·intro t v hv
  rw [look_argRs] at hv
  simp only [Nat.zero_le, if_true, Nat.sub_zero] at hv
  have hlt : t < vs.length := by
   rcases Nat.lt_or_ge t vs.length with h' | h'
   ·exact h'
   ·rw [List.getElem?_eq_none h'] at hv; cases hv
  simp [Array.getElem?_append, hlt]
  simpa [hlt] using hv
/-- The function ends: what it hands back. -/
theorem ends_plain {fn : Func} {R : Ending → World → Prop} {e : Exit} {v : Value} {a : Act} {w : World} (he : e = .normal ∨ e = .ret) (ok : Ok E n rs m a w) (hd : E.defs = [])
  (hres : ResIs B fn rs m v) (hR : R (.returned v) w) : bodyPostM Fence.wide 9 B.P fn R e a w := by
 have key : LeavesInM Fence.wide 9 B.P fn a.tmps R a.defers .returning w := by
  rw [ok.defers, hd]
  exact ⟨v, hres.run a w ok.regs ok.has, hR⟩
 rcases he with rfl | rfl <;> exact key
theorem s_less {c : Code} {rs' : Rs} {m' : Mem} (h : Less rs m rs' m') (hc : WPs B E n c rs' m' Qs) : WPs B E n c rs m Qs := ⟨fun a w ok => hc.run a w (h.ok ok)⟩
/-- The function ends behind a loop over a function. -/
theorem ends_mark {fn : Func} {R : Ending → World → Prop} {e : Exit} {v : Value} {a : Act} {w : World} {D : Nat} (he : e = .normal ∨ e = .ret) (ok : Ok E n rs m a w)
  (hd : E.defs = [{ target := .collected D, args := #[] }]) (hD : w.heap[D]? = some (.deferred (some [])))
  (hres : ResIs B fn rs [] v) (hR : R (.returned v) (w.putObj D (.deferred none))) : bodyPostM Fence.wide 9 B.P fn R e a w := by
 have key : LeavesInM Fence.wide 9 B.P fn a.tmps R a.defers .returning w := by
  rw [ok.defers, hd]
  exact ⟨by simp, .inl ⟨D, _, rfl, run_takeDeferred hD, v, hres.run a _ ok.regs trivial, hR⟩⟩
 rcases he with rfl | rfl <;> exact key
theorem Kc.cell {A C : World} {ws : List Nat} (h : Kc ws A C) {p : Addr} {v : Value} (hp : p.block ∉ ws) (hc : A.cell? p = some v) : C.cell? p = some v := by
 unfold World.cell? at hc ⊢
 cases ho : A.heap[p.block]? with
 | none => rw [ho] at hc; cases hc
 | some o =>
  cases o with
  | cells c t f => rw [h.cells _ _ _ _ hp ho]; rw [ho] at hc; exact hc
  | _ => rw [ho] at hc; cases hc
theorem exit_on {i id : Nat} {Q : Exit → Act → World → Prop} {a : Act} {w : World} (hn : i ≠ id) (h : Q (.exit i) a w) : Exit.inBlock id Q (.exit i) a w := by simp [Exit.inBlock, hn, h]
theorem exit_here {id : Nat} {Q : Exit → Act → World → Prop} {a : Act} {w : World} (h : Q .normal a w) : Exit.inBlock id Q (.exit id) a w := by simp [Exit.inBlock, h]
theorem exit_then {id : Nat} {K : Act → World → Prop} {Q : Exit → Act → World → Prop} {a : Act} {w : World} (h : Q (.exit id) a w) : Exit.then K Q (.exit id) a w := h
end s
end Go.Vc
