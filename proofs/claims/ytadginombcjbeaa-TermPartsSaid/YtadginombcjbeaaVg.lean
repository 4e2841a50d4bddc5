/- Callees, closures too, that write blocks of the caller's and hand back others; what else they leave nobody writes any more. No program is named here. -/
import Derived.Test.YtadginombcjbeaaVk
namespace Go.Vc
open Go.RowKit
set_option linter.unusedVariables false
/-- Where a function stands that may write these blocks. -/
structure OnM (w : World) (ws : List Nat) (Z : Nat → Prop) (E : Env) : Prop where
 back : Back ⟨w, ws, []⟩ E
 defs : E.defs = []
 sc : Sc Z E
theorem OnM.start {w : World} {ws : List Nat} {Z : Nat → Prop} (h1 : ∀ b, w.heap.size ≤ b → Z b) (h2 : ∀ b ∈ ws, Z b) : OnM w ws Z ⟨w, ws, []⟩ := ⟨Back.refl _, rfl, fun b hb => hb.elim (h1 b) (h2 b)⟩
theorem OnM.next {w : World} {ws : List Nat} {Z : Nat → Prop} {E E' : Env} (h : OnM w ws Z E) (g : Gt E E') : OnM w ws Z E' := ⟨h.back.trans g.back, g.defs.trans h.defs, g.sc _ h.sc⟩
theorem blks_app (m1 m2 : Mem) : blks (m1 ++ m2) = blks m1 ++ blks m2 := by
 unfold blks
 rw [List.filter_append, List.map_append]
/-- What a callee leaves: a value, blocks that are handed over (some of them of the caller's), and memory that nobody writes. -/
structure Wm (B : Tb) (f : FuncId) (vs : List Value) (w : World) (Z : Nat → Prop) (m0 : Mem) (R : Value → Mem → (Addr → Value → Prop) → Prop) : Prop where
 mono : ∀ v m1 (C C' : Addr → Value → Prop), (∀ p x, C p x → C' p x) → R v m1 C → R v m1 C'
 calls : Calls B.P f vs.toArray w fun e w' => ∃ v m1, e = .returned v ∧ Has w' m1 ∧ Own ⟨w, blks m0, []⟩ m1 ∧ Keep w w' (blks m0) ∧ R v m1 (fun p x => w'.cell? p = some x ∧ Z p.block ∧ p.block ∉ blks m1)
/-- What a caller of the scope Z asks of it. -/
def AsksM (B : Tb) (E : Env) (m m0 : Mem) (Z : Nat → Prop) (f : FuncId) (vs : List Value) (R : Value → Mem → (Addr → Value → Prop) → Prop) : Prop :=
 ∀ w Z', Has w m → Keep E.w0 w E.ws → Has w m0 → (∀ b, w.heap.size ≤ b → Z' b) → (∀ b ∈ blks m0, Z' b) → (∀ p x, Cz Z E p x → w.cell? p = some x ∧ Z' p.block ∧ p.block ∉ blks m0) → Wm B f vs w Z' m0 R
theorem Wm.weaken {B : Tb} {f : FuncId} {vs : List Value} {w : World} {Z : Nat → Prop} {m0 : Mem} {R R' : Value → Mem → (Addr → Value → Prop) → Prop} (h : Wm B f vs w Z m0 R)
  (mono : ∀ v m1 (C C' : Addr → Value → Prop), (∀ p x, C p x → C' p x) → R' v m1 C → R' v m1 C') (hR : ∀ v m1 C, R v m1 C → R' v m1 C) : Wm B f vs w Z m0 R' :=
 ⟨mono, h.calls.mono (by rintro e w' ⟨v, m1, rfl, h1, h2, h3, h4⟩; exact ⟨v, m1, rfl, h1, h2, h3, hR v m1 _ h4⟩)⟩
section
variable {B : Tb} {E : Env} {n : Nat} {all rest : List Oper} {rs : Rs} {m : Mem} {K : Act → World → Prop} {Qs : Exit → Act → World → Prop} {c : Code}
variable {dst : Option Tmp} {ty : TypeId} {pos : String} {aft : Array Edge} {gd : Option (Nat × Bool)}
theorem apart_of_has {w : World} {m1 m2 : Mem} (h : Has w (m1 ++ m2)) {e e' : Ent} (he : e ∈ m1) (hl : e.cells ≠ []) (he' : e' ∈ m2) (hl' : e'.cells ≠ []) : e.blk ≠ e'.blk := fun hb =>
 has_apart2 h e he hl (mem_blks.2 ⟨e', he', hl', hb.symm⟩)
theorem has_app {w : World} : ∀ {m1 m2 : Mem}, Has w m1 → Has w m2 → (∀ e ∈ m1, e.cells ≠ [] → e.blk ∉ blks m2) → Has w (m1 ++ m2)
 | [], _, _, h2, _ => h2
 | x :: m1, m2, h1, h2, h3 => ⟨h1.1, fun hx => apartFrom_append (h1.2.1 hx) (apartFrom_of fun e he hl hb => h3 x (.head _) hx (mem_blks.2 ⟨e, he, hl, hb.symm⟩)), has_app h1.2.2 h2 (fun e he => h3 e (.tail _ he))⟩
theorem own_app {m1 m2 : Mem} (h1 : Own E m1) (h2 : Own E m2) : Own E (m1 ++ m2) := by
 induction m1 with
 | nil => exact h2
 | cons x m1 ih => exact ⟨h1.1, ih h1.2⟩
theorem own_of {m : Mem} (h : ∀ e ∈ m, e.cells ≠ [] → E.w0.heap.size ≤ e.blk ∨ e.blk ∈ E.ws) : Own E m := by
 induction m with
 | nil => trivial
 | cons x m ih => exact ⟨h x (.head _), ih (fun e he => h e (.tail _ he))⟩
/-- The world behind a callee. -/
theorem asksM_run {Z : Nat → Prop} {f : FuncId} {vs : List Value} {m0 mr : Mem} {R : Value → Mem → (Addr → Value → Prop) → Prop} (hz : Sc Z E) (hp : m.Perm (m0 ++ mr)) (hg : AsksM B E m m0 Z f vs R) {a : Act} {w : World} (ok : Ok E n rs m a w) :
  Calls B.P f vs.toArray w fun e w' => ∃ v m1, e = .returned v ∧ Has w' (m1 ++ mr) ∧ Own E (m1 ++ mr) ∧ Keep E.w0 w' E.ws ∧ R v m1 (Cz Z ⟨w', blks (m1 ++ mr), E.defs⟩) := by
 have hh := ok.has.perm hp
 have ho := ok.own.perm hp
 have h0 : Has w m0 := hh.sublist (List.sublist_append_left ..)
 have hmr : Has w mr := hh.sublist (List.sublist_append_right ..)
 have ho0 : Own E m0 := ho.sublist (List.sublist_append_left ..)
 have hor : Own E mr := ho.sublist (List.sublist_append_right ..)
 have hlt : ∀ b ∈ blks mr, b < w.heap.size := by
  intro b hb
  obtain ⟨e, he, hl, rfl⟩ := mem_blks.1 hb
  exact hmr.lt e he hl
 have h0r : ∀ b ∈ blks m0, b ∉ blks mr := by
  intro b hb
  obtain ⟨e, he, hl, rfl⟩ := mem_blks.1 hb
  exact has_apart2 hh e he hl
 have hcz : ∀ p x, Cz Z E p x → ∀ mm, Own E mm → p.block ∉ blks mm := by
  intro p x hp mm hm hb
  have hlt := cell_lt hp.1.1
  rcases own_at hm hb with h1 | h1
  ·omega
  ·exact hp.1.2 h1
 have h := hg w (fun b => Z b ∧ b ∉ blks mr) ok.has ok.keep h0 (fun b hb => ⟨hz b (.inl (Nat.le_trans ok.keep.size hb)), fun hm => ?_⟩)
  (fun b hb => ⟨hz b (own_at ho0 hb), h0r b hb⟩) (fun p x hp => ⟨hp.1.now ok.keep, ⟨hp.2, hcz p x hp mr hor⟩, hcz p x hp m0 ho0⟩)
 ·refine h.calls.mono ?_
  rintro e w' ⟨v, m1, rfl, h1, h2, hk, hR⟩
  have ho1 : Own E m1 := own_of fun e he hl => by
   rcases h2.at he hl with h3 | h3
   ·exact .inl (Nat.le_trans ok.keep.size h3)
   ·exact own_at ho0 h3
  refine ⟨v, m1, rfl, has_app h1 (hmr.of_same fun e he hl => ?_) (fun e he hl => ?_), own_app ho1 hor, ok.keep.trans hk (fun x hx hlt => ?_), h.mono v m1 _ _ (fun p x hp => ⟨⟨hp.1, ?_⟩, hp.2.1.1⟩) hR⟩
  ·have hb : e.blk ∈ blks mr := mem_blks.2 ⟨e, he, hl, rfl⟩
   exact hk.block e.blk (hlt _ hb) (fun hx => h0r _ hx hb)
  ·rcases h2.at he hl with h3 | h3
   ·intro hb
    have := hlt _ hb
    have h3 : w.heap.size ≤ e.blk := h3
    omega
   ·exact h0r _ h3
  ·rcases own_at ho0 hx with h3 | h3
   ·omega
   ·exact h3
  ·show p.block ∉ blks (m1 ++ mr)
   rw [blks_app, List.mem_append]
   rintro (h3 | h3)
   ·exact hp.2.2 h3
   ·exact hp.2.1.2 h3
 ·have := hlt b hm
  omega
theorem run_enterc {f : FuncId} {fx : Operand} {args : List Operand} {ats : Array TypeId} {vs caps : List Value} {a : Act} {w : World} (hfx : ev rs fx = some (.func (.func f) #[] caps.toArray)) (hf : Fun B f) (hr : Regs rs a) (hv : evs rs args = some vs) :
  (execOp a.eval ⟨dst, .call ⟨.value fx, args.toArray, ats⟩, ty, pos, aft, gd⟩).run B.P w = .ok (.enter f (vs ++ caps).toArray) w := by
 have e1 : args.toArray.map a.eval = vs.toArray := by rw [List.map_toArray, evs_ok hr hv]
 simp only [execOp, resolve, e1, ev_ok hr hfx, Deferred.ofValue, Sem.run_bind, Sem.run_pure, Result.andThen_ok, invoke]
 have := hf (vs ++ caps).toArray w
 simpa using this
/-- A call of a function value. -/
theorem step_wmc {Z : Nat → Prop} {f : FuncId} {fx : Operand} {args : List Operand} {ats : Array TypeId} {vs caps us : List Value} {R : Value → Mem → (Addr → Value → Prop) → Prop} {d : Nat} (m0 mr : Mem) (hz : Sc Z E)
  (hc : chk all n rs ⟨dst, .call ⟨.value fx, args.toArray, ats⟩, ty, pos, aft, gd⟩ = some d)
  (hfx : ev rs fx = some (.func (.func f) #[] caps.toArray)) (hf : Fun B f) (hv : evs rs args = some vs) (hu : vs ++ caps = us) (hp : m.Perm (m0 ++ mr)) (hg : AsksM B E m m0 Z f us R)
  (h : ∀ v m1 E', Gt E E' → R v m1 (Cz Z E') → WPl B E' n all rest ((d, v) :: rs) (m1 ++ mr) K) :
  WPl B E n all (⟨dst, .call ⟨.value fx, args.toArray, ats⟩, ty, pos, aft, gd⟩ :: rest) rs m K := by
 subst hu
 refine ⟨fun Q hQ a w ok => ?_⟩
 obtain ⟨hw, hd, hdn⟩ := chk_ok hc
 unfold wpList
 rw [if_pos (wants_ok ok.regs hw)]
 left
 unfold Oper.wp
 rw [run_enterc hfx hf ok.regs hv]
 refine (asksM_run hz hp hg ok).mono ?_
 rintro e w' ⟨v, m1, rfl, h1, h2, hk, hR⟩
 have hd' : dst = some d := hd
 subst hd'
 have ok' : Ok E n ((d, v) :: rs) (m1 ++ mr) (a.put (some d) v) w' := ⟨(put_size ..).trans ok.size, (put_defers ..).trans ok.defers, put_regs (d := some d) ok.size hdn ok.regs, h1, h2, hk⟩
 exact (h v m1 _ (at_gt h2 ok'.keep) hR).run Q hQ _ _ (at_ok ok' (List.Sublist.refl _))
theorem step_wm {Z : Nat → Prop} {f : FuncId} {args : List Operand} {ats : Array TypeId} {vs : List Value} {R : Value → Mem → (Addr → Value → Prop) → Prop} {d : Nat} (m0 mr : Mem) (hz : Sc Z E)
  (hc : chk all n rs ⟨dst, .call ⟨.value (.func f), args.toArray, ats⟩, ty, pos, aft, gd⟩ = some d)
  (hf : Fun B f) (hv : evs rs args = some vs) (hp : m.Perm (m0 ++ mr)) (hg : AsksM B E m m0 Z f vs R)
  (h : ∀ v m1 E', Gt E E' → R v m1 (Cz Z E') → WPl B E' n all rest ((d, v) :: rs) (m1 ++ mr) K) :
  WPl B E n all (⟨dst, .call ⟨.value (.func f), args.toArray, ats⟩, ty, pos, aft, gd⟩ :: rest) rs m K :=
 step_wmc m0 mr hz hc rfl hf hv (List.append_nil vs) hp hg h
/-- A closure that gives a value. -/
theorem step_givesPc {Z : Nat → Prop} {f : FuncId} {fx : Operand} {args : List Operand} {ats : Array TypeId} {vs caps us : List Value} {R : Value → (Addr → Value → Prop) → Prop} {d : Nat} (hz : Sc Z E)
  (hc : chk all n rs ⟨dst, .call ⟨.value fx, args.toArray, ats⟩, ty, pos, aft, gd⟩ = some d)
  (hfx : ev rs fx = some (.func (.func f) #[] caps.toArray)) (hf : Fun B f) (hv : evs rs args = some vs) (hu : vs ++ caps = us) (hg : Asks B E m Z f us R)
  (h : ∀ v E', Gt E E' → R v (Cz Z E') → WPl B E' n all rest ((d, v) :: rs) m K) :
  WPl B E n all (⟨dst, .call ⟨.value fx, args.toArray, ats⟩, ty, pos, aft, gd⟩ :: rest) rs m K := by
 subst hu
 refine ⟨fun Q hQ a w ok => ?_⟩
 obtain ⟨hw, hd, hdn⟩ := chk_ok hc
 unfold wpList
 rw [if_pos (wants_ok ok.regs hw)]
 left
 unfold Oper.wp
 rw [run_enterc hfx hf ok.regs hv]
 refine (asks_run hz hg ok).mono ?_
 rintro e w' ⟨v, rfl, hk, hR⟩
 have hd' : dst = some d := hd
 subst hd'
 have ok' : Ok E n ((d, v) :: rs) m (a.put (some d) v) w' := ⟨(put_size ..).trans ok.size, (put_defers ..).trans ok.defers, put_regs (d := some d) ok.size hdn ok.regs, hk.has ok.has, ok.own, ok.keep.trans hk (by simp)⟩
 exact (h v _ (at_gt ok.own ok'.keep) hR).run Q hQ _ _ (at_ok ok' (List.Sublist.refl _))
theorem d_wmc {mS : Mem} {codes left : List Nat} {cd : Nat} {Z : Nat → Prop} {f : FuncId} {fx : Operand} {args : List Operand} {ats : Array TypeId} {vs caps us : List Value} {R : Value → Mem → (Addr → Value → Prop) → Prop} {d : Nat} (m0 mr : Mem) (hz : Sc Z E)
  (ho : opOf all cd = some ⟨dst, .call ⟨.value fx, args.toArray, ats⟩, ty, pos, aft, gd⟩) (hk : cKd cd = 2)
  (hc : chk all n rs ⟨dst, .call ⟨.value fx, args.toArray, ats⟩, ty, pos, aft, gd⟩ = some d)
  (hfx : ev rs fx = some (.func (.func f) #[] caps.toArray)) (hf : Fun B f) (hv : evs rs args = some vs) (hu : vs ++ caps = us) (hp : m.Perm (m0 ++ mr)) (hg : AsksM B E m m0 Z f us R) (hn : needsOf codes (cIx cd) = cNd cd) (hS : mS.Sublist mr)
  (h : ∀ v m1 E', Gt E E' → R v m1 (Cz Z E') → WPd B E' n all mS codes left ((d, v) :: rs) (m1 ++ mr) K) : WPd B E n all mS codes (cd :: left) rs m K := by
 subst hu
 refine ⟨fun Q hQ hsel hbm listed hp' hcl a w ok => ?_⟩
 obtain ⟨hw, hd, hdn⟩ := chk_ok hc
 have hi : all.toArray[cIx cd]? = some ⟨dst, .call ⟨.value fx, args.toArray, ats⟩, ty, pos, aft, gd⟩ := by
  unfold opOf at ho
  rw [nth_eq] at ho
  simpa using ho
 simp only [planFrom, hk, Nat.beq_refl, cond_true, Bool.and_eq_true, decide_eq_true_eq] at hp'
 obtain ⟨hr, hp''⟩ := hp'
 refine anyN_only hr fun w2 hkp => ?_
 have ok2 := ok.grow hkp
 unfold Go.wpOp
 simp only [hi]
 rw [if_pos (wants_ok ok2.regs hw)]
 left
 unfold Oper.wp
 rw [run_enterc hfx hf ok2.regs hv]
 refine (asksM_run hz hp hg ok2).mono ?_
 rintro e w' ⟨v, m1, rfl, h1, h2, hkeep, hR⟩
 have hd' : dst = some d := hd
 subst hd'
 have ok3 : Ok E n ((d, v) :: rs) (m1 ++ mr) (a.put (some d) v) w' := ⟨(put_size ..).trans ok2.size, (put_defers ..).trans ok2.defers, put_regs (d := some d) ok2.size hdn ok2.regs, h1, h2, hkeep⟩
 refine ⟨ok3.keep, fun _ _ => (h1.sublist (List.sublist_append_right ..)).sublist hS, anyN_mono (fun w h => ?_) _ _ _ _ ((h v m1 _ (at_gt h2 ok3.keep) hR).run Q hQ hsel hbm _ hp'' (hcl.set (by rw [hr]; simp)) _ _ (at_ok ok3 (List.Sublist.refl _)))⟩
 refine ok3.keep.trans h (fun x hx hlt => ?_)
 rcases own_at ok3.own hx with h1 | h1
 ·omega
 ·exact h1
theorem d_wm {mS : Mem} {codes left : List Nat} {cd : Nat} {Z : Nat → Prop} {f : FuncId} {args : List Operand} {ats : Array TypeId} {vs : List Value} {R : Value → Mem → (Addr → Value → Prop) → Prop} {d : Nat} (m0 mr : Mem) (hz : Sc Z E)
  (ho : opOf all cd = some ⟨dst, .call ⟨.value (.func f), args.toArray, ats⟩, ty, pos, aft, gd⟩) (hk : cKd cd = 2)
  (hc : chk all n rs ⟨dst, .call ⟨.value (.func f), args.toArray, ats⟩, ty, pos, aft, gd⟩ = some d)
  (hf : Fun B f) (hv : evs rs args = some vs) (hp : m.Perm (m0 ++ mr)) (hg : AsksM B E m m0 Z f vs R) (hn : needsOf codes (cIx cd) = cNd cd) (hS : mS.Sublist mr)
  (h : ∀ v m1 E', Gt E E' → R v m1 (Cz Z E') → WPd B E' n all mS codes left ((d, v) :: rs) (m1 ++ mr) K) : WPd B E n all mS codes (cd :: left) rs m K :=
 d_wmc m0 mr hz ho hk hc rfl hf hv (List.append_nil vs) hp hg hn hS h
/-! a function's beginning and end -/
abbrev endM (B : Tb) (fn : Func) (w : World) (Z : Nat → Prop) (m0 : Mem) (R : Value → Mem → (Addr → Value → Prop) → Prop) : Exit → Act → World → Prop :=
 bodyPostM Fence.wide 9 B.P fn (fun e w' => ∃ v m1, e = .returned v ∧ Has w' m1 ∧ Own ⟨w, blks m0, []⟩ m1 ∧ Keep w w' (blks m0) ∧ R v m1 (fun p x => w'.cell? p = some x ∧ Z p.block ∧ p.block ∉ blks m1))
theorem calls_semM {f : FuncId} {fn : Func} {vs : List Value} {w : World} {ws : List Nat} {m0 : Mem} {R : Ending → World → Prop}
  (hf : B.P.funcs[f]? = some fn) (hb : fn.body = some c) (hn : fn.ntmps = n) (hl : Nat.ble vs.length n = true) (hm : Has w m0) (ho : Own ⟨w, ws, []⟩ m0)
  (h : WPs B ⟨w, ws, []⟩ n c (argRs 0 vs) m0 (bodyPostM Fence.wide 9 B.P fn R)) (hrn : B.rnd = none := by rfl) : Calls B.P f vs.toArray w R := by
 have hF : B.F = Fence.wide := by unfold Tb.F; rw [hrn]; rfl
 have hr := h.run { tmps := vs.toArray ++ Array.replicate (fn.ntmps - vs.toArray.size) undef, defers := [] } w ⟨?_, rfl, ?_, hm, ho, Keep.refl w _⟩
 ·rw [hF] at hr
  exact callsIn_wide.1 (callsIn_of_wp_marks (n := 9) hf hb trivial hr)
 ·have := Nat.le_of_ble_eq_true hl
  simp [hn]; omega
 ·intro t v hv
  rw [look_argRs] at hv
  simp only [Nat.zero_le, if_true, Nat.sub_zero] at hv
  have hlt : t < vs.length := by
   rcases Nat.lt_or_ge t vs.length with h' | h'
   ·exact h'
   ·rw [List.getElem?_eq_none h'] at hv; cases hv
  simp [Array.getElem?_append, hlt]
  simpa [hlt] using hv
theorem own_blks (w : World) (m0 : Mem) : Own ⟨w, blks m0, []⟩ m0 := own_of fun e he hl => .inr (mem_blks.2 ⟨e, he, hl, rfl⟩)
theorem wm_of {f : FuncId} {fn : Func} {vs : List Value} {w : World} {Z : Nat → Prop} {m0 : Mem} {R : Value → Mem → (Addr → Value → Prop) → Prop}
  (hf : B.P.funcs[f]? = some fn) (hb : fn.body = some c) (hn : fn.ntmps = n) (hl : Nat.ble vs.length n = true) (hm : Has w m0) (hZ : ∀ b, w.heap.size ≤ b → Z b) (hZ0 : ∀ b ∈ blks m0, Z b)
  (mono : ∀ v m1 (C C' : Addr → Value → Prop), (∀ p x, C p x → C' p x) → R v m1 C → R v m1 C')
  (h : OnM w (blks m0) Z ⟨w, blks m0, []⟩ → WPs B ⟨w, blks m0, []⟩ n c (argRs 0 vs) m0 (endM B fn w Z m0 R)) (hrn : B.rnd = none := by rfl) : Wm B f vs w Z m0 R :=
 ⟨mono, calls_semM hf hb hn hl hm (own_blks w m0) (h (OnM.start hZ hZ0)) hrn⟩
theorem cz_startM {w : World} {m0 : Mem} {Z : Nat → Prop} : ∀ p x, (w.cell? p = some x ∧ Z p.block ∧ p.block ∉ blks m0) → Cz Z ⟨w, blks m0, []⟩ p x := fun _ _ h => ⟨⟨h.1, h.2.2⟩, h.2.1⟩
theorem ends_wm {fn : Func} {e : Exit} {v : Value} {a : Act} {w w' : World} {Z : Nat → Prop} {m0 m1 mr : Mem} {R : Value → Mem → (Addr → Value → Prop) → Prop} (on : OnM w (blks m0) Z E) (he : e = .normal ∨ e = .ret) (ok : Ok E n rs m a w')
  (hres : ResIs B fn rs m v) (hp : m.Perm (m1 ++ mr)) (mono : ∀ v m1 (C C' : Addr → Value → Prop), (∀ p x, C p x → C' p x) → R v m1 C → R v m1 C') (hR : R v m1 (Cz Z E)) : endM B fn w Z m0 R e a w' := by
 have okb := on.back _ _ _ _ _ ok
 have h1 : Has w' m1 := (ok.has.perm hp).sublist (List.sublist_append_left ..)
 have h2 : Own E m1 := (ok.own.perm hp).sublist (List.sublist_append_left ..)
 refine ends_plain he ok on.defs hres ⟨v, m1, rfl, h1, (okb.own.perm hp).sublist (List.sublist_append_left ..), okb.keep, mono v m1 _ _ (fun p x hp => ⟨hp.1.now ok.keep, hp.2, fun hb => ?_⟩) hR⟩
 have hlt := cell_lt hp.1.1
 rcases own_at h2 hb with h3 | h3
 ·omega
 ·exact hp.1.2 h3
/-- A block of one's own is apart from what nobody writes. -/
theorem cz_ne {Z : Nat → Prop} {w : World} {a : Act} (ok : Ok E n rs m a w) {e : Ent} (he : e ∈ m) (hl : e.cells ≠ []) {p : Addr} {x : Value} (h : Cz Z E p x) : p.block ≠ e.blk := fun hb => by
 have hlt := cell_lt h.1.1
 rcases ok.own.at he hl with h1 | h1
 ·omega
 ·exact h.1.2 (hb ▸ h1)
end
end Go.Vc
