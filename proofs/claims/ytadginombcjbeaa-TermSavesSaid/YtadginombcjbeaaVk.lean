/- Contracts whose memory nobody writes any more; scopes of blocks; ways that meet. No program is named here. -/
import Derived.Test.YtadginombcjbeaaVy
import Derived.Deep.Slices
namespace Go.Vc
open Go.RowKit
set_option linter.unusedVariables false
/-- A cell that nobody writes any more, in a block of the scope Z. -/
def Cz (Z : Nat → Prop) (E : Env) : Addr → Value → Prop := fun p x => Cel E p x ∧ Z p.block
/-- All that is written here is in the scope. -/
def Sc (Z : Nat → Prop) (E : Env) : Prop := ∀ b, (E.w0.heap.size ≤ b ∨ b ∈ E.ws) → Z b
/-- The start is renewed. -/
structure Gt (E E' : Env) : Prop where
 mono : Mono E E'
 back : Back E E'
 defs : E'.defs = E.defs
 sc : ∀ Z, Sc Z E → Sc Z E'
theorem Gt.refl (E : Env) : Gt E E := ⟨Mono.refl E, Back.refl E, rfl, fun _ h => h⟩
theorem Gt.trans {E E1 E2 : Env} (h : Gt E E1) (k : Gt E1 E2) : Gt E E2 := ⟨h.mono.trans k.mono, h.back.trans k.back, k.defs.trans h.defs, fun Z hz => k.sc Z (h.sc Z hz)⟩
theorem Gt.cz {E E' : Env} {Z : Nat → Prop} (h : Gt E E') : ∀ p x, Cz Z E p x → Cz Z E' p x := fun p x hp => ⟨h.mono p x hp.1, hp.2⟩
theorem Cz.cel {Z : Nat → Prop} {E : Env} : ∀ p x, Cz Z E p x → Cel E p x := fun _ _ h => h.1
theorem Cz.now {Z : Nat → Prop} {E : Env} {w : World} (k : Keep E.w0 w E.ws) : ∀ p x, Cz Z E p x → w.cell? p = some x := fun _ _ h => h.1.now k
/-- Where a function stands: what it was called in, and its scope. -/
structure On (w : World) (Z : Nat → Prop) (E : Env) : Prop where
 back : Back ⟨w, [], []⟩ E
 defs : E.defs = []
 sc : Sc Z E
theorem On.start {w : World} {Z : Nat → Prop} (hZ : ∀ b, w.heap.size ≤ b → Z b) : On w Z ⟨w, [], []⟩ := ⟨Back.refl _, rfl, fun b hb => hb.elim (hZ b) (fun h => by cases h)⟩
theorem On.next {w : World} {Z : Nat → Prop} {E E' : Env} (h : On w Z E) (g : Gt E E') : On w Z E' := ⟨h.back.trans g.back, g.defs.trans h.defs, g.sc Z h.sc⟩
theorem cz_start {w : World} {Z : Nat → Prop} : ∀ p x, (w.cell? p = some x ∧ Z p.block) → Cz Z ⟨w, [], []⟩ p x := fun _ _ h => ⟨⟨h.1, by simp⟩, h.2⟩
theorem at_gt {E : Env} {m : Mem} {w : World} (ho : Own E m) (k : Keep E.w0 w E.ws) : Gt E ⟨w, blks m, E.defs⟩ :=
 ⟨at_mono ho k, at_back ho k, rfl, fun Z hz b hb => hz b (hb.elim (fun h => .inl (Nat.le_trans k.size h)) (fun h => own_at ho h))⟩
/-- A callee that hands back a value of which this is known; its memory is new, or lay there, and nobody writes it. -/
structure GivesP (B : Tb) (f : FuncId) (vs : List Value) (w : World) (Z : Nat → Prop) (R : Value → (Addr → Value → Prop) → Prop) : Prop where
 mono : ∀ v (C C' : Addr → Value → Prop), (∀ p x, C p x → C' p x) → R v C → R v C'
 calls : Calls B.P f vs.toArray w fun e w' => ∃ v, e = .returned v ∧ Keep w w' [] ∧ R v (fun p x => w'.cell? p = some x ∧ Z p.block)
theorem givesP_of_makes {B : Tb} {f : FuncId} {vs : List Value} {w : World} {Z : Nat → Prop} {R0 : Value → Mem → Prop} {R : Value → (Addr → Value → Prop) → Prop} (h : Makes B f vs w R0) (hZ : ∀ b, w.heap.size ≤ b → Z b)
  (mono : ∀ v (C C' : Addr → Value → Prop), (∀ p x, C p x → C' p x) → R v C → R v C')
  (hR : ∀ v m' (C : Addr → Value → Prop), R0 v m' → (∀ e ∈ m', ∀ j x, e.cells[j]? = some x → C ⟨e.blk, j, none⟩ x) → R v C) : GivesP B f vs w Z R := by
 refine ⟨mono, h.calls.mono ?_⟩
 rintro e w' ⟨v, m', rfl, hr, hh, ho, hk⟩
 refine ⟨v, rfl, hk, hR v m' _ hr fun e he j x hj => ?_⟩
 have hl : e.cells ≠ [] := by intro h; rw [h] at hj; cases hj
 refine ⟨cell_of (hh.cell he hl) hj, hZ _ ?_⟩
 rcases ho.at he hl with h1 | h1
 ·exact h1
 ·cases h1
theorem givesP_of_gives {B : Tb} {f : FuncId} {vs : List Value} {w : World} {Z : Nat → Prop} {v : Value} (h : Gives B f vs w v) : GivesP B f vs w Z (fun u _ => u = v) :=
 ⟨fun _ _ _ _ h => h, h.calls.mono (by rintro e w' ⟨rfl, hk⟩; exact ⟨v, rfl, hk, rfl⟩)⟩
theorem GivesP.weaken {B : Tb} {f : FuncId} {vs : List Value} {w : World} {Z : Nat → Prop} {R R' : Value → (Addr → Value → Prop) → Prop} (h : GivesP B f vs w Z R)
  (mono : ∀ v (C C' : Addr → Value → Prop), (∀ p x, C p x → C' p x) → R' v C → R' v C') (hR : ∀ v C, R v C → R' v C) : GivesP B f vs w Z R' :=
 ⟨mono, h.calls.mono (by rintro e w' ⟨v, rfl, hk, hr⟩; exact ⟨v, rfl, hk, hR v _ hr⟩)⟩
section
variable {B : Tb} {E : Env} {n : Nat} {all rest : List Oper} {rs : Rs} {m : Mem} {K : Act → World → Prop} {Qs : Exit → Act → World → Prop} {c : Code}
variable {dst : Option Tmp} {ty : TypeId} {pos : String} {aft : Array Edge} {gd : Option (Nat × Bool)}
/-! blocks of one's own that are not written any more are let go -/
theorem cz_at {Z : Nat → Prop} (hz : Sc Z E) {m1 m : Mem} {a : Act} {w : World} (ok : Ok E n rs (m1 ++ m) a w) {e : Ent} (he : e ∈ m1) {j : Nat} {x : Value} (hj : e.cells[j]? = some x) : Cz Z ⟨w, blks m, E.defs⟩ ⟨e.blk, j, none⟩ x := by
 have hl : e.cells ≠ [] := by intro h; rw [h] at hj; cases hj
 exact ⟨⟨cell_of (ok.has.cell (List.mem_append_left _ he) hl) hj, has_apart2 ok.has e he hl⟩, hz _ (ok.own.at (List.mem_append_left _ he) hl)⟩
theorem s_letM (m1 : Mem) {m2 : Mem} (hp : m2.Perm (m1 ++ m)) (h : ∀ E', Gt E E' → (∀ Z, Sc Z E → ∀ e ∈ m1, ∀ j x, e.cells[j]? = some x → Cz Z E' ⟨e.blk, j, none⟩ x) → WPs B E' n c rs m Qs) : WPs B E n c rs m2 Qs :=
 ⟨fun a w ok => by
  have ok' : Ok E n rs (m1 ++ m) a w := ⟨ok.size, ok.defers, ok.regs, ok.has.perm hp, ok.own.perm hp, ok.keep⟩
  have hs : m.Sublist (m1 ++ m) := List.sublist_append_right ..
  exact (h _ (at_gt (ok'.own.sublist hs) ok.keep) (fun Z hz e he j x hj => cz_at hz ok' he hj)).run a w (at_ok ok' hs)⟩
theorem l_letM (m1 : Mem) {m2 : Mem} (hp : m2.Perm (m1 ++ m)) (h : ∀ E', Gt E E' → (∀ Z, Sc Z E → ∀ e ∈ m1, ∀ j x, e.cells[j]? = some x → Cz Z E' ⟨e.blk, j, none⟩ x) → WPl B E' n all rest rs m K) : WPl B E n all rest rs m2 K :=
 ⟨fun Q hQ a w ok => by
  have ok' : Ok E n rs (m1 ++ m) a w := ⟨ok.size, ok.defers, ok.regs, ok.has.perm hp, ok.own.perm hp, ok.keep⟩
  have hs : m.Sublist (m1 ++ m) := List.sublist_append_right ..
  exact (h _ (at_gt (ok'.own.sublist hs) ok.keep) (fun Z hz e he j x hj => cz_at hz ok' he hj)).run Q hQ a w (at_ok ok' hs)⟩
theorem nth_perm {e : Ent} : ∀ {m : Mem} {i : Nat}, nth m i = some e → m.Perm ([e] ++ m.eraseIdx i)
 | [], _, h => by cases h
 | x :: m, 0, h => by
  have : x = e := Option.some.inj h
  subst this
  exact List.Perm.refl _
 | x :: m, i + 1, h => ((nth_perm (m := m) (i := i) h).cons x).trans (List.Perm.swap ..)
theorem s_let {e : Ent} (i : Nat) (he : nth m i = some e) (h : ∀ E', Gt E E' → (∀ Z, Sc Z E → ∀ j x, e.cells[j]? = some x → Cz Z E' ⟨e.blk, j, none⟩ x) → WPs B E' n c rs (m.eraseIdx i) Qs) : WPs B E n c rs m Qs :=
 s_letM [e] (nth_perm he) (fun E' g hc => h E' g (fun Z hz j x hj => hc Z hz e (.head _) j x hj))
theorem l_let {e : Ent} (i : Nat) (he : nth m i = some e) (h : ∀ E', Gt E E' → (∀ Z, Sc Z E → ∀ j x, e.cells[j]? = some x → Cz Z E' ⟨e.blk, j, none⟩ x) → WPl B E' n all rest rs (m.eraseIdx i) K) : WPl B E n all rest rs m K :=
 l_letM [e] (nth_perm he) (fun E' g hc => h E' g (fun Z hz j x hj => hc Z hz e (.head _) j x hj))
/-- A slice of one's own that was let go. -/
theorem slis_cz {C : Addr → Value → Prop} {u : Ty} {eT : TypeId} {e : Ent} {base : Option Addr} {len cap : Nat} {xs : List Value} (hs : SlIs u eT e base len cap xs) (hc : ∀ j x, e.cells[j]? = some x → C ⟨e.blk, j, none⟩ x) : SlC C u.size (.slice base len cap) len xs := by
 refine ⟨base, cap, rfl, hs.le, hs.len, fun hne => ?_⟩
 have hlive : e.cells ≠ [] := fun h => hne (by rw [← hs.xs, h]; simp)
 obtain ⟨hb, hel⟩ := hs.at_ hlive
 refine ⟨_, hb, fun i x hx => ?_⟩
 rw [add_none, Nat.zero_add]
 refine hc _ _ ?_
 rw [← hs.xs, List.getElem?_take] at hx
 split at hx
 ·exact hx
 ·cases hx
/-- A part of a slice. -/
theorem slc_sub {C : Addr → Value → Prop} {a : Option Addr} {sz len cap n : Nat} {xs : List Value} {lo hi : Nat} (h : SlC C sz (.slice a len cap) n xs) (h1 : lo ≤ hi) (h2 : hi ≤ n) :
  SlC C sz (subS a cap sz lo hi) (hi - lo) ((xs.drop (lo * sz)).take ((hi - lo) * sz)) := by
 obtain ⟨base, cap', he, hle, hl, hp⟩ := h
 have hm : hi * sz ≤ n * sz := Nat.mul_le_mul_right _ h2
 cases he
 have hs : (hi - lo) * sz = hi * sz - lo * sz := Nat.sub_mul ..
 have hlo : lo * sz ≤ hi * sz := Nat.mul_le_mul_right _ h1
 refine ⟨_, _, rfl, by omega, by rw [List.length_take, List.length_drop, hl]; omega, fun hne => ?_⟩
 have hx : xs ≠ [] := by intro h; rw [h] at hne; simp at hne
 obtain ⟨p, rfl, hc⟩ := hp hx
 have hlt : lo < hi := by
  rcases Nat.lt_or_ge lo hi with h | h
  ·exact h
  ·rw [show hi - lo = 0 by omega] at hne
   simp at hne
 rw [if_neg (by omega)]
 refine ⟨_, rfl, fun j x hj => ?_⟩
 rw [List.getElem?_take] at hj
 split at hj
 ·rw [List.getElem?_drop] at hj
  rw [Deep.add_add]
  exact hc _ x hj
 ·cases hj
theorem slc_at1 {C : Addr → Value → Prop} {v : Value} {k : IntKind} {l : List Int} {i : Nat} (h : SlC C 1 v l.length (ints k l)) (hi : i < l.length) : ∃ p cap, v = .slice (some p) l.length cap ∧ C (p.add (i * 1)) (.int k l[i]) := by
 obtain ⟨base, cap, rfl, hle, hl, hp⟩ := h
 obtain ⟨p, rfl, hc⟩ := hp (by intro h; rw [h] at hl; simp at hl; omega)
 refine ⟨p, cap, rfl, ?_⟩
 rw [Nat.mul_one]
 refine hc i _ ?_
 unfold ints
 rw [List.getElem?_map, List.getElem?_eq_getElem hi]
 rfl
theorem of_one {vs : List Value} (h : vs.all (fun v => v.oneCell') = true) : ∀ v ∈ vs, v.oneCell' = true := List.all_eq_true.1 h
/-! calls -/
theorem run_enter {f : FuncId} {args : List Operand} {ats : Array TypeId} {vs : List Value} {a : Act} {w : World} (hf : Fun B f) (hr : Regs rs a) (hv : evs rs args = some vs) :
  (execOp a.eval ⟨dst, .call ⟨.value (.func f), args.toArray, ats⟩, ty, pos, aft, gd⟩).run B.P w = .ok (.enter f vs.toArray) w := by
 have e1 : args.toArray.map a.eval = vs.toArray := by rw [List.map_toArray, evs_ok hr hv]
 simp only [execOp, resolve, e1, Act.eval, Deferred.ofValue, Sem.run_bind, Sem.run_pure, Result.andThen_ok, invoke]
 have := hf vs.toArray w
 simpa using this
/-- What a caller of the scope Z asks of a callee. -/
def Asks (B : Tb) (E : Env) (m : Mem) (Z : Nat → Prop) (f : FuncId) (vs : List Value) (R : Value → (Addr → Value → Prop) → Prop) : Prop :=
 ∀ w Z', Has w m → Keep E.w0 w E.ws → (∀ b, w.heap.size ≤ b → Z' b) → (∀ p x, Cz Z E p x → w.cell? p = some x ∧ Z' p.block) → GivesP B f vs w Z' R
theorem asks_run {Z : Nat → Prop} {f : FuncId} {vs : List Value} {R : Value → (Addr → Value → Prop) → Prop} (hz : Sc Z E) (hg : Asks B E m Z f vs R) {a : Act} {w : World} (ok : Ok E n rs m a w) :
  Calls B.P f vs.toArray w fun e w' => ∃ v, e = .returned v ∧ Keep w w' [] ∧ R v (Cz Z ⟨w', blks m, E.defs⟩) := by
 have h := hg w (fun b => Z b ∧ b ∉ blks m) ok.has ok.keep (fun b hb => ⟨hz b (.inl (Nat.le_trans ok.keep.size hb)), fun hm => ?_⟩) (fun p x hp => ⟨hp.1.now ok.keep, hp.2, fun hm => ?_⟩)
 ·refine h.calls.mono ?_
  rintro e w' ⟨v, rfl, hk, hR⟩
  exact ⟨v, rfl, hk, h.mono v _ _ (fun p x hp => ⟨⟨hp.1, hp.2.2⟩, hp.2.1⟩) hR⟩
 ·obtain ⟨e, he, hl, rfl⟩ := mem_blks.1 hm
  have := ok.has.lt e he hl
  omega
 ·have hlt := cell_lt hp.1.1
  rcases own_at ok.own hm with h1 | h1
  ·omega
  ·exact hp.1.2 h1
theorem step_givesP {Z : Nat → Prop} {f : FuncId} {args : List Operand} {ats : Array TypeId} {vs : List Value} {R : Value → (Addr → Value → Prop) → Prop} {d : Nat} (hz : Sc Z E)
  (hc : chk all n rs ⟨dst, .call ⟨.value (.func f), args.toArray, ats⟩, ty, pos, aft, gd⟩ = some d)
  (hf : Fun B f) (hv : evs rs args = some vs) (hg : Asks B E m Z f vs R)
  (h : ∀ v E', Gt E E' → R v (Cz Z E') → WPl B E' n all rest ((d, v) :: rs) m K) :
  WPl B E n all (⟨dst, .call ⟨.value (.func f), args.toArray, ats⟩, ty, pos, aft, gd⟩ :: rest) rs m K := by
 refine ⟨fun Q hQ a w ok => ?_⟩
 obtain ⟨hw, hd, hdn⟩ := chk_ok hc
 unfold wpList
 rw [if_pos (wants_ok ok.regs hw)]
 left
 unfold Oper.wp
 rw [run_enter hf ok.regs hv]
 refine (asks_run hz hg ok).mono ?_
 rintro e w' ⟨v, rfl, hk, hR⟩
 have hd' : dst = some d := hd
 subst hd'
 have ok' : Ok E n ((d, v) :: rs) m (a.put (some d) v) w' := ⟨(put_size ..).trans ok.size, (put_defers ..).trans ok.defers, put_regs (d := some d) ok.size hdn ok.regs, hk.has ok.has, ok.own, ok.keep.trans hk (by simp)⟩
 exact (h v _ (at_gt ok.own ok'.keep) hR).run Q hQ _ _ (at_ok ok' (List.Sublist.refl _))
theorem anyN_mono {P : Program} {md : Region.Mode} {ops : Array Oper} {Q : Exit → Act → World → Prop} {G G' S : World → Prop} {needs : Nat → Bool} (hG : ∀ w, G' w → G w) :
  ∀ (fuel : Nat) (listed : Array Bool) (a : Act) (w : World), anyN P md ops Q G' S needs fuel listed a w → anyN P md ops Q G S needs fuel listed a w
 | 0, _, _, _, h => h
 | fuel + 1, listed, a, w, h => fun w2 hk => ⟨(h w2 hk).1, fun i hi => wpOp_mono (fun a' w' h' => ⟨hG _ h'.1, h'.2.1, anyN_mono hG fuel _ _ _ h'.2.2⟩) ((h w2 hk).2 i hi)⟩
theorem d_givesP {mS : Mem} {codes left : List Nat} {cd : Nat} {Z : Nat → Prop} {f : FuncId} {args : List Operand} {ats : Array TypeId} {vs : List Value} {R : Value → (Addr → Value → Prop) → Prop} {d : Nat} (hz : Sc Z E)
  (ho : opOf all cd = some ⟨dst, .call ⟨.value (.func f), args.toArray, ats⟩, ty, pos, aft, gd⟩) (hk : cKd cd = 2)
  (hc : chk all n rs ⟨dst, .call ⟨.value (.func f), args.toArray, ats⟩, ty, pos, aft, gd⟩ = some d)
  (hf : Fun B f) (hv : evs rs args = some vs) (hg : Asks B E m Z f vs R) (hn : needsOf codes (cIx cd) = cNd cd)
  (h : ∀ v E', Gt E E' → R v (Cz Z E') → WPd B E' n all mS codes left ((d, v) :: rs) m K) : WPd B E n all mS codes (cd :: left) rs m K := by
 refine ⟨fun Q hQ hsel hbm listed hp hcl a w ok => ?_⟩
 obtain ⟨hw, hd, hdn⟩ := chk_ok hc
 have hi : all.toArray[cIx cd]? = some ⟨dst, .call ⟨.value (.func f), args.toArray, ats⟩, ty, pos, aft, gd⟩ := by
  unfold opOf at ho
  rw [nth_eq] at ho
  simpa using ho
 simp only [planFrom, hk, Nat.beq_refl, cond_true, Bool.and_eq_true, decide_eq_true_eq] at hp
 obtain ⟨hr, hp'⟩ := hp
 refine anyN_only hr fun w2 hkp => ?_
 have ok2 := ok.grow hkp
 unfold Go.wpOp
 simp only [hi]
 rw [if_pos (wants_ok ok2.regs hw)]
 left
 unfold Oper.wp
 rw [run_enter hf ok2.regs hv]
 refine (asks_run hz hg ok2).mono ?_
 rintro e w' ⟨v, rfl, hkeep, hR⟩
 have hd' : dst = some d := hd
 subst hd'
 have ok3 : Ok E n ((d, v) :: rs) m (a.put (some d) v) w' := ⟨(put_size ..).trans ok2.size, (put_defers ..).trans ok2.defers, put_regs (d := some d) ok2.size hdn ok2.regs, hkeep.has ok2.has, ok2.own, ok2.keep.trans hkeep (by simp)⟩
 refine ⟨ok3.keep, fun _ hS => hkeep.has hS, anyN_mono (fun w h => ?_) _ _ _ _ ((h v _ (at_gt ok2.own ok3.keep) hR).run Q hQ hsel hbm _ hp' (hcl.set (by rw [hr]; simp)) _ _ (at_ok ok3 (List.Sublist.refl _)))⟩
 refine ok3.keep.trans h (fun x hx hlt => ?_)
 rcases own_at ok3.own hx with h1 | h1
 ·omega
 ·exact h1
/-! a function's beginning and end -/
abbrev endP (B : Tb) (fn : Func) (w : World) (Z : Nat → Prop) (R : Value → (Addr → Value → Prop) → Prop) : Exit → Act → World → Prop :=
 bodyPostM Fence.wide 9 B.P fn (fun e w' => ∃ v, e = .returned v ∧ Keep w w' [] ∧ R v (fun p x => w'.cell? p = some x ∧ Z p.block))
theorem givesP_of {f : FuncId} {fn : Func} {vs : List Value} {w : World} {Z : Nat → Prop} {R : Value → (Addr → Value → Prop) → Prop}
  (hf : B.P.funcs[f]? = some fn) (hb : fn.body = some c) (hn : fn.ntmps = n) (hl : Nat.ble vs.length n = true) (hZ : ∀ b, w.heap.size ≤ b → Z b)
  (mono : ∀ v (C C' : Addr → Value → Prop), (∀ p x, C p x → C' p x) → R v C → R v C')
  (h : On w Z ⟨w, [], []⟩ → WPs B ⟨w, [], []⟩ n c (argRs 0 vs) [] (endP B fn w Z R)) (hrn : B.rnd = none := by rfl) : GivesP B f vs w Z R :=
 ⟨mono, calls_sem hf hb hn hl (h (On.start hZ)) hrn⟩
theorem ends_givesP {fn : Func} {e : Exit} {v : Value} {a : Act} {w w' : World} {Z : Nat → Prop} {R : Value → (Addr → Value → Prop) → Prop} (on : On w Z E) (he : e = .normal ∨ e = .ret) (ok : Ok E n rs m a w')
  (hres : ResIs B fn rs m v) (mono : ∀ v (C C' : Addr → Value → Prop), (∀ p x, C p x → C' p x) → R v C → R v C') (hR : R v (Cz Z E)) : endP B fn w Z R e a w' :=
 ends_plain he ok on.defs hres ⟨v, rfl, (on.back _ _ _ _ _ ok).keep, mono v _ _ (fun p x hp => ⟨hp.1.now ok.keep, hp.2⟩) hR⟩
/-- The function ends with a plain value. -/
theorem gives_ofk {f : FuncId} {fn : Func} {vs : List Value} {w : World} {v : Value}
  (hf : B.P.funcs[f]? = some fn) (hb : fn.body = some c) (hn : fn.ntmps = n) (hl : Nat.ble vs.length n = true)
  (h : On w (fun _ => True) ⟨w, [], []⟩ → WPs B ⟨w, [], []⟩ n c (argRs 0 vs) [] (bodyPostM Fence.wide 9 B.P fn (fun e w' => e = .returned v ∧ Keep w w' []))) (hrn : B.rnd = none := by rfl) :
  Gives B f vs w v := ⟨calls_sem hf hb hn hl (h (On.start fun _ _ => trivial)) hrn⟩
theorem ends_k {fn : Func} {e : Exit} {v : Value} {a : Act} {w w' : World} {Z : Nat → Prop} (on : On w Z E) (he : e = .normal ∨ e = .ret) (ok : Ok E n rs m a w')
  (hres : ResIs B fn rs m v) : bodyPostM Fence.wide 9 B.P fn (fun e w' => e = .returned v ∧ Keep w w' []) e a w' := ends_gives he ok on.defs on.back hres
/-! ways that meet, loops -/
theorem s_meet {x : Code} (F : Rs) (G : Mem) (hx : WP B E n x rs m (thenQ (fun rs' m' => Less rs' m' F G) (overQ E n Qs))) (hy : ∀ a w, Ok E n F G a w → Qs .normal a w) : WPs B E n x rs m Qs :=
 s_wp (c_cut hx (fun e rs' m' h => by cases e <;> first | exact fun a w ok => hy a w (h.ok ok) | exact h))
theorem s_meetP {α : Type} {x : Code} (F : α → Rs) (G : α → Mem) (p : α → Env → Prop)
  (hx : WPs B E n x rs m (Exit.then (fun a w => ∃ z E1, p z E1 ∧ Gt E E1 ∧ Ok E1 n (F z) (G z) a w) Qs))
  (hy : ∀ z E1, p z E1 → Gt E E1 → ∀ a w, Ok E1 n (F z) (G z) a w → Qs .normal a w) : WPs B E n x rs m Qs := by
 refine ⟨fun a w ok => Go.wpIn_mono (hx.run a w ok) ?_⟩
 intro e a' w' hq
 cases e with
 | normal =>
  obtain ⟨z, E1, hp, hg, ok1⟩ := hq
  exact hy z E1 hp hg a' w' ok1
 | exit id => exact hq
 | goto l => exact hq
 | ret => exact hq
 | panic ch => exact hq
 | outgrown => exact hq
theorem s_loopP {α : Type} {body : Code} (F : α → Rs) (G : α → Mem) (p : α → Env → Prop) (μ : α → Nat) (x0 : α) (h0 : p x0 E) (hs : Less rs m (F x0) (G x0))
  (round : ∀ x E1, p x E1 → Gt E E1 → WPs B E1 n body (F x) (G x)
   (Exit.then (fun a' w' => ∃ y E2, p y E2 ∧ μ y < μ x ∧ Gt E1 E2 ∧ Ok E2 n (F y) (G y) a' w') Qs)) : WPs B E n (.loop body) rs m Qs := by
 refine s_loop (fun k a w => ∃ x E1, μ x = k ∧ p x E1 ∧ Gt E E1 ∧ Ok E1 n (F x) (G x) a w) (μ x0) (fun a w ok => ⟨x0, E, rfl, h0, Gt.refl E, hs.ok ok⟩) ?_
 rintro k a w ⟨x, E1, rfl, hp, hg, ok⟩
 refine Go.wpIn_mono ((round x E1 hp hg).run a w ok) ?_
 intro e a' w' hq
 cases e with
 | normal =>
  obtain ⟨y, E2, hp2, hlt, hg2, ok2⟩ := hq
  exact ⟨μ y, hlt, y, E2, rfl, hp2, hg.trans hg2, ok2⟩
 | exit id => exact hq
 | goto l => exact hq
 | ret => exact hq
 | panic ch => exact hq
 | outgrown => exact hq
end
end Go.Vc
