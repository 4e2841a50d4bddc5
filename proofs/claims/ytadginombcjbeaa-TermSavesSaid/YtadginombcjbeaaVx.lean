/- Callees that write one block of the caller's. -/
import Derived.Test.YtadginombcjbeaaVz
namespace Go.Vc
open Go.RowKit
set_option linter.unusedVariables false
theorem Has.setAt' {w w' : World} {i : Nat} {c : List Value} {e : Ent} (hl : e.cells ≠ []) : ∀ {m : Mem}, Has w m → nth m i = some e →
  (∀ b, b < w.heap.size → b ≠ e.blk → w'.heap[b]? = w.heap[b]?) → w'.heap[e.blk]? = some (.cells c.toArray e.elem (0, 0)) → Has w' (Vc.setAt m i c) := by
 induction i with
 | zero =>
  intro m h he ho hn
  cases m with
  | nil => cases he
  | cons x m =>
   have : x = e := Option.some.inj he
   subst this
   refine ⟨fun _ => hn, fun _ => h.2.1 hl, h.2.2.of_same fun y hy hyl => ho _ (lt_of_heap (h.2.2.cell hy hyl)) ?_⟩
   have key : ∀ m', apartFrom x.blk m' → y ∈ m' → x.blk ≠ y.blk := by
    intro m'
    induction m' with
    | nil => intro _ h; cases h
    | cons z m' ih =>
     intro h hm
     cases hm with
     | head => exact h.1 hyl
     | tail _ hm => exact ih h.2 hm
   exact (key _ (h.2.1 hl) hy).symm
 | succ i ih =>
  intro m h he ho hn
  cases m with
  | nil => cases he
  | cons x m =>
   refine ⟨fun hx => ?_, fun hx => apartFrom_setAt hl he (h.2.1 hx), ih h.2.2 he ho hn⟩
   have hc := h.1 hx
   have hem : e ∈ m := nth_mem (i := i) he
   have key : ∀ m', apartFrom x.blk m' → e ∈ m' → x.blk ≠ e.blk := by
    intro m'
    induction m' with
    | nil => intro _ h; cases h
    | cons z m' ih =>
     intro h hm
     cases hm with
     | head => exact h.1 hl
     | tail _ hm => exact ih h.2 hm
   rw [ho _ (lt_of_heap hc) (key _ (h.2.1 hx) hem)]
   exact hc
theorem setAt_mem {i : Nat} {c : List Value} {e : Ent} : ∀ {m : Mem} {y : Ent}, nth m i = some e → y ∈ setAt m i c → y ∈ m ∨ y.blk = e.blk := by
 induction i with
 | zero =>
  intro m y he hy
  cases m with
  | nil => cases hy
  | cons x m =>
   have : x = e := Option.some.inj he
   subst this
   cases hy with
   | head => exact .inr rfl
   | tail _ h => exact .inl (.tail _ h)
 | succ i ih =>
  intro m y he hy
  cases m with
  | nil => cases hy
  | cons x m =>
   cases hy with
   | head => exact .inl (.head _)
   | tail _ h =>
    rcases ih he h with h1 | h1
    ·exact .inl (.tail _ h1)
    ·exact .inr h1
theorem Has.front {w' : World} {m2 : Mem} (h2 : Has w' m2) {s : Nat} (hlt : ∀ y ∈ m2, y.cells ≠ [] → y.blk < s) : ∀ {m1 : Mem}, Has w' m1 → (∀ e ∈ m1, e.cells ≠ [] → s ≤ e.blk) → Has w' (m1 ++ m2) := by
 intro m1
 induction m1 with
 | nil => exact fun _ _ => h2
 | cons x m1 ih =>
  intro h1 h3
  refine ⟨h1.1, fun hx => apartFrom_append (h1.2.1 hx) (apartFrom_of fun y hy hl => ?_), ih h1.2.2 fun e he => h3 e (.tail _ he)⟩
  have := h3 x (.head _) hx
  have := hlt y hy hl
  omega
theorem Own.front {E : Env} {m2 : Mem} (h2 : Own E m2) : ∀ {m1 : Mem}, (∀ e ∈ m1, e.cells ≠ [] → E.w0.heap.size ≤ e.blk) → Own E (m1 ++ m2) := by
 intro m1
 induction m1 with
 | nil => exact fun _ => h2
 | cons x m1 ih => exact fun h => ⟨fun hx => .inl (h x (.head _) hx), ih fun e he => h e (.tail _ he)⟩
/-- The callee hands back a value, leaves other cells in this block, and new blocks; it writes nothing else that was there. -/
structure Wr (B : Tb) (f : FuncId) (vs : List Value) (w : World) (b T : Nat) (R : Value → List Value → Mem → Prop) : Prop where
 calls : Calls B.P f vs.toArray w fun e w' => ∃ v c' m1, e = .returned v ∧ R v c' m1 ∧ w'.heap[b]? = some (.cells c'.toArray T (0, 0)) ∧ Has w' m1 ∧ (∀ e ∈ m1, e.cells ≠ [] → w.heap.size ≤ e.blk) ∧ Keep w w' [b]
section x
variable {B : Tb} {E : Env} {n : Nat} {all rest : List Oper} {rs : Rs} {m : Mem} {K : Act → World → Prop}
variable {dst : Option Tmp} {ty : TypeId} {pos : String} {aft : Array Edge} {gd : Option (Nat × Bool)}
theorem has_last {w : World} {x : Ent} : ∀ {m1 : Mem}, Has w (m1 ++ [x]) → x.cells ≠ [] → ∀ e ∈ m1, e.cells ≠ [] → e.blk ≠ x.blk
 | [], _, _, e, he, _ => by cases he
 | y :: m1, h, hx, e, he, hl => by
  cases he with
  | head =>
   have key : ∀ m', apartFrom y.blk m' → x ∈ m' → y.blk ≠ x.blk := by
    intro m'
    induction m' with
    | nil => intro _ h; cases h
    | cons z m' ih =>
     intro h hm
     cases hm with
     | head => exact h.1 hx
     | tail _ hm => exact ih h.2 hm
   exact key _ (h.2.1 hl) (by simp)
  | tail _ he => exact has_last h.2.2 hx e he hl
theorem wr_of {f : FuncId} {fn : Func} {c : Code} {vs : List Value} {w : World} {b T : Nat} {c0 : List Value} {R : Value → List Value → Mem → Prop}
  (hf : B.P.funcs[f]? = some fn) (hb : fn.body = some c) (hn : fn.ntmps = n) (hl : Nat.ble vs.length n = true) (hc : w.heap[b]? = some (.cells c0.toArray T (0, 0)))
  (h : WP B ⟨w, [b], []⟩ n c (argRs 0 vs) [⟨b, c0, T⟩] (retQ B ⟨w, [b], []⟩ fn (fun u m => ∃ c' m1, (m1 ++ [⟨b, c', T⟩]).Sublist m ∧ c' ≠ [] ∧ R u c' m1))) (hrn : B.rnd = none := by rfl) : Wr B f vs w b T R := by
 refine ⟨(calls_of hf hb hn hl (m0 := [⟨b, c0, T⟩]) ⟨fun _ => hc, fun _ => trivial, trivial⟩ ⟨fun _ => .inr (by simp), trivial⟩ h hrn).mono ?_⟩
 rintro e w' ⟨u, m', rfl, ⟨c', m1, hs, hne, hR⟩, hh, ho, hk⟩
 have h1 := hh.sublist hs
 have h2 := ho.sublist hs
 refine ⟨u, c', m1, rfl, hR, h1.cell (e := ⟨b, c', T⟩) (by simp) hne, h1.sublist (List.sublist_append_left ..), fun e he hl => ?_, hk⟩
 rcases h2.at (List.mem_append_left _ he) hl with h3 | h3
 ·exact h3
 ·exact absurd (by simpa using h3) (has_last h1 hne e he hl)
theorem step_wr {f : FuncId} {args : List Operand} {ats : Array TypeId} {vs : List Value} {b T : Nat} {c0 : List Value} {R : Value → List Value → Mem → Prop} {d : Nat} (i : Nat)
  (hc : chk all n rs ⟨dst, .call ⟨.value (.func f), args.toArray, ats⟩, ty, pos, aft, gd⟩ = some d)
  (hf : Fun B f) (hv : evs rs args = some vs) (he : nth m i = some ⟨b, c0, T⟩) (hl : c0 ≠ [])
  (hg : ∀ w, Has w m → Keep E.w0 w E.ws → Wr B f vs w b T R)
  (h : ∀ v c' m1, R v c' m1 → WPl B E n all rest ((d, v) :: rs) (m1 ++ setAt m i c') K) :
  WPl B E n all (⟨dst, .call ⟨.value (.func f), args.toArray, ats⟩, ty, pos, aft, gd⟩ :: rest) rs m K := by
 refine ⟨fun Q hQ a w ok => ?_⟩
 refine (step_call (m := m) (K := K) hc hf hv (fun w hh hk => ?_)).run Q hQ a w ok
 refine (hg w hh hk).calls.mono ?_
 rintro e w' ⟨v, c', m1, rfl, hR, hcell, h1, h2, hkeep⟩
 have hown := ok.own.at (nth_mem he) hl
 have hs : Has w' (setAt m i c') := hh.setAt' hl he (fun k hk hkb => hkeep.block k hk (by simpa using hkb)) hcell
 refine ⟨v, m1 ++ setAt m i c', rfl, hs.front (s := w.heap.size) (fun y hy hyl => ?_) h1 h2, Own.front (ok.own.setAt hl he) (fun e he hl => Nat.le_trans hk.size (h2 e he hl)), ?_, h v c' m1 hR⟩
 ·rcases setAt_mem he hy with h3 | h3
  ·exact hh.lt _ h3 hyl
  ·rw [h3]
   exact hh.lt _ (nth_mem he) hl
 ·refine hk.trans hkeep fun x hx hlt => ?_
  have : x = b := by simpa using hx
  subst this
  rcases hown with h3 | h3
  ·exact absurd h3 (by show ¬ E.w0.heap.size ≤ x; omega)
  ·exact h3
theorem d_wr {mS : Mem} {codes left : List Nat} {c : Nat} {f : FuncId} {args : List Operand} {ats : Array TypeId} {vs : List Value} {b T : Nat} {c0 : List Value} {R : Value → List Value → Mem → Prop} {d : Nat} (i : Nat)
  (ho : opOf all c = some ⟨dst, .call ⟨.value (.func f), args.toArray, ats⟩, ty, pos, aft, gd⟩) (hkd : cKd c = 2)
  (hc : chk all n rs ⟨dst, .call ⟨.value (.func f), args.toArray, ats⟩, ty, pos, aft, gd⟩ = some d)
  (hf : Fun B f) (hv : evs rs args = some vs) (he : nth m i = some ⟨b, c0, T⟩) (hl : c0 ≠ [])
  (hg : ∀ w, Has w m → Keep E.w0 w E.ws → Wr B f vs w b T R)
  (hsub : ∀ v c' m1, R v c' m1 → SubMem (m1 ++ setAt m i c') mS) (hn : needsOf codes (cIx c) = cNd c)
  (h : ∀ v c' m1, R v c' m1 → WPd B E n all mS codes left ((d, v) :: rs) (m1 ++ setAt m i c') K) : WPd B E n all mS codes (c :: left) rs m K := by
 refine ⟨fun Q hQ hsel hbm listed hp hcl a w ok => ?_⟩
 obtain ⟨hw, hd, hdn⟩ := chk_ok hc
 have hi : all.toArray[cIx c]? = some ⟨dst, .call ⟨.value (.func f), args.toArray, ats⟩, ty, pos, aft, gd⟩ := by
  unfold opOf at ho
  rw [nth_eq] at ho
  simpa using ho
 simp only [planFrom, hkd, Nat.beq_refl, cond_true, Bool.and_eq_true, decide_eq_true_eq] at hp
 obtain ⟨hr, hp'⟩ := hp
 refine anyN_only hr fun w2 hkp => ?_
 have ok2 := ok.grow hkp
 have hrun : (execOp a.eval ⟨dst, .call ⟨.value (.func f), args.toArray, ats⟩, ty, pos, aft, gd⟩).run B.P w2 = .ok (.enter f vs.toArray) w2 := by
  have e1 : args.toArray.map a.eval = vs.toArray := by rw [List.map_toArray, evs_ok ok.regs hv]
  simp only [execOp, resolve, e1, Act.eval, Deferred.ofValue, Sem.run_bind, Sem.run_pure, Result.andThen_ok, invoke]
  have := hf vs.toArray w2
  simpa using this
 unfold Go.wpOp
 simp only [hi]
 rw [if_pos (wants_ok ok2.regs hw)]
 left
 unfold Oper.wp
 rw [hrun]
 refine (hg w2 ok2.has ok2.keep).calls.mono ?_
 rintro e w' ⟨v, c', m1, rfl, hR, hcell, h1, h2, hkeep⟩
 have hown := ok2.own.at (nth_mem he) hl
 have hs : Has w' (setAt m i c') := ok2.has.setAt' hl he (fun k hk hkb => hkeep.block k hk (by simpa using hkb)) hcell
 have hall : Has w' (m1 ++ setAt m i c') := hs.front (s := w2.heap.size) (fun y hy hyl => by
  rcases setAt_mem he hy with h3 | h3
  ·exact ok2.has.lt _ h3 hyl
  ·rw [h3]
   exact ok2.has.lt _ (nth_mem he) hl) h1 h2
 have ok3 : Ok E n ((d, v) :: rs) (m1 ++ setAt m i c') (a.put dst v) w' := by
  have hd' : dst = some d := hd
  rw [hd']
  refine ⟨(put_size ..).trans ok2.size, (put_defers ..).trans ok2.defers, put_regs (d := some d) ok2.size hdn ok2.regs, hall, Own.front (ok2.own.setAt hl he) (fun e he hl => Nat.le_trans ok2.keep.size (h2 e he hl)), ok2.keep.trans hkeep fun x hx hlt => ?_⟩
  have : x = b := by simpa using hx
  subst this
  rcases hown with h3 | h3
  ·exact absurd h3 (by show ¬ E.w0.heap.size ≤ x; omega)
  ·exact h3
 exact ⟨ok3.keep, fun _ hS => hsub v c' m1 hR _ hall, (h v c' m1 hR).run Q hQ hsel hbm _ hp' (hcl.set (by rw [hr]; simp)) _ _ ok3⟩
end x
end Go.Vc
