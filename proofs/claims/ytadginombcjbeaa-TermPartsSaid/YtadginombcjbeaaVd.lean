/- Regions that draw their order: what may be taken first is; one plan, checked by the kernel, serves every order. -/
import Derived.Test.YtadginombcjbeaaVc
import Derived.OrdersHeld
namespace Go.Vc
open Go.RowKit
set_option linter.unusedVariables false
section anyn
variable {P : Program} {md : Region.Mode} {ops : Array Oper} {Q : Exit → Act → World → Prop} {G S : World → Prop} {needs : Nat → Bool}
/-- Whatever order is picked from here on, from whatever world that has only grown. -/
def anyN (P : Program) (md : Region.Mode) (ops : Array Oper) (Q : Exit → Act → World → Prop) (G S : World → Prop) (needs : Nat → Bool) : Nat → Array Bool → Act → World → Prop
 | 0, listed, a, w => Region.ready md ops listed = [] ∧ ∀ w2, Keep w w2 [] → Q .normal a w2
 | fuel + 1, listed, a, w => ∀ w2, Keep w w2 [] →
  (Region.ready md ops listed = [] → Q .normal a w2) ∧
  ∀ i ∈ Region.ready md ops listed, wpOp P ops Q i (fun a' w' => G w' ∧ (needs i = true → S w2 → S w') ∧ anyN P md ops Q G S needs fuel (listed.setIfInBounds i true) a' w') a w2
theorem keep_trans {a b c : World} (h : Keep a b []) (k : Keep b c []) : Keep a c [] := h.trans k (by simp)
theorem anyN_sound : ∀ (fuel : Nat) (listed : Array Bool) (a : Act) (w : World), anyN P md ops Q G S needs fuel listed a w → wpAny P md ops Q fuel listed a w
 | 0, listed, a, w, h => ⟨h.1, h.2 w (Keep.refl w [])⟩
 | fuel + 1, listed, a, w, h => ⟨(h w (Keep.refl w [])).1, fun i hi => wpOp_mono (fun a' w' h' => anyN_sound fuel _ a' w' h'.2.2) ((h w (Keep.refl w [])).2 i hi)⟩
theorem anyN_keep {fuel : Nat} {listed : Array Bool} {a : Act} {w w' : World} (h : anyN P md ops Q G S needs fuel listed a w) (k : Keep w w' []) :
  anyN P md ops Q G S needs fuel listed a w' := by
 cases fuel with
 | zero => exact ⟨h.1, fun w2 hk => h.2 w2 (keep_trans k hk)⟩
 | succ fuel => exact fun w2 hk => h w2 (keep_trans k hk)
/-- The operation yields v in every world of the class: by itself, or by a callee that writes nothing that was there. -/
def QuietOp (P : Program) (C : World → Prop) (o : Oper) (a : Act) (v : Value) : Prop :=
 ∀ w, C w → ((execOp a.eval o).run P w = .ok (.value v) w ∨
  ∃ f args, (execOp a.eval o).run P w = .ok (.enter f args) w ∧ Calls P f args w fun e w' => e = .returned v ∧ Keep w w' [])
def Yq (P : Program) (ops : Array Oper) (C : World → Prop) (o : Oper) (v : Value) (a : Act) : Prop :=
 (Region.wanted o (yielded ops a.tmps) = true ∧ QuietOp P C o a v) ∨ (Region.wanted o (yielded ops a.tmps) = false ∧ v = undef)
theorem Yq.wpOp {C : World → Prop} {i : Nat} {o : Oper} {v : Value} {a : Act} (hi : ops[i]? = some o) (hy : Yq P ops C o v a) {K : Act → World → Prop} {w : World}
  (hC : C w) (h : ∀ w', Keep w w' [] → K (a.put o.dst v) w') : wpOp P ops Q i K a w := by
 unfold Go.wpOp
 simp only [hi]
 rcases hy with ⟨hw, hv⟩ | ⟨hw, rfl⟩
 ·simp only [hw, if_true, Oper.wp]
  left
  rcases hv w hC with hr | ⟨f, args, hr, hc⟩
  ·rw [hr]; exact h w (Keep.refl w [])
  ·rw [hr]
   refine hc.mono ?_
   rintro e w' ⟨rfl, hk⟩
   exact h w' hk
 ·simp only [hw, Bool.false_eq_true, if_false]; exact h w (Keep.refl w [])
theorem Yq.of_same {C : World → Prop} {o : Oper} {v : Value} {a a' : Act} (hy : Yq P ops C o v a) (he : execOp a'.eval o = execOp a.eval o)
  (hw : Region.wanted o (yielded ops a'.tmps) = Region.wanted o (yielded ops a.tmps)) : Yq P ops C o v a' := by
 unfold Yq QuietOp at *
 rw [he, hw]
 exact hy
theorem wpOp_putQ {C : World → Prop} {j : Nat} {oi oj : Oper} {v : Value} (hj : ops[j]? = some oj) (hap : oi.apart ops oj = true)
  (hsi : ∀ cs b, oi.op ≠ .select cs b) (hsj : ∀ cs b, oj.op ≠ .select cs b)
  (hQ : ∀ c a w, Q (.panic c) (a.put oi.dst v) w → Q (.panic c) a w) {K : Act → World → Prop} {a : Act} {w : World}
  (hy : Yq P ops C oi v a) (h : wpOp P ops Q j K (a.put oi.dst v) w) :
  wpOp P ops Q j (fun a' w' => Yq P ops C oi v a' ∧ K (a'.put oi.dst v) w') a w := by
 obtain ⟨h1, h2, h3⟩ := Oper.apart_spec hap
 have keep : ∀ (a : Act), Yq P ops C oi v a → ∀ u, Yq P ops C oi v (a.put oj.dst u) := fun a hy u =>
  hy.of_same (execOp_put oi hsi a oj.dst u h3) (wanted_put oi a oj.dst u h3)
 have keepD : ∀ d, Yq P ops C oi v { a with defers := d :: a.defers } := fun d => hy.of_same rfl rfl
 unfold wpOp at *
 simp only [hj] at *
 rw [wanted_put oj a oi.dst v h1] at h
 split
 ·rename_i hw
  simp only [hw, if_true] at h
  rcases h with h | ⟨hasks, hlets⟩
  case inr => exact .inr ⟨by unfold Oper.asks at *; rw [execOp_put oj hsj a oi.dst v h1] at hasks; exact hasks, hlets⟩
  refine .inl ?_
  unfold Oper.wp at *
  rw [execOp_put oj hsj a oi.dst v h1] at h
  generalize (execOp a.eval oj).run P w = r at *
  cases r with
  | ok n w' =>
   cases n <;> simp only [Oper.upon] at h ⊢
   case value u => exact ⟨keep a hy u, by rw [← Act.put_comm a v u h2]; exact h⟩
   case skip => exact ⟨keep a hy _, by rw [← Act.put_comm a v undef h2]; exact h⟩
   case defer d =>
    refine ⟨keep _ (keepD d) _, ?_⟩
    rw [← Act.put_comm _ v undef h2, ← Act.put_defers]
    exact h
   case enter f args =>
    refine Calls.mono h fun e w'' he => ?_
    cases e with
    | returned u => exact ⟨keep a hy u, by rw [← Act.put_comm a v u h2]; exact he⟩
    | panicked c => exact hQ _ _ _ he
    | outgrown => exact he
   case row row args => exact Rows.mono h fun u w'' he => ⟨keep a hy u, by rw [← Act.put_comm a v u h2]; exact he⟩
  | halt x w' =>
   cases x <;> simp only [Oper.upon] at h ⊢
   case panic u => exact hQ _ _ _ h
 ·rename_i hw
  simp only [hw] at h
  exact ⟨keep a hy _, by rw [← Act.put_comm a v undef h2]; exact h⟩
/-- What waits, by way of others too: a mask a number. -/
def maskOk (md : Region.Mode) (ops : Array Oper) (bm : Nat → Nat) : Prop :=
 ∀ j i, (bm j).testBit i = true → ∃ oj, ops[j]? = some oj ∧ ∃ e ∈ oj.after, Region.binds md e = true ∧ e.on < j ∧ (e.on = i ∨ (bm e.on).testBit i = true)
/-- Whatever has come up, all that it waits for has. -/
def Closed (md : Region.Mode) (ops : Array Oper) (listed : Array Bool) : Prop :=
 ∀ j oj, ops[j]? = some oj → listed.getD j false = true → ∀ e ∈ oj.after, Region.binds md e = true → listed.getD e.on false = true
theorem closed_mask {bm : Nat → Nat} {listed : Array Bool} (hb : maskOk md ops bm) (hc : Closed md ops listed) : ∀ j i,
  (∀ oj, ops[j]? = some oj → ∀ e ∈ oj.after, Region.binds md e = true → listed.getD e.on false = true) → (bm j).testBit i = true → listed.getD i false = true := by
 intro j
 induction j using Nat.strongRecOn with
 | _ j ih =>
  intro i hj ht
  obtain ⟨oj, ho, e, he, hbd, hlt, hor⟩ := hb j i ht
  have hl := hj oj ho e he hbd
  rcases hor with rfl | hor
  ·exact hl
  ·exact ih e.on hlt i (fun o2 ho2 e2 he2 hb2 => hc _ _ ho2 hl e2 he2 hb2) hor
theorem getD_false_of {listed : Array Bool} {i : Nat} (h : listed.getD i true = false) : listed.getD i false = false := by
 rcases Nat.lt_or_ge i listed.size with h' | h'
 ·simp [h'] at h ⊢; exact h
 ·simp [Array.getElem?_eq_none h'] at h
theorem Closed.set {listed : Array Bool} (hc : Closed md ops listed) {i : Nat} (hi : i ∈ Region.ready md ops listed) : Closed md ops (listed.setIfInBounds i true) := by
 obtain ⟨h0, o, ho, hall⟩ := mem_ready.1 hi
 intro j oj hj hl e he hb
 refine getD_set_true ?_
 by_cases hij : i = j
 ·subst hij
  rw [ho] at hj
  cases hj
  exact hall e he hb
 ·rw [getD_set_ne false hij] at hl
  exact hc j oj hj hl e he hb
/-- What may come up now and is quiet may be taken first. -/
theorem anyN_first {bm : Nat → Nat} (hbm : maskOk md ops bm) {i : Nat} {oi : Oper} {v : Value} (b : Bool) {C : World → Prop} (hCd : C = fun w => G w ∧ (b = true → S w))
  (hG : ∀ w w', Keep w w' [] → G w → G w') (hS : ∀ w w', Keep w w' [] → S w → S w')
  (hi : ops[i]? = some oi) (hsel : ∀ (j : Nat) (o : Oper) cs b, ops[j]? = some o → o.op ≠ .select cs b)
  (hQ : ∀ c a w, Q (.panic c) (a.put oi.dst v) w → Q (.panic c) a w) :
  ∀ (fuel : Nat) (listed : Array Bool) (a : Act) (w : World), Closed md ops listed →
   (∀ j oj, ops[j]? = some oj → j ≠ i → listed.getD j true = false → (bm j).testBit i = false → oi.apart ops oj = true ∧ (b = true → needs j = true)) →
   i ∈ Region.ready md ops listed → Yq P ops C oi v a → C w →
   anyN P md ops Q G S needs fuel (listed.setIfInBounds i true) (a.put oi.dst v) w → anyN P md ops Q G S needs (fuel + 1) listed a w := by
 have hCk : ∀ w w', Keep w w' [] → C w → C w' := by
  subst hCd
  exact fun w w' k h => ⟨hG _ _ k h.1, fun hb => hS _ _ k (h.2 hb)⟩
 have hCG : ∀ w, C w → G w := by subst hCd; exact fun w h => h.1
 intro fuel
 induction fuel with
 | zero =>
  intro listed a w hcl hfree hr hy hC H w2 hk
  have hC2 := hCk _ _ hk hC
  refine ⟨fun h => (by rw [h] at hr; cases hr), fun j hj => ?_⟩
  by_cases hji : j = i
  ·subst hji
   exact hy.wpOp hi hC2 (fun w' hk' => ⟨hG _ _ hk' (hCG _ hC2), fun _ hs => hS _ _ hk' hs, anyN_keep H (keep_trans hk hk')⟩)
  ·have := ready_mono hj hji
   rw [H.1] at this
   cases this
 | succ fuel ih =>
  intro listed a w hcl hfree hr hy hC H w2 hk
  have hC2 := hCk _ _ hk hC
  refine ⟨fun h => (by rw [h] at hr; cases hr), fun j hj => ?_⟩
  by_cases hji : j = i
  ·subst hji
   exact hy.wpOp hi hC2 (fun w' hk' => ⟨hG _ _ hk' (hCG _ hC2), fun _ hs => hS _ _ hk' hs, anyN_keep H (keep_trans hk hk')⟩)
  ·have h1 := (H w2 hk).2 j (ready_mono hj hji)
   obtain ⟨hjun, oj, hoj, hall⟩ := mem_ready.1 hj
   have hnot : (bm j).testBit i = false := by
    cases ht : (bm j).testBit i with
    | false => rfl
    | true =>
     have h2 := closed_mask hbm hcl j i (fun o2 ho2 e he hb => by rw [hoj] at ho2; cases ho2; exact hall e he hb) ht
     have h3 := getD_false_of (mem_ready.1 hr).1
     rw [h2] at h3
     cases h3
   obtain ⟨hap, hneed⟩ := hfree j oj hoj hji hjun hnot
   have h2 := wpOp_putQ hoj hap (fun cs b => hsel i oi cs b hi) (fun cs b => hsel j oj cs b hoj) hQ hy h1
   have hfree' : ∀ k ok, ops[k]? = some ok → k ≠ i → (listed.setIfInBounds j true).getD k true = false →
     (bm k).testBit i = false → oi.apart ops ok = true ∧ (b = true → needs k = true) := fun k ok hk hki hun hno => by
    refine hfree k ok hk hki ?_ hno
    by_cases hjk : j = k
    ·subst hjk; exact hjun
    ·rw [getD_set_ne true hjk] at hun; exact hun
   refine wpOp_mono (fun a' w' h3 => ⟨h3.2.1, h3.2.2.1, ih (listed.setIfInBounds j true) a' w' (hcl.set hj) hfree' (ready_mono hr (Ne.symm hji)) h3.1 ?_ ?_⟩) h2
   ·subst hCd
    exact ⟨h3.2.1, fun hb => h3.2.2.1 (hneed hb) (hC2.2 hb)⟩
   ·rw [Array.setIfInBounds_comm _ _ hji]
    exact h3.2.2.2
/-- What alone may come up. -/
theorem anyN_only {i : Nat} {fuel : Nat} {listed : Array Bool} {a : Act} {w : World} (hr : Region.ready md ops listed = [i])
  (h : ∀ w2, Keep w w2 [] → wpOp P ops Q i (fun a' w' => G w' ∧ (needs i = true → S w2 → S w') ∧ anyN P md ops Q G S needs fuel (listed.setIfInBounds i true) a' w') a w2) :
  anyN P md ops Q G S needs (fuel + 1) listed a w := by
 intro w2 hk
 refine ⟨fun h0 => (by rw [hr] at h0; cases h0), fun j hj => ?_⟩
 rw [hr] at hj
 have : j = i := by simpa using hj
 subst this
 exact h w2 hk
theorem anyN_done {listed : Array Bool} {a : Act} {w : World} (hr : Region.ready md ops listed = []) (h : ∀ w2, Keep w w2 [] → Q .normal a w2) :
  anyN P md ops Q G S needs 0 listed a w := ⟨hr, h⟩
end anyn
/-! ### the plan: a number an operation: its place (times 8), its kind (times 2: 0 looks at registers alone, 1 reads memory, 2 is taken when it alone may come up), whether it keeps what is read -/
def cIx (c : Nat) : Nat := Nat.div c 8
def cKd (c : Nat) : Nat := Nat.div (Nat.mod c 8) 2
def cNd (c : Nat) : Bool := Nat.beq (Nat.mod c 2) 1
def needsOf : List Nat → Nat → Bool
 | [], _ => false
 | c :: r, j => bif Nat.beq (cIx c) j then cNd c else needsOf r j
def bmOf (all : List Oper) : List Nat := (Region.before all.toArray).toList
def bmAt (bm : List Nat) (j : Nat) : Nat := bm.getD j 0
def maskB (ops : Array Oper) (bm : List Nat) : Bool :=
 (List.range bm.length).all fun j => Nat.blt (bmAt bm j) (2 ^ ops.size) && (List.range ops.size).all fun i =>
  !(bmAt bm j).testBit i || match ops[j]? with
   | some oj => oj.after.any fun e => Region.binds .any e && (Nat.blt e.on j && (Nat.beq e.on i || (bmAt bm e.on).testBit i))
   | none => false
theorem maskB_ok {ops : Array Oper} {bm : List Nat} (h : maskB ops bm = true) : maskOk .any ops (bmAt bm) := by
 intro j i ht
 simp only [maskB, List.all_eq_true, List.mem_range, Bool.and_eq_true] at h
 have hj : j < bm.length := by
  rcases Nat.lt_or_ge j bm.length with h' | h'
  ·exact h'
  ·simp [bmAt, List.getElem?_eq_none h'] at ht
 obtain ⟨h1, h2⟩ := h j hj
 have hi : i < ops.size := by
  rcases Nat.lt_or_ge i ops.size with h' | h'
  ·exact h'
  ·have h3 : bmAt bm j < 2 ^ ops.size := Nat.le_of_ble_eq_true h1
   have h4 : bmAt bm j < 2 ^ i := Nat.lt_of_lt_of_le h3 (Nat.pow_le_pow_right (by decide) h')
   rw [Nat.testBit_lt_two_pow h4] at ht
   cases ht
 have h3 := h2 i hi
 rw [ht] at h3
 simp only [Bool.not_true, Bool.false_or] at h3
 cases ho : ops[j]? with
 | none => rw [ho] at h3; cases h3
 | some oj =>
  rw [ho] at h3
  obtain ⟨e, he, hb⟩ := Array.any_eq_true'.1 h3
  simp only [Bool.and_eq_true, Bool.or_eq_true] at hb
  refine ⟨oj, rfl, e, he, hb.1, Nat.le_of_ble_eq_true hb.2.1, ?_⟩
  rcases hb.2.2 with h | h
  ·exact .inl (Nat.eq_of_beq_eq_true h)
  ·exact .inr h
def freeN (ops : Array Oper) (bm : List Nat) (needs : Nat → Bool) (b : Bool) (listed : Array Bool) (i : Nat) : Bool :=
 match ops[i]? with
 | none => false
 | some oi => (List.range ops.size).all fun j => Nat.beq j i || (listed.getD j true || ((bmAt bm j).testBit i || match ops[j]? with
   | some oj => oi.apart ops oj && (!b || needs j)
   | none => true))
theorem freeN_ok {ops : Array Oper} {bm : List Nat} {needs : Nat → Bool} {b : Bool} {listed : Array Bool} {i : Nat} {oi : Oper} (hi : ops[i]? = some oi)
  (h : freeN ops bm needs b listed i = true) (j : Nat) (oj : Oper) (hj : ops[j]? = some oj) (hne : j ≠ i) (hun : listed.getD j true = false)
  (hno : (bmAt bm j).testBit i = false) : oi.apart ops oj = true ∧ (b = true → needs j = true) := by
 simp only [freeN, hi, List.all_eq_true, List.mem_range] at h
 have h1 := h j (Array.getElem?_eq_some_iff.1 hj).1
 have hb : Nat.beq j i = false := by
  cases hb : Nat.beq j i with
  | false => rfl
  | true => exact absurd (Nat.eq_of_beq_eq_true hb) hne
 simp only [hb, hun, hno, hj, Bool.false_or, Bool.and_eq_true] at h1
 refine ⟨h1.1, fun hb => ?_⟩
 have := h1.2
 rw [hb] at this
 simpa using this
def planFrom (ops : Array Oper) (bm : List Nat) (needs : Nat → Bool) : List Nat → Array Bool → Bool
 | [], listed => (Region.ready .any ops listed).isEmpty
 | c :: rest, listed =>
  (bif Nat.beq (cKd c) 2 then decide (Region.ready .any ops listed = [cIx c])
   else (Region.ready .any ops listed).contains (cIx c) && freeN ops bm needs (Nat.beq (cKd c) 1) listed (cIx c)) &&
  planFrom ops bm needs rest (listed.setIfInBounds (cIx c) true)
def planB (all : List Oper) (codes : List Nat) : Bool :=
 Region.noSelect all.toArray && (maskB all.toArray (bmOf all) && (Nat.beq codes.length all.length && planFrom all.toArray (bmOf all) (needsOf codes) codes (Array.replicate all.length false)))
def SubMem (m mS : Mem) : Prop := ∀ w, Has w m → Has w mS
theorem SubMem.refl (m : Mem) : SubMem m m := fun _ h => h
theorem SubMem.cons {e : Ent} {m mS : Mem} (h : SubMem m mS) : SubMem (e :: m) mS := fun w hw => h w hw.2.2
/-- What is left of a plan, from what is known. -/
structure WPd (B : Tb) (E : Env) (n : Nat) (all : List Oper) (mS : Mem) (codes : List Nat) (rest : List Nat) (rs : Rs) (m : Mem) (K : Act → World → Prop) : Prop where
 run : ∀ (Q : Act → World → Prop), (∀ a w, K a w → Q a w) → Region.noSelect all.toArray = true → maskOk .any all.toArray (bmAt (bmOf all)) →
  ∀ listed, planFrom all.toArray (bmOf all) (needsOf codes) rest listed = true → Closed .any all.toArray listed → ∀ a w, Ok E n rs m a w →
   anyN B.P .any all.toArray (nq Q) (fun w => Keep E.w0 w E.ws) (fun w => Has w mS) (needsOf codes) rest.length listed a w
section d
variable {B : Tb} {E : Env} {n : Nat} {all : List Oper} {mS m : Mem} {codes rest : List Nat} {c : Nat} {o : Oper} {rs : Rs} {K : Act → World → Prop}
theorem Ok.grow {a : Act} {w w' : World} (ok : Ok E n rs m a w) (k : Keep w w' []) : Ok E n rs m a w' :=
 ⟨ok.size, ok.defers, ok.regs, k.has ok.has, ok.own, ok.keep.trans k (by simp)⟩
theorem getD_replicate {k j : Nat} : (Array.replicate k false).getD j false = false := by
 rw [Array.getD_eq_getD_getElem?]
 rcases Nat.lt_or_ge j k with h | h
 ·simp [h]
 ·simp [h]
theorem d_region {id : Nat} {Q : Post} (codes : List Nat) (hm : B.P.follows .mixedOrders = true) (hp : planB all codes = true)
  (h : WPd B E n all m codes codes rs m (KK E n (fun rs m => Q .normal rs m))) (hd : noDef all = true := by rfl) : WP B E n (.region id all.toArray true) rs m Q := by
 refine ⟨fun a w ok => ?_⟩
 simp only [planB, Bool.and_eq_true] at hp
 obtain ⟨h1, h2, h3, h4⟩ := hp
 have hlen : codes.length = all.toArray.size := by rw [List.size_toArray]; exact Nat.eq_of_beq_eq_true h3
 refine Go.wpIn_mono (Q := nq (lift E n Q .normal)) (wpIn_region_any hm (any_in nq_in (fun o ho => noDef_ok hd o (by simpa using ho)) _ _ _ _ (anyN_sound (G := fun w => Keep E.w0 w E.ws) (S := fun w => Has w m) (needs := needsOf codes) _ _ _ _ ?_))) ?_
 ·have hcl : Closed .any all.toArray (Array.replicate all.length false) := by
   intro j oj hj hl
   rw [getD_replicate] at hl
   cases hl
  have := h.run (lift E n Q .normal) (fun a w ⟨rs, m, ok, hk⟩ => ⟨rs, m, ok, hk⟩) h1 (maskB_ok h2) _ h4 hcl a { w with drawn := w.drawn + 1 }
   ⟨ok.size, ok.defers, ok.regs, ok.has.of_same (fun _ _ _ => rfl), ok.own, ok.keep.drew⟩
  rw [hlen] at this
  simpa using this
 ·intro e a w hq
  cases e <;> first | exact hq | exact hq.elim
theorem d_nil {Q : Rs → Mem → Prop} (h : Q rs m) : WPd B E n all mS codes [] rs m (KK E n Q) :=
 ⟨fun R hR _ _ listed hp _ a w ok => ⟨by simpa [planFrom] using hp, fun w2 hk => hR _ _ ⟨rs, m, ok.grow hk, h⟩⟩⟩
theorem d_end (h : ∀ a w, Ok E n rs m a w → K a w) : WPd B E n all mS codes [] rs m K :=
 ⟨fun R hR _ _ listed hp _ a w ok => ⟨by simpa [planFrom] using hp, fun w2 hk => hR _ _ (h a w2 (ok.grow hk))⟩⟩
/-- Which operation a code names. -/
def opOf (all : List Oper) (c : Nat) : Option Oper := nth all (cIx c)
theorem d_quiet {v : Value} {d : Nat} {k : Nat} (ho : opOf all c = some o) (hk : cKd c = k) (hk2 : Nat.beq k 2 = false) {C : World → Prop}
  (hy : ∀ a, Regs rs a → (Nat.beq k 1 = true → SubMem m mS) → Yq B.P all.toArray (fun w => Keep E.w0 w E.ws ∧ (Nat.beq k 1 = true → Has w mS)) o v a)
  (hs : Nat.beq k 1 = true → SubMem m mS) (hd : o.dst = some d) (hdn : dOk n (some d) = true)
  (h : WPd B E n all mS codes rest ((d, v) :: rs) m K) : WPd B E n all mS codes (c :: rest) rs m K := by
 refine ⟨fun Q hQ hsel hbm listed hp hcl a w ok => ?_⟩
 have hi : all.toArray[cIx c]? = some o := by
  unfold opOf at ho
  rw [nth_eq] at ho
  simpa using ho
 simp only [planFrom, hk, hk2, cond_false, Bool.and_eq_true] at hp
 obtain ⟨⟨hr, hf⟩, hp'⟩ := hp
 have hr' : cIx c ∈ Region.ready .any all.toArray listed := by simpa using hr
 have ok' : Ok E n ((d, v) :: rs) m (a.put o.dst v) w := by
  rw [hd]
  exact ⟨(put_size ..).trans ok.size, (put_defers ..).trans ok.defers, put_regs (d := some d) ok.size hdn ok.regs, ok.has, ok.own, ok.keep⟩
 exact anyN_first hbm (Nat.beq k 1) rfl (fun w w' k h => h.trans k (by simp)) (fun w w' k h => k.has h) hi (Region.noSelect_spec hsel) (fun _ _ _ h => h)
  rest.length listed a w hcl (freeN_ok hi hf) hr' (hy a ok.regs hs) ⟨ok.keep, fun hb => hs hb w ok.has⟩
  (h.run Q hQ hsel hbm _ hp' (hcl.set hr') _ _ ok')
theorem d_pure0 {v : Value} {d : Nat} (ho : opOf all c = some o) (hk : cKd c = 0) (hc : chk all n rs o = some d) (hv : Pure B E rs [] o v)
  (h : WPd B E n all mS codes rest ((d, v) :: rs) m K) : WPd B E n all mS codes (c :: rest) rs m K := by
 obtain ⟨hw, hd, hdn⟩ := chk_ok hc
 refine d_quiet (C := fun _ => True) ho hk rfl (fun a hr _ => .inl ⟨wants_ok hr hw, fun w hC => .inl (hv.run a w hr trivial hC.1)⟩) (fun h => by cases h) hd hdn h
theorem d_pure1 {v : Value} {d : Nat} (ho : opOf all c = some o) (hk : cKd c = 1) (hc : chk all n rs o = some d) (hv : Pure B E rs mS o v) (hs : SubMem m mS)
  (h : WPd B E n all mS codes rest ((d, v) :: rs) m K) : WPd B E n all mS codes (c :: rest) rs m K := by
 obtain ⟨hw, hd, hdn⟩ := chk_ok hc
 refine d_quiet (C := fun _ => True) ho hk rfl (fun a hr _ => .inl ⟨wants_ok hr hw, fun w hC => .inl (hv.run a w hr (hC.2 rfl) hC.1)⟩) (fun _ => hs) hd hdn h
/-- The same, its value told otherwise. -/
theorem d_as0 {v v' : Value} {d : Nat} (ho : opOf all c = some o) (hk : cKd c = 0) (hc : chk all n rs o = some d) (hv : Pure B E rs [] o v) (he : v = v')
  (h : WPd B E n all mS codes rest ((d, v') :: rs) m K) : WPd B E n all mS codes (c :: rest) rs m K := d_pure0 ho hk hc hv (by rw [he]; exact h)
theorem d_as1 {v v' : Value} {d : Nat} (ho : opOf all c = some o) (hk : cKd c = 1) (hc : chk all n rs o = some d) (hv : Pure B E rs mS o v) (hs : SubMem m mS) (he : v = v')
  (h : WPd B E n all mS codes rest ((d, v') :: rs) m K) : WPd B E n all mS codes (c :: rest) rs m K := d_pure1 ho hk hc hv hs (by rw [he]; exact h)
theorem d_pass {d : Nat} {k : Nat} (ho : opOf all c = some o) (hk : cKd c = k) (hk2 : Nat.beq k 2 = false) (hs : Nat.beq k 1 = true → SubMem m mS)
  (hw : wants all rs o = some false) (hd : o.dst = some d) (hdn : Nat.blt d n = true)
  (h : WPd B E n all mS codes rest ((d, undef) :: rs) m K) : WPd B E n all mS codes (c :: rest) rs m K :=
 d_quiet (C := fun _ => True) ho hk hk2 (fun a hr _ => .inr ⟨wants_ok hr hw, rfl⟩) hs hd hdn h
variable {dst : Option Tmp} {ty : TypeId} {pos : String} {aft : Array Edge} {gd : Option (Nat × Bool)}
theorem d_gives {f : FuncId} {args : List Operand} {ats : Array TypeId} {vs : List Value} {v : Value} {d : Nat}
  (ho : opOf all c = some ⟨dst, .call ⟨.value (.func f), args.toArray, ats⟩, ty, pos, aft, gd⟩) (hk : cKd c = 1)
  (hc : chk all n rs ⟨dst, .call ⟨.value (.func f), args.toArray, ats⟩, ty, pos, aft, gd⟩ = some d)
  (hf : Fun B f) (hv : evs rs args = some vs) (hg : ∀ w, Has w mS → Keep E.w0 w E.ws → Gives B f vs w v) (hs : SubMem m mS)
  (h : WPd B E n all mS codes rest ((d, v) :: rs) m K) : WPd B E n all mS codes (c :: rest) rs m K := by
 obtain ⟨hw, hd, hdn⟩ := chk_ok hc
 refine d_quiet (C := fun _ => True) ho hk rfl (fun a hr _ => .inl ⟨wants_ok hr hw, fun w hC => .inr ⟨f, vs.toArray, ?_, (hg w (hC.2 rfl) hC.1).calls⟩⟩) (fun _ => hs) hd hdn h
 have e1 : args.toArray.map a.eval = vs.toArray := by rw [List.map_toArray, evs_ok hr hv]
 simp only [execOp, resolve, e1, Act.eval, Deferred.ofValue, Sem.run_bind, Sem.run_pure, Result.andThen_ok, invoke]
 have := hf vs.toArray w
 simpa using this
/-- It alone may come up. -/
theorem d_only {R : Value → Mem → Prop} (ho : opOf all c = some o) (hk : cKd c = 2) (hw : wants all rs o = some true) (hd : dOk n o.dst = true) (he : Eff B E rs m o R)
  (h : ∀ v m', R v m' → (cNd c = true → SubMem m' mS) ∧ WPd B E n all mS codes rest (put rs o.dst v) m' K) (hn : needsOf codes (cIx c) = cNd c) :
  WPd B E n all mS codes (c :: rest) rs m K := by
 refine ⟨fun Q hQ hsel hbm listed hp hcl a w ok => ?_⟩
 have hi : all.toArray[cIx c]? = some o := by
  unfold opOf at ho
  rw [nth_eq] at ho
  simpa using ho
 simp only [planFrom, hk, Nat.beq_refl, cond_true, Bool.and_eq_true, decide_eq_true_eq] at hp
 obtain ⟨hr, hp'⟩ := hp
 refine anyN_only hr fun w2 hkp => ?_
 have ok2 := ok.grow hkp
 obtain ⟨x, w', v, m', hrun, hx, h1, h2, h3, hR⟩ := he.run a w2 ok2.regs ok2.has ok2.own ok2.keep
 obtain ⟨hsub, hrest⟩ := h v m' hR
 have ok3 : Ok E n (put rs o.dst v) m' (a.put o.dst v) w' := ⟨(put_size ..).trans ok2.size, (put_defers ..).trans ok2.defers, put_regs ok2.size hd ok2.regs, h1, h2, h3⟩
 have fin := hrest.run Q hQ hsel hbm _ hp' (hcl.set (by rw [hr]; simp)) _ _ ok3
 unfold Go.wpOp
 simp only [hi]
 rw [if_pos (wants_ok ok2.regs hw)]
 left
 unfold Oper.wp
 rw [hrun]
 have key : Keep E.w0 w' E.ws ∧ (needsOf codes (cIx c) = true → Has w2 mS → Has w' mS) ∧
   anyN B.P .any all.toArray (nq Q) (fun w => Keep E.w0 w E.ws) (fun w => Has w mS) (needsOf codes) rest.length (listed.setIfInBounds (cIx c) true) (a.put o.dst v) w' :=
  ⟨h3, fun hb _ => hsub (by rw [← hn]; exact hb) w' h1, fin⟩
 rcases hx with rfl | ⟨rfl, rfl⟩
 ·exact key
 ·exact key
theorem d_only_pure {v : Value} {d : Nat} (ho : opOf all c = some o) (hk : cKd c = 2) (hc : chk all n rs o = some d) (hv : Pure B E rs m o v)
  (hs : cNd c = true → SubMem m mS) (hn : needsOf codes (cIx c) = cNd c)
  (h : WPd B E n all mS codes rest ((d, v) :: rs) m K) : WPd B E n all mS codes (c :: rest) rs m K := by
 obtain ⟨hw, hd, hdn⟩ := chk_ok hc
 refine d_only (R := fun u m' => u = v ∧ m' = m) ho hk hw (by rw [hd]; exact hdn) ⟨fun a w hr hh ho2 hkp => ⟨_, w, v, m, hv.run a w hr hh hkp, .inl rfl, hh, ho2, hkp, rfl, rfl⟩⟩ ?_ hn
 rintro u m' ⟨rfl, rfl⟩
 rw [hd]
 exact ⟨hs, h⟩
theorem d_new {cl : List Value} {t : TypeId} {d : Nat} (ho : opOf all c = some o) (hk : cKd c = 2) (hc : chk all n rs o = some d)
  (hrun : ∀ a w, Regs rs a → Has w m → Keep E.w0 w E.ws →
   (execOp a.eval o).run B.P w = .ok (.value (.pointer (some ⟨w.heap.size, 0, none⟩))) (w.alloc (.cells cl.toArray t)))
  (hs : SubMem m mS) (hn : needsOf codes (cIx c) = cNd c)
  (h : ∀ b, WPd B E n all mS codes rest ((d, .pointer (some ⟨b, 0, none⟩)) :: rs) (⟨b, cl, t⟩ :: m) K) : WPd B E n all mS codes (c :: rest) rs m K := by
 obtain ⟨h1, h2, h3⟩ := chk_ok hc
 refine d_only ho hk h1 (by rw [h2]; exact h3) (eff_new hrun) ?_ hn
 rintro v m' ⟨b, rfl, rfl⟩
 rw [h2]
 exact ⟨fun _ => hs.cons, h b⟩
theorem d_alloc {T : TypeId} {cl : List Value} {d : Nat} (ho : opOf all c = some ⟨dst, .alloc T, ty, pos, aft, gd⟩) (hk : cKd c = 2)
  (hc : chk all n rs ⟨dst, .alloc T, ty, pos, aft, gd⟩ = some d) (hz : ZeroIs B T cl) (hs : SubMem m mS) (hn : needsOf codes (cIx c) = cNd c)
  (h : ∀ b, WPd B E n all mS codes rest ((d, .pointer (some ⟨b, 0, none⟩)) :: rs) (⟨b, cl, T⟩ :: m) K) : WPd B E n all mS codes (c :: rest) rs m K :=
 d_new ho hk hc (fun _ _ _ _ _ => run_new hz) hs hn h
theorem d_store {T : TypeId} {x y : Operand} {b off : Nat} {e : Ent} {d : Ty} {v : Value} {cl : List Value} (i : Nat)
  (ho : opOf all c = some ⟨none, .store T x y, ty, pos, aft, gd⟩) (hk : cKd c = 2)
  (hw : wants all rs ⟨none, .store T x y, ty, pos, aft, gd⟩ = some true)
  (hx : ev rs x = some (.pointer (some ⟨b, off, none⟩))) (hy : ev rs y = some v) (hv : v.oneCell' = true) (hT : B.ty T = some d)
  (hs : d.size = 1) (he : nth m i = some e) (hb : e.blk = b) (hl : off < e.cells.length) (hc : e.cells.set off v = cl)
  (hn : needsOf codes (cIx c) = cNd c) (hnd : cNd c = false)
  (h : WPd B E n all mS codes rest rs (setAt m i cl) K) : WPd B E n all mS codes (c :: rest) rs m K := by
 refine d_only ho hk hw rfl (eff_store (vs := [v]) (c := cl) hx hy (by cases v <;> first | rfl | cases hv) hT (by simp [hs]) (by simpa using hv) he hb (by omega) ?_) ?_ hn
 ·rw [splice_one hl, hc]
 ·rintro v' m' ⟨rfl, rfl⟩; exact ⟨fun h => (by rw [hnd] at h; cases h), h⟩
theorem d_store_agg {T : TypeId} {x y : Operand} {b off : Nat} {e : Ent} {d : Ty} {vs : List Value} {cl : List Value} (i : Nat)
  (ho : opOf all c = some ⟨none, .store T x y, ty, pos, aft, gd⟩) (hk : cKd c = 2)
  (hw : wants all rs ⟨none, .store T x y, ty, pos, aft, gd⟩ = some true)
  (hx : ev rs x = some (.pointer (some ⟨b, off, none⟩))) (hy : ev rs y = some (.agg vs.toArray)) (hv : ∀ v ∈ vs, v.oneCell' = true) (hT : B.ty T = some d)
  (hs : vs.length = d.size) (he : nth m i = some e) (hb : e.blk = b) (hl : off + d.size ≤ e.cells.length) (hc : splice e.cells off vs = cl)
  (hn : needsOf codes (cIx c) = cNd c) (hnd : cNd c = false)
  (h : WPd B E n all mS codes rest rs (setAt m i cl) K) : WPd B E n all mS codes (c :: rest) rs m K := by
 refine d_only ho hk hw rfl (eff_store (vs := vs) (c := cl) hx hy rfl hT hs hv he hb hl hc) ?_ hn
 rintro v' m' ⟨rfl, rfl⟩; exact ⟨fun h => (by rw [hnd] at h; cases h), h⟩
theorem qd {v : Value} {d : Nat} {x : Operand} (ho : opOf all c = some ⟨dst, .move x, ty, pos, aft, gd⟩) (hk : cKd c = 0) (hc : chk all n rs ⟨dst, .move x, ty, pos, aft, gd⟩ = some d) (hx : ev rs x = some v)
  (h : WPd B E n all mS codes rest ((d, v) :: rs) m K) : WPd B E n all mS codes (c :: rest) rs m K := d_pure0 ho hk hc (pure_move hx) h
end d
end Go.Vc
