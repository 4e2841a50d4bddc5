/- A region whose last call and whose new block may come up in either order. -/
import Derived.Test.YtbcpgdjhomoghaaG18
namespace Go.Vc
open Go.RowKit
set_option linter.unusedVariables false
def depB (all : List Oper) (k i : Nat) : Bool := match nth all k with | some o => o.after.any (fun e => Region.binds .any e && Nat.beq e.on i) | none => false
theorem ready_set {md : Region.Mode} {ops : Array Oper} {listed : Array Bool} {i x : Nat} (hx : x ∈ Region.ready md ops listed) (hne : i ≠ x) : x ∈ Region.ready md ops (listed.setIfInBounds i true) := by
 obtain ⟨h0, o, ho, hall⟩ := mem_ready.1 hx
 exact mem_ready.2 ⟨by rw [getD_set_ne true hne]; exact h0, o, ho, fun e he hb => getD_set_true (hall e he hb)⟩
theorem ready_off {md : Region.Mode} {ops : Array Oper} {listed : Array Bool} {x : Nat} (hx : x ∈ Region.ready md ops listed) : listed.getD x false = false := by
 obtain ⟨h0, _⟩ := mem_ready.1 hx
 exact getD_false_of h0
section
variable {B : Tb} {E : Env} {n : Nat} {all : List Oper} {rs : Rs} {m : Mem} {K : Act → World → Prop}
variable {dst : Option Tmp} {ty : TypeId} {pos : String} {aft : Array Edge} {gd : Option (Nat × Bool)} {dst2 : Option Tmp} {ty2 : TypeId} {pos2 : String} {aft2 : Array Edge} {gd2 : Option (Nat × Bool)}
theorem d_fork {mS : Mem} {codes r3 : List Nat} {c1 c2 c3 : Nat} {Z : Nat → Prop} {f : FuncId} {args : List Operand} {ats : Array TypeId} {vs : List Value} {R : Value → (Addr → Value → Prop) → Prop} {d1 d2 : Nat} {T : TypeId} {cl : List Value} (hz : Sc Z E)
  (ho : opOf all c1 = some ⟨dst, .call ⟨.value (.func f), args.toArray, ats⟩, ty, pos, aft, gd⟩) (hk : Nat.beq (cKd c1) 2 = false)
  (hc : chk all n rs ⟨dst, .call ⟨.value (.func f), args.toArray, ats⟩, ty, pos, aft, gd⟩ = some d1)
  (hf : Fun B f) (hv : evs rs args = some vs) (hg : Asks B E m Z f vs R)
  (ho2 : opOf all c2 = some ⟨dst2, .alloc T, ty2, pos2, aft2, gd2⟩) (hk2 : cKd c2 = 2)
  (hc2 : ∀ v, chk all n ((d1, v) :: rs) ⟨dst2, .alloc T, ty2, pos2, aft2, gd2⟩ = some d2) (hc2' : chk all n rs ⟨dst2, .alloc T, ty2, pos2, aft2, gd2⟩ = some d2)
  (hc' : ∀ v, chk all n ((d2, v) :: rs) ⟨dst, .call ⟨.value (.func f), args.toArray, ats⟩, ty, pos, aft, gd⟩ = some d1) (hv' : ∀ v, evs ((d2, v) :: rs) args = some vs)
  (hzr : ZeroIs B T cl) (hs : SubMem m mS) (hn2 : needsOf codes (cIx c2) = cNd c2) (hk3 : cKd c3 = 2) (hdep : depB all (cIx c3) (cIx c1) = true) (hd12 : d1 ≠ d2) (hij : cIx c1 ≠ cIx c2)
  (h : ∀ v E' b, Gt E E' → R v (Cz Z E') → WPd B E' n all mS codes (c3 :: r3) ((d2, .pointer (some ⟨b, 0, none⟩)) :: (d1, v) :: rs) (⟨b, cl, T⟩ :: m) K) :
  WPd B E n all mS codes (c1 :: c2 :: c3 :: r3) rs m K := by
 refine ⟨fun Q hQ hsel hbm listed hp hcl a w ok => ?_⟩
 obtain ⟨hw1, hdd1, hdn1⟩ := chk_ok hc
 obtain ⟨hw2, hdd2, hdn2⟩ := chk_ok hc2'
 have hi : all.toArray[cIx c1]? = some ⟨dst, .call ⟨.value (.func f), args.toArray, ats⟩, ty, pos, aft, gd⟩ := by
  unfold opOf at ho
  rw [nth_eq] at ho
  simpa using ho
 have hj : all.toArray[cIx c2]? = some ⟨dst2, .alloc T, ty2, pos2, aft2, gd2⟩ := by
  unfold opOf at ho2
  rw [nth_eq] at ho2
  simpa using ho2
 have hd' : dst = some d1 := hdd1
 have hd2' : dst2 = some d2 := hdd2
 subst hd' hd2'
 unfold planFrom at hp
 simp only [hk, cond_false, Bool.and_eq_true] at hp
 obtain ⟨⟨hri, _⟩, hp1⟩ := hp
 have hri : cIx c1 ∈ Region.ready .any all.toArray listed := by simpa using hri
 have hp1' := hp1
 simp only [planFrom, hk2, hk3, Nat.beq_refl, cond_true, Bool.and_eq_true, decide_eq_true_eq] at hp1'
 obtain ⟨hrj, hrk, hp3⟩ := hp1'
 have hcomm : (listed.setIfInBounds (cIx c2) true).setIfInBounds (cIx c1) true = (listed.setIfInBounds (cIx c1) true).setIfInBounds (cIx c2) true := Array.setIfInBounds_comm true true hij.symm
 have hp33 : planFrom all.toArray (bmOf all) (needsOf codes) (c3 :: r3) ((listed.setIfInBounds (cIx c1) true).setIfInBounds (cIx c2) true) = true := by
  simp only [planFrom, hk3, Nat.beq_refl, cond_true, Bool.and_eq_true, decide_eq_true_eq]
  exact ⟨hrk, hp3⟩
 have hcl1 := hcl.set hri
 have hcl2 := hcl1.set (i := cIx c2) (by rw [hrj]; simp)
 intro w2 hkp
 refine ⟨fun h0 => (by rw [h0] at hri; cases hri), fun x hx => ?_⟩
 have ok2 := ok.grow hkp
 by_cases hxi : cIx c1 = x
 ·subst hxi
  unfold Go.wpOp
  simp only [hi]
  rw [if_pos (wants_ok ok2.regs hw1)]
  left
  unfold Oper.wp
  rw [run_enter hf ok2.regs hv]
  refine (asks_run hz hg ok2).mono ?_
  rintro e w' ⟨v, rfl, hkeep, hR⟩
  have ok3 : Ok E n ((d1, v) :: rs) m (a.put (some d1) v) w' := ⟨(put_size ..).trans ok2.size, (put_defers ..).trans ok2.defers, put_regs (d := some d1) ok2.size hdn1 ok2.regs, hkeep.has ok2.has, ok2.own, ok2.keep.trans hkeep (by simp)⟩
  have hnext := d_alloc (codes := codes) (rest := c3 :: r3) (K := K) (B := B) (mS := mS) (E := ⟨w', blks m, E.defs⟩) (m := m) ho2 hk2 (hc2 v) hzr hs hn2 (fun b => h v _ b (at_gt ok2.own ok3.keep) hR)
  refine ⟨ok3.keep, fun _ hS => hkeep.has hS, anyN_mono (fun w h => ?_) _ _ _ _ (hnext.run Q hQ hsel hbm _ hp1 hcl1 _ _ (at_ok ok3 (List.Sublist.refl _)))⟩
  refine ok3.keep.trans h (fun x hx hlt => ?_)
  rcases own_at ok3.own hx with h1 | h1
  ·omega
  ·exact h1
 ·have hx2 := ready_set hx hxi
  rw [hrj] at hx2
  have hxj : x = cIx c2 := by simpa using hx2
  subst hxj
  have hcl3 := hcl.set hx
  have hr1 : Region.ready .any all.toArray (listed.setIfInBounds (cIx c2) true) = [cIx c1] := by
   have hmem := ready_set hri hij.symm
   have hall : ∀ y ∈ Region.ready .any all.toArray (listed.setIfInBounds (cIx c2) true), y = cIx c1 := by
    intro y hy
    by_cases hyi : cIx c1 = y
    ·exact hyi.symm
    ·exfalso
     have hy2 := ready_set hy hyi
     rw [hcomm, hrk] at hy2
     have hyk : y = cIx c3 := by simpa using hy2
     subst hyk
     obtain ⟨_, o, ho3, hdd⟩ := mem_ready.1 hy
     unfold depB at hdep
     rw [nth_eq] at hdep
     have ho3' : all[cIx c3]? = some o := by simpa using ho3
     rw [ho3'] at hdep
     obtain ⟨e, he, hb⟩ := Array.any_eq_true'.1 hdep
     rw [Bool.and_eq_true] at hb
     have hon : e.on = cIx c1 := Nat.eq_of_beq_eq_true hb.2
     have hl := hdd e he hb.1
     rw [hon, getD_set_ne false hij.symm, ready_off hri] at hl
     cases hl
   have hnd : (Region.ready .any all.toArray (listed.setIfInBounds (cIx c2) true)).Nodup := by
    unfold Region.ready
    exact List.Pairwise.filter _ List.nodup_range
   generalize Region.ready .any all.toArray (listed.setIfInBounds (cIx c2) true) = L at *
   match L, hmem, hall, hnd with
   | [y], _, hall, _ => rw [hall y (.head _)]
   | y :: z :: L, _, hall, hnd =>
    have e1 := hall y (.head _)
    have e2 := hall z (.tail _ (.head _))
    rw [e1, e2] at hnd
    simp at hnd
  unfold Go.wpOp
  simp only [hj]
  rw [if_pos (wants_ok ok2.regs hw2)]
  left
  unfold Oper.wp
  obtain ⟨y, w', v, m', hrun, hy, q1, q2, q3, b, rfl, rfl⟩ := (eff_new (E := E) (rs := rs) (m := m) (o := ⟨some d2, .alloc T, ty2, pos2, aft2, gd2⟩) (c := cl) (t := T) (fun _ _ _ _ _ => run_new hzr)).run a w2 ok2.regs ok2.has ok2.own ok2.keep
  rw [hrun]
  have ok3 : Ok E n ((d2, .pointer (some ⟨b, 0, none⟩)) :: rs) (⟨b, cl, T⟩ :: m) (a.put (some d2) (.pointer (some ⟨b, 0, none⟩))) w' := ⟨(put_size ..).trans ok2.size, (put_defers ..).trans ok2.defers, put_regs (d := some d2) ok2.size hdn2 ok2.regs, q1, q2, q3⟩
  have key : Keep E.w0 w' E.ws ∧ (needsOf codes (cIx c2) = true → Has w2 mS → Has w' mS) ∧
    anyN B.P .any all.toArray (nq Q) (fun w => Keep E.w0 w E.ws) (fun w => Has w mS) (needsOf codes) (r3.length + 2) (listed.setIfInBounds (cIx c2) true) (a.put (some d2) (.pointer (some ⟨b, 0, none⟩))) w' := by
   refine ⟨q3, fun _ _ => hs w' q1.2.2, ?_⟩
   refine anyN_only hr1 fun w4 hkp4 => ?_
   have ok4 := ok3.grow hkp4
   obtain ⟨hw5, _, hdn5⟩ := chk_ok (hc' (.pointer (some ⟨b, 0, none⟩)))
   unfold Go.wpOp
   simp only [hi]
   rw [if_pos (wants_ok ok4.regs hw5)]
   left
   unfold Oper.wp
   rw [run_enter hf ok4.regs (hv' _)]
   refine (asks_run (m := ⟨b, cl, T⟩ :: m) hz (fun w Z' h0 h1 h2 h3 => hg w Z' h0.2.2 h1 h2 h3) ok4).mono ?_
   rintro e w' ⟨v, rfl, hkeep, hR⟩
   have ok5 : Ok E n ((d1, v) :: (d2, .pointer (some ⟨b, 0, none⟩)) :: rs) (⟨b, cl, T⟩ :: m) ((a.put (some d2) (.pointer (some ⟨b, 0, none⟩))).put (some d1) v) w' := ⟨(put_size ..).trans ok4.size, (put_defers ..).trans ok4.defers, put_regs (d := some d1) ok4.size hdn1 ok4.regs, hkeep.has ok4.has, ok4.own, ok4.keep.trans hkeep (by simp)⟩
   have ok6 : Ok E n ((d2, .pointer (some ⟨b, 0, none⟩)) :: (d1, v) :: rs) (⟨b, cl, T⟩ :: m) ((a.put (some d2) (.pointer (some ⟨b, 0, none⟩))).put (some d1) v) w' := by
    refine ⟨ok5.size, ok5.defers, fun t x hx => ok5.regs t x ?_, ok5.has, ok5.own, ok5.keep⟩
    show (bif Nat.beq d1 t then some v else bif Nat.beq d2 t then some _ else look rs t) = some x
    replace hx : (bif Nat.beq d2 t then some (Value.pointer (some ⟨b, 0, none⟩)) else bif Nat.beq d1 t then some v else look rs t) = some x := hx
    cases h1 : Nat.beq d1 t with
    | false => rw [h1] at hx; exact hx
    | true =>
     have e1 : d1 = t := Nat.eq_of_beq_eq_true h1
     have h2 : Nat.beq d2 t = false := by
      cases h2 : Nat.beq d2 t with
      | false => rfl
      | true => exact absurd (e1.trans (Nat.eq_of_beq_eq_true h2).symm) hd12
     rw [h1, h2] at hx
     exact hx
   rw [hcomm]
   refine ⟨ok6.keep, fun _ hS => hkeep.has hS, anyN_mono (fun w h => ?_) _ _ _ _ ((h v _ b (at_gt ok6.own ok6.keep) hR).run Q hQ hsel hbm _ hp33 hcl2 _ _ (at_ok ok6 (List.Sublist.refl _)))⟩
   refine ok6.keep.trans h (fun x hx hlt => ?_)
   rcases own_at ok6.own hx with h1 | h1
   ·omega
   ·exact h1
  rcases hy with rfl | ⟨rfl, hbad⟩
  ·exact key
  ·exact absurd hbad (by intro h; cases h)
end
end Go.Vc
