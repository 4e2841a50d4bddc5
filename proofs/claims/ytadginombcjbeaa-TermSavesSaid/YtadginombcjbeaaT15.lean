/- A table of functions: made, and asked. -/
import Derived.Test.YtadginombcjbeaaT14
namespace Go.Vc
open Go.RowKit
set_option linter.unusedVariables false
theorem run_checkKey {P : Program} {kT : TypeId} {k : Int} (hk : P.underlying kT = some (.int .i64)) (e : Bool) (d : Nat) (w : World) : (Instr.checkKey e (d + 1) kT (.int .i64 k)).run P w = .ok () w := by
 simp [Instr.checkKey, run_underlying hk, Sem.run_bind]
theorem run_getMap {P : Program} {w : World} {b c : Nat} {es : Array MapEntry} (hw : w.heap[b]? = some (.map es c)) : (getObj b).run P w = .ok (.map es c) w := by
 simp [getObj, Sem.run, hw]
theorem run_setMap {P : Program} {w : World} {b c : Nat} {es : Array MapEntry} {o : Obj} (hw : w.heap[b]? = some (.map es c)) : (setObj b o).run P w = .ok () { w with heap := w.heap.setIfInBounds b o } := by
 show (match w.heap[b]? with | some (.cells ..) => _ | some _ => _ | none => _) = _
 rw [hw]
 rfl
theorem run_mapUpdate_new {P : Program} {T kT eT : TypeId} {b c : Nat} {l : List MapEntry} {k : Int} {v : Value} {w : World} (hT : P.underlying T = some (.map kT eT)) (hk : P.underlying kT = some (.int .i64))
  (hw : w.heap[b]? = some (.map l.toArray c)) (hf : Instr.findNow (.int .i64) (.int .i64 k) l 0 = some none) :
  (Instr.mapUpdate T (.map (some b)) (.int .i64 k) v).run P w = .ok () { w with heap := w.heap.setIfInBounds b (.map (l ++ [({ key := .int .i64 k, val := v, born := c } : MapEntry)]).toArray (c + 1)) } := by
 unfold Instr.mapUpdate Instr.findKey
 simp only [Sem.run_bind, run_underlying hT, run_underlying hk, Result.andThen_ok, run_getMap hw, run_checkKey hk false 9999 w, hf, Sem.run_pure, run_setMap hw, List.push_toArray]
def hitV (r : Option (Nat × Value)) (z : Value) : Value := match r with
 | some x => x.2
 | none => z
theorem run_lookup {P : Program} {T kT eT : TypeId} {b c : Nat} {l : List MapEntry} {k : Int} {r : Option (Nat × Value)} {z : Value} {w : World} (hT : P.underlying T = some (.map kT eT)) (hk : P.underlying kT = some (.int .i64))
  (hw : w.heap[b]? = some (.map l.toArray c)) (hf : Instr.findNow (.int .i64) (.int .i64 k) l 0 = some r) (hz : (zeroValue eT).run P w = .ok z w) :
  (Instr.lookup T (.map (some b)) (.int .i64 k) true).run P w = .ok (.tuple #[hitV r z, .bool r.isSome]) w := by
 unfold Instr.lookup Instr.findKey
 cases r with
 | none => simp only [Sem.run_bind, run_underlying hT, run_underlying hk, Result.andThen_ok, run_getMap hw, run_checkKey hk _ 9999 w, hf, Sem.run_pure, hz]; rfl
 | some x => simp only [Sem.run_bind, run_underlying hT, run_underlying hk, Result.andThen_ok, run_getMap hw, run_checkKey hk _ 9999 w, hf, Sem.run_pure]; rfl
section
variable {B : Tb} {E : Env} {n : Nat} {all rest : List Oper} {rs : Rs} {m : Mem} {K : Act → World → Prop}
variable {dst : Option Tmp} {ty : TypeId} {pos : String} {aft : Array Edge} {gd : Option (Nat × Bool)}
/-- Operations where one map lies in memory. -/
structure WPm (B : Tb) (E : Env) (n : Nat) (all : List Oper) (rest : List Oper) (rs : Rs) (b : Nat) (l : List MapEntry) (c : Nat) (K : Act → World → Prop) : Prop where
 run : ∀ (Q : Exit → Act → World → Prop), (∀ a w, K a w → Q .normal a w) → ∀ a w, Ok E n rs [] a w → w.heap[b]? = some (.map l.toArray c) → wpList B.P all.toArray Q rest a w
variable {b c : Nat} {l : List MapEntry}
theorem m_make {T : TypeId} {d : Nat} (hc : chk all n rs ⟨dst, .makeMap T none, ty, pos, aft, gd⟩ = some d)
  (h : ∀ b, E.w0.heap.size ≤ b → WPm B E n all rest ((d, .map (some b)) :: rs) b [] 0 K) : WPl B E n all (⟨dst, .makeMap T none, ty, pos, aft, gd⟩ :: rest) rs [] K := by
 refine ⟨fun Q hQ a w ok => ?_⟩
 obtain ⟨hw, hd, hdn⟩ := chk_ok hc
 unfold wpList
 rw [if_pos (wants_ok ok.regs hw)]
 left
 unfold Oper.wp
 have hrun : (execOp a.eval ⟨dst, .makeMap T none, ty, pos, aft, gd⟩).run B.P w = .ok (.value (.map (some w.heap.size))) { w with heap := w.heap.push (.map #[] 0) } := by
  simp [execOp, Instr.makeMap, newObj, Sem.run]
 rw [hrun]
 have hd' : dst = some d := hd
 subst hd'
 have hk : Keep E.w0 { w with heap := w.heap.push (.map #[] 0) } E.ws :=
  ⟨ok.keep.os, ok.keep.tape, ok.keep.output, by show _ ≤ (w.heap.push _).size; rw [Array.size_push]; exact Nat.le_succ_of_le ok.keep.size, fun k hk hn => by
   rw [← ok.keep.block k hk hn]
   show (w.heap.push _)[k]? = _
   rw [Array.getElem?_push, if_neg (by have := ok.keep.size; omega)]⟩
 exact (h w.heap.size ok.keep.size).run Q hQ _ _ ⟨(put_size ..).trans ok.size, (put_defers ..).trans ok.defers, put_regs (d := some d) ok.size hdn ok.regs, trivial, trivial, hk⟩ (by show (w.heap.push _)[w.heap.size]? = _; rw [Array.getElem?_push, if_pos rfl])
theorem m_insert {T kT eT : TypeId} {x y z : Operand} {k : Int} {v : Value} (hw : wants all rs ⟨none, .insert T x y z, ty, pos, aft, gd⟩ = some true) (hT : B.P.underlying T = some (.map kT eT)) (hk : B.P.underlying kT = some (.int .i64))
  (hx : ev rs x = some (.map (some b))) (hy : ev rs y = some (.int .i64 k)) (hz : ev rs z = some v) (hf : Instr.findNow (.int .i64) (.int .i64 k) l 0 = some none) (hb : E.w0.heap.size ≤ b)
  (h : WPm B E n all rest rs b (l ++ [({ key := .int .i64 k, val := v, born := c } : MapEntry)]) (c + 1) K) : WPm B E n all (⟨none, .insert T x y z, ty, pos, aft, gd⟩ :: rest) rs b l c K := by
 refine ⟨fun Q hQ a w ok hh => ?_⟩
 unfold wpList
 rw [if_pos (wants_ok ok.regs hw)]
 left
 unfold Oper.wp
 have hrun : (execOp a.eval ⟨none, .insert T x y z, ty, pos, aft, gd⟩).run B.P w = .ok .skip { w with heap := w.heap.setIfInBounds b (.map (l ++ [({ key := .int .i64 k, val := v, born := c } : MapEntry)]).toArray (c + 1)) } := by
  simp only [execOp, ev_ok ok.regs hx, ev_ok ok.regs hy, ev_ok ok.regs hz, Sem.run_bind, run_mapUpdate_new hT hk hh hf, Result.andThen_ok, Sem.run_pure]
 rw [hrun]
 have hlt := lt_of_heap hh
 have hkp : Keep E.w0 { w with heap := w.heap.setIfInBounds b (.map (l ++ [({ key := .int .i64 k, val := v, born := c } : MapEntry)]).toArray (c + 1)) } E.ws :=
  ⟨ok.keep.os, ok.keep.tape, ok.keep.output, by show _ ≤ (w.heap.setIfInBounds _ _).size; rw [Array.size_setIfInBounds]; exact ok.keep.size, fun j hj hn => by
   rw [← ok.keep.block j hj hn]
   show (w.heap.setIfInBounds _ _)[j]? = _
   rw [Array.getElem?_setIfInBounds_ne (by omega)]⟩
 refine h.run Q hQ _ _ ⟨(put_size ..).trans ok.size, (put_defers ..).trans ok.defers, put_regs (d := none) (v := undef) ok.size rfl ok.regs, trivial, trivial, hkp⟩ ?_
 show (w.heap.setIfInBounds b _)[b]? = _
 rw [Array.getElem?_setIfInBounds_self, if_pos hlt]
theorem m_pure {o : Oper} {v : Value} {d : Nat} (hc : chk all n rs o = some d) (hv : Pure B E rs [] o v) (h : WPm B E n all rest ((d, v) :: rs) b l c K) : WPm B E n all (o :: rest) rs b l c K := by
 refine ⟨fun Q hQ a w ok hh => ?_⟩
 obtain ⟨hw, hd, hdn⟩ := chk_ok hc
 unfold wpList
 rw [if_pos (wants_ok ok.regs hw)]
 left
 unfold Oper.wp
 rw [hv.run a w ok.regs ok.has ok.keep]
 have hd' : o.dst = some d := hd
 show wpList B.P all.toArray Q rest (a.put o.dst v) w
 rw [hd']
 exact h.run Q hQ _ _ ⟨(put_size ..).trans ok.size, (put_defers ..).trans ok.defers, put_regs (d := some d) ok.size hdn ok.regs, ok.has, ok.own, ok.keep⟩ hh
theorem m_end (h : ∀ a w, Ok E n rs [] a w → w.heap[b]? = some (.map l.toArray c) → K a w) : WPm B E n all [] rs b l c K := ⟨fun Q hQ a w ok hh => hQ _ _ (h a w ok hh)⟩
/-- A callee that hands back a map. -/
structure GivesM (B : Tb) (f : FuncId) (vs : List Value) (w : World) (l : List MapEntry) : Prop where
 calls : Calls B.P f vs.toArray w fun e w' => ∃ b c, e = .returned (.map (some b)) ∧ Keep w w' [] ∧ w.heap.size ≤ b ∧ w'.heap[b]? = some (.map l.toArray c)
/-- A map that nobody writes. -/
def HasM (E : Env) (b : Nat) (l : List MapEntry) : Prop := b ∉ E.ws ∧ ∃ c, E.w0.heap[b]? = some (.map l.toArray c)
theorem d_givesM {mS : Mem} {codes left : List Nat} {cd : Nat} {f : FuncId} {args : List Operand} {ats : Array TypeId} {vs : List Value} {d : Nat}
  (ho : opOf all cd = some ⟨dst, .call ⟨.value (.func f), args.toArray, ats⟩, ty, pos, aft, gd⟩) (hk : cKd cd = 2)
  (hc : chk all n rs ⟨dst, .call ⟨.value (.func f), args.toArray, ats⟩, ty, pos, aft, gd⟩ = some d)
  (hf : Fun B f) (hv : evs rs args = some vs) (hg : ∀ w, Has w m → Keep E.w0 w E.ws → GivesM B f vs w l) (hn : needsOf codes (cIx cd) = cNd cd)
  (h : ∀ b E', Gt E E' → HasM E' b l → WPd B E' n all mS codes left ((d, .map (some b)) :: rs) m K) : WPd B E n all mS codes (cd :: left) rs m K := by
 refine ⟨fun Q hQ hsel hbm listed hp hcl a w ok => ?_⟩
 obtain ⟨hw, hd, hdn⟩ := chk_ok hc
 have hi : all.toArray[cIx cd]? = some ⟨dst, .call ⟨.value (.func f), args.toArray, ats⟩, ty, pos, aft, gd⟩ := at_op ho
 simp only [planFrom, hk, Nat.beq_refl, cond_true, Bool.and_eq_true, decide_eq_true_eq] at hp
 obtain ⟨hr, hp'⟩ := hp
 refine anyN_only hr fun w2 hkp => ?_
 have ok2 := ok.grow hkp
 unfold Go.wpOp
 simp only [hi]
 rw [if_pos (wants_ok ok2.regs hw)]
 left
 unfold Oper.wp
 rw [run_enter hf ok2.regs hv]
 refine (hg w2 ok2.has ok2.keep).calls.mono ?_
 rintro e w' ⟨b, c, rfl, hkeep, hbl, hb⟩
 have hd' : dst = some d := hd
 subst hd'
 have ok3 : Ok E n ((d, .map (some b)) :: rs) m (a.put (some d) (.map (some b))) w' := ⟨(put_size ..).trans ok2.size, (put_defers ..).trans ok2.defers, put_regs (d := some d) ok2.size hdn ok2.regs, hkeep.has ok2.has, ok2.own, ok2.keep.trans hkeep (by simp)⟩
 have hnb : b ∉ blks m := fun hm => by
  obtain ⟨e, he, hl, rfl⟩ := mem_blks.1 hm
  have := ok2.has.lt e he hl
  omega
 refine ⟨ok3.keep, fun _ hS => hkeep.has hS, anyN_mono (fun w h => ?_) _ _ _ _ ((h b _ (at_gt ok2.own ok3.keep) ⟨hnb, c, hb⟩).run Q hQ hsel hbm _ hp' (hcl.set (by rw [hr]; simp)) _ _ (at_ok ok3 (List.Sublist.refl _)))⟩
 refine ok3.keep.trans h (fun x hx hlt => ?_)
 rcases own_at ok3.own hx with h1 | h1
 ·omega
 ·exact h1
theorem pure_lookup {T kT eT : TypeId} {x y : Operand} {k : Int} {r : Option (Nat × Value)} {z v : Value} (hx : ev rs x = some (.map (some b))) (hy : ev rs y = some (.int .i64 k)) (hT : B.P.underlying T = some (.map kT eT)) (hk : B.P.underlying kT = some (.int .i64))
  (hm : HasM E b l) (hf : Instr.findNow (.int .i64) (.int .i64 k) l 0 = some r) (hz : ∀ w, (zeroValue eT).run B.P w = .ok z w) (hv : Value.tuple #[hitV r z, .bool r.isSome] = v) :
  Pure B E rs m ⟨dst, .lookup T x y true, ty, pos, aft, gd⟩ v := by
 refine ⟨fun a w hr hh hkp => ?_⟩
 obtain ⟨hn, c, hb⟩ := hm
 have hw : w.heap[b]? = some (.map l.toArray c) := by rw [hkp.block b (lt_of_heap hb) hn]; exact hb
 subst hv
 simp only [execOp, ev_ok hr hx, ev_ok hr hy, Sem.run_bind, run_lookup hT hk hw hf (hz w), Result.andThen_ok, Sem.run_pure]
end
end Go.Vc
