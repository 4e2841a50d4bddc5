/- A law's row, out of a contract of its function: whatever comes in reads as it read, since nothing that was there is written. -/
import Derived.Test.YtadginombcjbeaaVp
import GoSem.Claim
import GoSem.ClaimJoined
import GoSem.ClaimMapViews
import Derived.JoinedTies
import Derived.KernelRfl
import Derived.Carry
namespace Go.Vc
open Go.RowKit Go.ChangeShapes Go.WideShapes Go.ChangeAt
set_option linter.unusedVariables false
theorem trodAll_below {H : Type} {enc : TypeId × Value → H} {P : Program} (hl : laidOutB P = true) {W W' : World} (hb : Below W.heap.size W W') :
  ∀ {ts : List TypeId} {vs : List Value} {ds : List (DataW H)} {ps : List MemPlace}, (ts.all fun t => P.readableRec t && Nat.blt t P.types.size) = true →
   DataW.TrodAll enc P W 0 (fun _ => true) true ts vs ds ps →
   DataW.TrodAll enc P W' 0 (fun b => decide (b < W.heap.size)) true ts vs ds ps := by
 intro ts
 induction ts with
 | nil =>
  intro vs ds ps _ h
  obtain ⟨rfl, rfl, rfl⟩ := trodAll_nil h
  exact trodAll_mk0
 | cons t ts ih =>
  intro vs ds ps hr h
  obtain ⟨v, vs', d, ds', p, q, rfl, rfl, rfl, h1, h2⟩ := trodAll_cons h
  simp only [List.all_cons, Bool.and_eq_true] at hr
  have lt : ∀ x ∈ p, x.block < W.heap.size := by obtain ⟨m, hm⟩ := h1; exact DataW.trod_lt m _ _ _ hm
  exact trodAll_cons_mk (Below.trod hl hr.1.1 (Nat.le_of_ble_eq_true hr.1.2) h1 hb lt) (ih hr.2 h2)
theorem trodAll_len {H : Type} {enc : TypeId × Value → H} {P : Program} {W : World} {b : Nat} {sp : Nat → Bool} {hd : Bool} :
  ∀ {ts : List TypeId} {vs : List Value} {ds : List (DataW H)} {ps : List MemPlace}, DataW.TrodAll enc P W b sp hd ts vs ds ps → ds.length = ts.length := by
 intro ts
 induction ts with
 | nil => intro vs ds ps h; obtain ⟨rfl, rfl, rfl⟩ := trodAll_nil h; rfl
 | cons t ts ih =>
  intro vs ds ps h
  obtain ⟨v, vs', d, ds', p, q, rfl, rfl, rfl, h1, h2⟩ := trodAll_cons h
  simp [ih h2]
theorem law_lifted {H : Type} {enc : TypeId × Value → H} {C : Checked} {os : Os} {f : FuncId} {fn : Func} {s : ChangeSpec} {conds : List PathCond} {bt : TypeId} {apart again : Bool}
  (own : ownKnob C.prog.godebug = none) (started : os.Started) (noInit : C.prog.inits.idxOf? f = none) (hfn : C.prog.funcs[f]? = some fn)
  (hl : laidOutB C.prog = true) (hv : s.vars = []) (hr : fn.resultTypes.toList = [bt]) (hb : C.prog.underlying bt = some .bool)
  (hrow : (fn.params.toList.all fun t => C.prog.readableRec t && Nat.blt t C.prog.types.size) = true) (hag : again = false)
  (hs : ∀ ds, ds.length = fn.params.toList.length → s.fn H ds = { results := [.lit (.bool true)], args := ds })
  (witness : ∃ (w : World) (tape : Tape) (i : Input), w.os = os ∧ (w.forCall tape i).Shaped C.prog ∧ i.vars = [] ∧ Input.okWide C.prog (w.forCall tape i) .any w.heap.size f i ∧
   s.pre6 enc C.prog fn conds apart (w.forCall tape i).memory i.args ∧ ({} : Assume).holds C.prog (lone (Frame.enter C.prog f i.args .normal) [] (w.forCall tape i)))
  (law : ∀ (W : World) (base : Nat) (args : Array Value) (ds : List (DataW H)) (p : List MemPlace),
   (∀ (j : Nat) t v, fn.params[j]? = some t → args[j]? = some v → Value.okWide C.prog W .any base t v) →
   DataW.TrodAll enc C.prog W 0 (fun _ => true) true fn.params.toList args.toList ds p →
   conds.all (PathCond.test C.prog ⟨fn.params.toList, ds, s.plain.varTypes C.prog, []⟩) = true →
   Calls C.prog f args W fun e W' => e = .returned (.bool true) ∧ Keep W W' []) :
  ReturnsInHanded {} C os f .any (s.pre6 enc C.prog fn conds apart) (s.post enc C.prog fn apart true false again) := by
 refine returnsInHanded_of_change own started noInit hfn witness ?_
 intro W base args ds gs before hval hW hcnd _
 have hW' := hW
 obtain ⟨p, q, hA0, hV, rfl, hfz, hnd⟩ := hW
 rw [hv] at hV
 obtain ⟨rfl, rfl⟩ := trodVars_none hV
 refine (law W base args ds p hval hA0 hcnd).mono ?_
 rintro e W' ⟨rfl, hk⟩
 have bel := hk.below
 have hfn' := hs (ds ++ []) (by rw [List.append_nil]; exact trodAll_len hA0)
 refine ⟨_, rfl, ds, [], _, [], p, [], hW', ?_, ?_, ?_, bel.frame _, fun h => by rw [hag] at h; cases h⟩
 ·have hsz : fn.resultTypes.size = 1 := by rw [← Array.length_toList, hr]; rfl
  rw [hfn', hr, hsz]
  exact trodAll_mk1 ⟨1, by simp [DataW.trod, Value.cells, hb]⟩
 ·rw [hfn']
  show DataW.TrodAll enc C.prog W' 0 _ true fn.params.toList args.toList (ds ++ []) _
  rw [List.append_nil]
  exact trodAll_below hl bel hrow hA0
 ·rw [hfn', hv]
  rfl
theorem wf_u8 {a : Int} (h : (Lit.int .u8 a).wf = true) : 0 ≤ a ∧ a < 256 := by
 have h2 := (Lit.wf_int_iff .u8 a).1 h
 have h3 : IntKind.u8.min = 0 := rfl
 have h4 : IntKind.u8.max = 255 := rfl
 omega
theorem wf_u16 {a : Int} (h : (Lit.int .u16 a).wf = true) : 0 ≤ a ∧ a < 65536 := by
 have h2 := (Lit.wf_int_iff .u16 a).1 h
 have h3 : IntKind.u16.min = 0 := rfl
 have h4 : IntKind.u16.max = 65535 := rfl
 omega
theorem wf_u32 {a : Int} (h : (Lit.int .u32 a).wf = true) : 0 ≤ a ∧ a < 4294967296 := by
 have h2 := (Lit.wf_int_iff .u32 a).1 h
 have h3 : IntKind.u32.min = 0 := rfl
 have h4 : IntKind.u32.max = 4294967295 := rfl
 omega
theorem wf_i64 {a : Int} (h : (Lit.int .i64 a).wf = true) : -9223372036854775808 ≤ a ∧ a ≤ 9223372036854775807 := by
 have h2 := (Lit.wf_int_iff .i64 a).1 h
 have h3 : IntKind.i64.min = -9223372036854775808 := rfl
 have h4 : IntKind.i64.max = 9223372036854775807 := rfl
 omega
/-- The bytes of a slice that came in. -/
theorem open_slice_bytes {H : Type} {enc : TypeId × Value → H} {P : Program} {T eT : TypeId} (hT : P.underlying T = some (.slice eT)) (hu : P.underlying eT = some (.int .u8)) (hc : P.cellsOf eT = 1)
  {W : World} {base : Nat} {r : Reach} {b0 : Nat} {v : Value} {d : DataW H} {ps : List MemPlace}
  (hv : Value.okWide P W r b0 T v) (h : DataW.Trod enc P W base (fun _ => true) true T v d ps) : ∃ l : List Int, SlV W v (row l) ∧ Bytes l ∧ l.length ≤ maxLen := by
 obtain ⟨a0, len0, cap0, rfl⟩ := okWide_slice hT hv
 obtain ⟨fuel, hf⟩ := h
 rcases open_ints hT hu hc hf with ⟨hcs, _⟩ | ⟨x, l, c, zs, hcs, _, hl, hm, hz, _, hcell, hwz⟩
 ·simp [Value.cells] at hcs
  obtain ⟨rfl, rfl, rfl⟩ := hcs
  exact ⟨[], ⟨⟨none, 0, rfl, fun h => absurd rfl h⟩, fun _ _ _ h => by cases h; exact Nat.le_refl _⟩, (by intro x hx; cases hx), Nat.zero_le _⟩
 ·simp [Value.cells] at hcs
  obtain ⟨rfl, rfl, rfl⟩ := hcs
  have hz' : zs.length = cap0 := by simpa using hz
  refine ⟨zs.take len0, ⟨⟨some x, cap0, ?_, fun _ => ⟨x, rfl, ?_⟩⟩, fun _ _ _ h => by cases h; exact hl⟩, ?_, ?_⟩
  ·rw [row_len, List.length_take, hz', Nat.min_eq_left hl]
  ·intro j v hj
   rw [show row (zs.take len0) = (zs.take len0).map (Value.int .u8) from rfl, List.getElem?_map, Option.map_eq_some_iff] at hj
   obtain ⟨n, hn, rfl⟩ := hj
   rw [List.getElem?_take] at hn
   split at hn
   ·rename_i hlt
    have hjz : j < zs.length := by omega
    have := hcell j hjz
    rw [List.getD_eq_getElem?_getD, hn] at this
    exact this
   ·cases hn
  ·intro n hn
   have h2 := (Lit.wf_int_iff .u8 n).1 (hwz n (List.mem_of_mem_take hn))
   have h3 : IntKind.u8.min = 0 := rfl
   have h4 : IntKind.u8.max = 255 := rfl
   omega
  ·rw [List.length_take]; omega
end Go.Vc
