/- Arrays of bytes as arguments: opened, and shut again. -/
import Derived.Test.YtadginombcjbeaaVq
import Derived.WideKeyArr2
import Derived.ProofKit
import Derived.OpenShut
import Derived.DataShut
namespace Go.Vc
open Go.RowKit Go.WideMaps Go.ChangeShapes Go.WideShapes
set_option linter.unusedVariables false
section
variable {H : Type} {enc : TypeId × Value → H} {P : Program} {k e : TypeId} {n : Nat} {W : World} {base : Nat} {sp : Nat → Bool} {held : Bool}
theorem mapM_bytes (he : P.underlying e = some (.int .u8)) {m : Nat} {cs : List Value} : ∀ (L : List Nat) (xs : List (DataW H × List MemPlace)),
  L.mapM (fun i => DataW.trod enc P W base sp held m e ((cs.drop (i * 1)).take 1)) = some xs →
  ∃ l : List Int, xs = l.map (fun x => (.lit (.int .u8 x), [])) ∧ (∀ x ∈ l, (Lit.int .u8 x).wf = true) ∧ L.map (fun i => cs[i]?) = l.map (fun x => some (Value.int .u8 x))
 | [], xs, h => by
  simp at h
  subst h
  exact ⟨[], rfl, by simp, rfl⟩
 | i :: L, xs, h => by
  rw [List.mapM_cons] at h
  simp only [bind, Option.bind_eq_some_iff, pure, Option.some.injEq] at h
  obtain ⟨y, hy, ys, hys, rfl⟩ := h
  obtain ⟨l, rfl, hl, hm⟩ := mapM_bytes he L ys hys
  obtain ⟨a, ea, rfl, wa⟩ := DataW.trod_int he hy
  refine ⟨a :: l, rfl, ?_, ?_⟩
  ·intro x hx
   rcases List.mem_cons.1 hx with rfl | hx
   ·exact wa
   ·exact hl x hx
  ·rw [List.map_cons, List.map_cons, hm]
   congr 1
   rw [Nat.mul_one] at ea
   have h0 : ((cs.drop i).take 1)[0]? = some (Value.int .u8 a) := by rw [ea]; rfl
   simpa using h0
/-- An array of bytes, opened. -/
theorem open_bytes (A : ArrKey P k e n) (he : P.underlying e = some (.int .u8)) {r : Reach} {b0 : Nat} {v : Value} {d : DataW H} {ps : List MemPlace} (hval : Value.okWide P W r b0 k v) (hd : DataW.Trod enc P W base sp held k v d ps) :
  ∃ l : List Int, v = .agg (row l).toArray ∧ l.length = n ∧ Bytes l ∧ d = .agg (l.map fun x => .lit (.int .u8 x)) ∧ ps = [] := by
 obtain ⟨xs, rfl, hn⟩ := okWide_arr A hval
 obtain ⟨fuel, hf⟩ := hd
 cases fuel with
 | zero => simp [DataW.trod] at hf
 | succ m =>
  rw [DataW.trod_step] at hf
  unfold DataW.trodStep at hf
  simp only [A.hu, Value.cells] at hf
  rw [if_pos (by rw [A.size]; simpa using hn)] at hf
  simp only [Option.map_eq_some_iff] at hf
  obtain ⟨ys, hy, e1⟩ := hf
  rw [A.one] at hy
  obtain ⟨l, rfl, hl, hm⟩ := mapM_bytes he _ ys hy
  simp only [Prod.mk.injEq] at e1
  have hlen : l.length = n := by
   have := congrArg List.length hm
   simpa using this.symm
  refine ⟨l, ?_, hlen, ?_, ?_, ?_⟩
  ·congr 1
   apply Array.ext'
   apply List.ext_getElem?
   intro i
   by_cases hi : i < n
   ·have := congrArg (fun L => L[i]?) hm
    simp [hi, hlen] at this
    simp only [Array.getElem?_toList, this, ints]
    simp [hi, hlen]
   ·rw [List.getElem?_eq_none (by simp [hn]; omega), List.getElem?_eq_none (by simp [ints, hlen]; omega)]
  ·intro x hx
   have := hl x hx
   have h2 := (Lit.wf_int_iff .u8 x).1 this
   have h3 : IntKind.u8.min = 0 := rfl
   have h4 : IntKind.u8.max = 255 := rfl
   omega
  ·rw [← e1.1]; simp [Function.comp_def]
  ·rw [← e1.2]; simp [List.flatMap_eq_nil_iff]
theorem mapM_bytes_mk (he : P.underlying e = some (.int .u8)) {m : Nat} {cs : List Value} (l : List Int) (hl : ∀ x ∈ l, (Lit.int .u8 x).wf = true) : ∀ (L : List Nat) (xs : List Int), L.map (fun i => cs[i]?) = xs.map (fun x => some (Value.int .u8 x)) → (∀ x ∈ xs, (Lit.int .u8 x).wf = true) →
  L.mapM (fun i => DataW.trod enc P W base sp held (m + 1) e ((cs.drop (i * 1)).take 1)) = some (xs.map fun x => (DataW.lit (.int .u8 x), []))
 | [], [], _, _ => rfl
 | [], _ :: _, h, _ => by cases h
 | _ :: _, [], h, _ => by cases h
 | i :: L, x :: xs, h, hw => by
  simp only [List.map_cons, List.cons.injEq] at h
  have hc : ((cs.drop (i * 1)).take 1) = [Value.int .u8 x] := by
   rw [Nat.mul_one]
   have h0 := h.1
   obtain ⟨hlt, hv⟩ := List.getElem?_eq_some_iff.1 h0
   rw [List.drop_eq_getElem_cons hlt, hv]
   rfl
  rw [List.mapM_cons, hc, mapM_bytes_mk he l hl L xs h.2 (fun y hy => hw y (.tail _ hy))]
  have hwx := hw x (.head _)
  simp [DataW.trod, he, hwx]
theorem shut_bytes (A : ArrKey P k e n) (he : P.underlying e = some (.int .u8)) {l : List Int} (hl : l.length = n) (hb : Bytes l) :
  DataW.Trod enc P W base sp held k (.agg (row l).toArray) (.agg (l.map fun x => .lit (.int .u8 x))) [] := by
 have hw : ∀ x ∈ l, (Lit.int .u8 x).wf = true := fun x hx => (Lit.wf_int_iff .u8 x).2 (by
  have h2 := hb x hx
  have h3 : IntKind.u8.min = 0 := rfl
  have h4 : IntKind.u8.max = 255 := rfl
  omega)
 refine ⟨2, ?_⟩
 rw [DataW.trod_step]
 unfold DataW.trodStep
 simp only [A.hu, Value.cells]
 rw [if_pos (by rw [A.size]; simp [ints, hl]), A.one, mapM_bytes_mk he l hw (List.range n) l ?_ hw]
 ·simp [Function.comp_def, List.flatMap_eq_nil_iff]
 ·apply List.ext_getElem?
  intro i
  by_cases hi : i < n
  ·simp [hi, hl, ints]
  ·rw [List.getElem?_eq_none (by simp; omega), List.getElem?_eq_none (by simp [hl]; omega)]
end
end Go.Vc
