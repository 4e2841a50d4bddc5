/- Frames that came in, opened. -/
import Derived.Test.YthieegnhjoehbaaVo
import Derived.Test.YthieegnhjoehbaaFC
namespace Go.Proofs.Ythieegnhjoehbaa
open Go.RowKit Go.Vc Go.ChangeShapes Go.WideShapes
set_option linter.unusedVariables false
theorem opens_i64 : Opens Try.prog 3 1 (RInt .i64) := opens_int Try.underlying3 (by kernel_rfl)
theorem opens_u8 : Opens Try.prog 5 1 (RInt .u8) := opens_int Try.underlying5 (by kernel_rfl)
theorem opens_rg : Opens Try.prog 110 2 (RCons 1 (RInt .i64) (RCons 1 (RInt .i64) RNil)) :=
 opens_struct Try.underlying110 (by kernel_rfl) (fs_cons opens_i64 rfl (fs_cons opens_i64 rfl fs_nil))
def RRg : Rep (Int × Int) := fun _ r cs => cs = [.int .i64 r.1, .int .i64 r.2]
theorem opens_rgs : Opens Try.prog 57 1 (RSl 2 RRg) := opens_slice Try.underlying57 (by kernel_rfl) (opens_rg.map (S := RRg) (fun a => (a.1, a.2.1)) (by
 rintro C ⟨a, b, u⟩ cs ⟨c1, c2, rfl, _, ⟨rfl, _⟩, c3, c4, rfl, _, ⟨rfl, _⟩, rfl⟩
 rfl))
theorem opens_bs : Opens Try.prog 22 1 (RSl 1 (RInt .u8)) := opens_slice Try.underlying22 (by kernel_rfl) opens_u8
theorem rsl_rgs {C : Addr → Value → Prop} {l : List (Int × Int)} {cs : List Value} (h : RSl 2 RRg C l cs) : ∃ v, cs = [v] ∧ SlC C 2 v l.length (rgCells l) ∧ l.length ≤ maxLen := by
 obtain ⟨v, css, rfl, h1, h2, h3, h4⟩ := h
 have e : css = l.map fun r => [Value.int .i64 r.1, .int .i64 r.2] := by
  refine List.ext_getElem? fun i => ?_
  rw [List.getElem?_map]
  by_cases hi : i < l.length
  ·rw [List.getElem?_eq_getElem hi, List.getElem?_eq_getElem (by omega)]
   rw [(h2 i _ _ (List.getElem?_eq_getElem hi) (List.getElem?_eq_getElem (by omega))).1]
   rfl
  ·rw [List.getElem?_eq_none (by omega), List.getElem?_eq_none (by omega)]
   rfl
 refine ⟨v, rfl, ?_, h4⟩
 rw [e, ← List.flatMap_def] at h3
 exact h3
/-- A frame that came in. -/
def FrW : Rep Fr := fun C f cs => FrC C f cs ∧ Bytes f.data ∧ f.data.length ≤ maxLen ∧ f.rs.length ≤ maxLen
theorem opens_fr : Opens Try.prog 59 5 FrW :=
 (opens_struct Try.underlying59 (by kernel_rfl) (fs_cons opens_i64 rfl (fs_cons opens_i64 rfl (fs_cons opens_i64 rfl (fs_cons opens_rgs rfl (fs_cons opens_bs rfl fs_nil)))))).map (S := FrW)
  (fun a => ⟨a.1, a.2.1, a.2.2.1, a.2.2.2.1, a.2.2.2.2.1⟩) (by
   rintro C ⟨k, a, b, rs, d, u⟩ cs ⟨_, c1, rfl, _, ⟨rfl, _⟩, _, c2, rfl, _, ⟨rfl, _⟩, _, c3, rfl, _, ⟨rfl, _⟩, _, c4, rfl, _, hr, _, c5, rfl, _, hd, rfl⟩
   obtain ⟨rv, rfl, hr, hrl⟩ := rsl_rgs hr
   obtain ⟨dv, rfl, hd, hb, hdl⟩ := rsl_ints hd
   exact ⟨⟨rv, dv, rfl, hr, hd⟩, fun x hx => wf_u8 (hb x hx), hdl, hrl⟩)
theorem opens_frs : Opens Try.prog 23 1 (RSl 5 FrW) := opens_slice Try.underlying23 (by kernel_rfl) opens_fr
theorem rsl_frs {C : Addr → Value → Prop} {l : List Fr} {cs : List Value} (h : RSl 5 FrW C l cs) : ∃ v, cs = [v] ∧ FrsC C v l ∧ (∀ f ∈ l, Bytes f.data ∧ f.data.length ≤ maxLen ∧ f.rs.length ≤ maxLen) ∧ l.length ≤ maxLen := by
 obtain ⟨v, css, rfl, h1, h2, h3, h4⟩ := h
 refine ⟨v, rfl, ⟨css, h1, fun i f cs hf hc => (h2 i f cs hf hc).1.1, h3⟩, fun f hf => ?_, h4⟩
 obtain ⟨i, hi, rfl⟩ := List.getElem_of_mem hf
 exact (h2 i _ _ (List.getElem?_eq_getElem hi) (List.getElem?_eq_getElem (by omega))).1.2
set_option maxRecDepth 100000 in
/-- A parameter []Frame. -/
theorem open_frames {H : Type} {enc : TypeId × Value → H} {W : World} {base : Nat} {sp : Nat → Bool} {hd : Bool} {r : Reach} {b0 : Nat} {v : Value} {d : DataW H} {ps : List MemPlace}
  (hv : Value.okWide Try.prog W r b0 23 v) (h : DataW.Trod enc Try.prog W base sp hd 23 v d ps) :
  ∃ fs : List Fr, FrsC (fun p x => W.cell? p = some x) v fs ∧ (∀ f ∈ fs, Bytes f.data ∧ f.data.length ≤ maxLen ∧ f.rs.length ≤ maxLen) ∧ fs.length ≤ maxLen := by
 obtain ⟨a0, len, cap, rfl⟩ := okWide_slice Try.underlying23 hv
 obtain ⟨_, fs, hf⟩ := opens_frs.arg h
 obtain ⟨v, hc, h1, h2, h3⟩ := rsl_frs hf
 cases hc
 exact ⟨fs, h1, h2, h3⟩
set_option maxRecDepth 100000 in
/-- A parameter Frame. -/
theorem open_frame {H : Type} {enc : TypeId × Value → H} {W : World} {base : Nat} {sp : Nat → Bool} {hd : Bool} {r : Reach} {b0 : Nat} {v : Value} {d : DataW H} {ps : List MemPlace}
  (hv : Value.okWide Try.prog W r b0 59 v) (h : DataW.Trod enc Try.prog W base sp hd 59 v d ps) :
  ∃ (f : Fr) (cs : List Value), v = .agg cs.toArray ∧ FrC (fun p x => W.cell? p = some x) f cs ∧ Bytes f.data ∧ f.data.length ≤ maxLen ∧ f.rs.length ≤ maxLen := by
 obtain ⟨cs, rfl, _⟩ := okWide_struct Try.underlying59 hv
 obtain ⟨_, f, h1, h2⟩ := opens_fr.arg h
 exact ⟨f, cs.toList, by simp, h1, h2⟩
end Go.Proofs.Ythieegnhjoehbaa
