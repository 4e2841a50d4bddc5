/- Screens and orders that came in, opened. -/
import Derived.Test.YtbcpgdjhomoghaaG18
import Derived.Test.YtbcpgdjhomoghaaVo
namespace Go.Proofs.Ytbcpgdjhomoghaa
open Go.RowKit Go.Vc Go.ChangeShapes Go.WideShapes
set_option linter.unusedVariables false
theorem opens_i64 : Opens Try.prog 3 1 (RInt .i64) := opens_int Try.underlying3 (by kernel_rfl)
theorem opens_b : Opens Try.prog 4 1 RBool := opens_bool Try.underlying4 (by kernel_rfl)
theorem opens_arr3 : Opens Try.prog 25 (3 * 1) (RArr 3 1 (RInt .i64)) := opens_array Try.underlying25 (by kernel_rfl) opens_i64
def RCe : Rep Ce := fun _ r cs => cs = [.int .i64 r.1, .int .i64 r.2]
theorem opens_ce0 : Opens Try.prog 33 2 (RCons 1 (RInt .i64) (RCons 1 (RInt .i64) RNil)) :=
 opens_struct Try.underlying33 (by kernel_rfl) (fs_cons opens_i64 rfl (fs_cons opens_i64 rfl fs_nil))
theorem opens_ces : Opens Try.prog 24 1 (RSl 2 RCe) := opens_slice Try.underlying24 (by kernel_rfl) (opens_ce0.map (S := RCe) (fun a => (a.1, a.2.1)) (by
 rintro C ⟨a, b, u⟩ cs ⟨c1, c2, rfl, _, ⟨rfl, _⟩, c3, c4, rfl, _, ⟨rfl, _⟩, rfl⟩
 rfl))
theorem rsl_ces {C : Addr → Value → Prop} {l : List Ce} {cs : List Value} (h : RSl 2 RCe C l cs) : ∃ v, cs = [v] ∧ SlC C 2 v l.length (ceR l) ∧ l.length ≤ maxLen := by
 obtain ⟨v, css, rfl, h1, h2, h3, h4⟩ := h
 have e : css = l.map fun r => [Value.int .i64 r.1, .int .i64 r.2] := by
  refine List.ext_getElem? fun i => ?_
  rw [List.getElem?_map]
  by_cases hi : i < l.length
  ·rw [List.getElem?_eq_getElem hi, List.getElem?_eq_getElem (by omega)]
   rw [(h2 i _ _ (List.getElem?_eq_getElem hi) (List.getElem?_eq_getElem (by omega))).1]
   rfl
  ·rw [List.getElem?_eq_none (by omega), List.getElem?_eq_none (by omega)]
   rfl
 refine ⟨v, rfl, ?_, h4⟩
 rw [e, ← List.flatMap_def] at h3
 exact h3
theorem flat3 {C : Addr → Value → Prop} {l : List Int} {cs : List Value} (h : RArr 3 1 (RInt .i64) C l cs) : ∃ x y z, cs = [.int .i64 x, .int .i64 y, .int .i64 z] := by
 obtain ⟨css, h1, h2, h3, rfl⟩ := h
 match css, l, h1, h2, h3 with
 | [c1, c2, c3], [x, y, z], _, _, h3 =>
  have e1 := (h3 0 x c1 rfl rfl).1.1
  have e2 := (h3 1 y c2 rfl rfl).1.1
  have e3 := (h3 2 z c3 rfl rfl).1.1
  exact ⟨x, y, z, by rw [e1, e2, e3]; rfl⟩
theorem opens_sc0 : Opens Try.prog 27 16 (RCons 1 (RInt .i64) (RCons 1 (RInt .i64) (RCons 1 (RSl 2 RCe) (RCons 1 (RInt .i64) (RCons 1 (RInt .i64) (RCons 1 (RInt .i64) (RCons 1 (RInt .i64) (RCons 1 (RInt .i64)
  (RCons 1 RBool (RCons 1 RBool (RCons 1 RBool (RCons 1 RBool (RCons 3 (RArr 3 1 (RInt .i64)) (RCons 1 (RSl 2 RCe) RNil)))))))))))))) :=
 opens_struct Try.underlying27 (by kernel_rfl) (fs_cons opens_i64 rfl (fs_cons opens_i64 rfl (fs_cons opens_ces rfl (fs_cons opens_i64 rfl (fs_cons opens_i64 rfl (fs_cons opens_i64 rfl (fs_cons opens_i64 rfl (fs_cons opens_i64 rfl
  (fs_cons opens_b rfl (fs_cons opens_b rfl (fs_cons opens_b rfl (fs_cons opens_b rfl (fs_cons opens_arr3 rfl (fs_cons opens_ces rfl fs_nil))))))))))))))
set_option maxRecDepth 100000 in
/-- A parameter Screen. -/
theorem open_screen {H : Type} {enc : TypeId × Value → H} {W : World} {base : Nat} {sp : Nat → Bool} {hd : Bool} {r : Reach} {b0 : Nat} {v : Value} {d : DataW H} {ps : List MemPlace}
  (hv : Value.okWide Try.prog W r b0 27 v) (h : DataW.Trod enc Try.prog W base sp hd 27 v d ps) :
  ∃ (s : Scr) (cs : List Value), v = .agg cs.toArray ∧ ScV (At W) s cs ∧ s.cells.length ≤ maxLen ∧ s.main.length ≤ maxLen := by
 obtain ⟨cs, rfl, _⟩ := okWide_struct Try.underlying27 hv
 obtain ⟨_, ⟨W', H', l, X, Y, A, t, b, w, a, hi, al, sv, l2, u⟩, h0⟩ := opens_sc0.arg h
 obtain ⟨_, d1, e1, _, ⟨rfl, _⟩, _, d2, rfl, _, ⟨rfl, _⟩, _, d3, rfl, _, k3, _, d4, rfl, _, ⟨rfl, _⟩, _, d5, rfl, _, ⟨rfl, _⟩, _, d6, rfl, _, ⟨rfl, _⟩, _, d7, rfl, _, ⟨rfl, _⟩, _, d8, rfl, _, ⟨rfl, _⟩,
  _, d9, rfl, _, rfl, _, d10, rfl, _, rfl, _, d11, rfl, _, rfl, _, d12, rfl, _, rfl, _, d13, rfl, _, k13, _, d14, rfl, _, k14, rfl⟩ := h0
 obtain ⟨v3, rfl, q3, m3⟩ := rsl_ces k3
 obtain ⟨s0, s1, s2, rfl⟩ := flat3 k13
 obtain ⟨v14, rfl, q14, m14⟩ := rsl_ces k14
 refine ⟨⟨W', H', l, X, Y, A, t, b, w, a, hi, al, s0, s1, s2, l2⟩, cs.toList, by rw [Array.toArray_toList], ⟨v3, v14, e1, q3, q14⟩, m3, m14⟩
/-! orders -/
def OpC (C : Addr → Value → Prop) (v : Value) (l : List (Int × Int × Int)) : Prop := ∃ base cap, v = .slice base l.length cap ∧ ∀ (i : Nat) (o : Int × Int × Int), l[i]? = some o → ∃ p, base = some p ∧ ∀ j x, [Value.int .i64 o.1, .int .i64 o.2.1, .int .i64 o.2.2][j]? = some x → C ((p.add (i * 3)).add j) x
theorem OpC.mono {C C' : Addr → Value → Prop} {v : Value} {l : List (Int × Int × Int)} (h : OpC C v l) (hC : ∀ p x, C p x → C' p x) : OpC C' v l := by
 obtain ⟨base, cap, rfl, h1⟩ := h
 refine ⟨base, cap, rfl, fun i o ho => ?_⟩
 obtain ⟨p, hp, hq⟩ := h1 i o ho
 exact ⟨p, hp, fun j x hx => hC _ _ (hq j x hx)⟩
end Go.Proofs.Ytbcpgdjhomoghaa
