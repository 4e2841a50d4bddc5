/- Screens and terminals that came in, opened. -/
import Derived.Test.YtadginombcjbeaaT19
import Derived.Test.YtadginombcjbeaaVo
namespace Go.Proofs.Ytadginombcjbeaa
open Go.RowKit Go.Vc Go.ChangeShapes Go.WideShapes
set_option linter.unusedVariables false
theorem opens_i64 : Opens Try.prog 3 1 (RInt .i64) := opens_int Try.underlying3 (by kernel_rfl)
theorem opens_b : Opens Try.prog 4 1 RBool := opens_bool Try.underlying4 (by kernel_rfl)
theorem opens_arr3 : Opens Try.prog 30 (3 * 1) (RArr 3 1 (RInt .i64)) := opens_array Try.underlying30 (by kernel_rfl) opens_i64
def RCe : Rep Ce := fun _ r cs => cs = [.int .i64 r.1, .int .i64 r.2]
theorem opens_ce0 : Opens Try.prog 48 2 (RCons 1 (RInt .i64) (RCons 1 (RInt .i64) RNil)) :=
 opens_struct Try.underlying48 (by kernel_rfl) (fs_cons opens_i64 rfl (fs_cons opens_i64 rfl fs_nil))
theorem opens_ces : Opens Try.prog 29 1 (RSl 2 RCe) := opens_slice Try.underlying29 (by kernel_rfl) (opens_ce0.map (S := RCe) (fun a => (a.1, a.2.1)) (by
 rintro C ⟨a, b, u⟩ cs ⟨c1, c2, rfl, _, ⟨rfl, _⟩, c3, c4, rfl, _, ⟨rfl, _⟩, rfl⟩
 rfl))
theorem rsl_ces {C : Addr → Value → Prop} {l : List Ce} {cs : List Value} (h : RSl 2 RCe C l cs) : ∃ v, cs = [v] ∧ SlC C 2 v l.length (ceR l) ∧ l.length ≤ maxLen := by
 obtain ⟨v, css, rfl, h1, h2, h3, h4⟩ := h
 have e : css = l.map fun r => [Value.int .i64 r.1, .int .i64 r.2] := by
  refine List.ext_getElem? fun i => ?_
  rw [List.getElem?_map]
  by_cases hi : i < l.length
  ·rw [List.getElem?_eq_getElem hi, List.getElem?_eq_getElem (by omega)]
   rw [(h2 i _ _ (List.getElem?_eq_getElem hi) (List.getElem?_eq_getElem (by omega))).1]
   rfl
  ·rw [List.getElem?_eq_none (by omega), List.getElem?_eq_none (by omega)]
   rfl
 refine ⟨v, rfl, ?_, h4⟩
 rw [e, ← List.flatMap_def] at h3
 exact h3
theorem flat3 {C : Addr → Value → Prop} {l : List Int} {cs : List Value} (h : RArr 3 1 (RInt .i64) C l cs) : ∃ x y z, cs = [.int .i64 x, .int .i64 y, .int .i64 z] := by
 obtain ⟨css, h1, h2, h3, rfl⟩ := h
 match css, l, h1, h2, h3 with
 | [c1, c2, c3], [x, y, z], _, _, h3 =>
  have e1 := (h3 0 x c1 rfl rfl).1.1
  have e2 := (h3 1 y c2 rfl rfl).1.1
  have e3 := (h3 2 z c3 rfl rfl).1.1
  exact ⟨x, y, z, by rw [e1, e2, e3]; rfl⟩
theorem opens_sc0 : Opens Try.prog 32 16 (RCons 1 (RInt .i64) (RCons 1 (RInt .i64) (RCons 1 (RSl 2 RCe) (RCons 1 (RInt .i64) (RCons 1 (RInt .i64) (RCons 1 (RInt .i64) (RCons 1 (RInt .i64) (RCons 1 (RInt .i64)
  (RCons 1 RBool (RCons 1 RBool (RCons 1 RBool (RCons 1 RBool (RCons 3 (RArr 3 1 (RInt .i64)) (RCons 1 (RSl 2 RCe) RNil)))))))))))))) :=
 opens_struct Try.underlying32 (by kernel_rfl) (fs_cons opens_i64 rfl (fs_cons opens_i64 rfl (fs_cons opens_ces rfl (fs_cons opens_i64 rfl (fs_cons opens_i64 rfl (fs_cons opens_i64 rfl (fs_cons opens_i64 rfl (fs_cons opens_i64 rfl
  (fs_cons opens_b rfl (fs_cons opens_b rfl (fs_cons opens_b rfl (fs_cons opens_b rfl (fs_cons opens_arr3 rfl (fs_cons opens_ces rfl fs_nil))))))))))))))
set_option maxRecDepth 100000 in
/-- A parameter Screen. -/
theorem open_screen {H : Type} {enc : TypeId × Value → H} {W : World} {base : Nat} {sp : Nat → Bool} {hd : Bool} {r : Reach} {b0 : Nat} {v : Value} {d : DataW H} {ps : List MemPlace}
  (hv : Value.okWide Try.prog W r b0 32 v) (h : DataW.Trod enc Try.prog W base sp hd 32 v d ps) :
  ∃ (s : Scr) (cs : List Value), v = .agg cs.toArray ∧ ScV (At W) s cs ∧ s.cells.length ≤ maxLen ∧ s.main.length ≤ maxLen := by
 obtain ⟨cs, rfl, _⟩ := okWide_struct Try.underlying32 hv
 obtain ⟨_, ⟨W', H', l, X, Y, A, t, b, w, a, hi, al, sv, l2, u⟩, h0⟩ := opens_sc0.arg h
 obtain ⟨_, d1, e1, _, ⟨rfl, _⟩, _, d2, rfl, _, ⟨rfl, _⟩, _, d3, rfl, _, k3, _, d4, rfl, _, ⟨rfl, _⟩, _, d5, rfl, _, ⟨rfl, _⟩, _, d6, rfl, _, ⟨rfl, _⟩, _, d7, rfl, _, ⟨rfl, _⟩, _, d8, rfl, _, ⟨rfl, _⟩,
  _, d9, rfl, _, rfl, _, d10, rfl, _, rfl, _, d11, rfl, _, rfl, _, d12, rfl, _, rfl, _, d13, rfl, _, k13, _, d14, rfl, _, k14, rfl⟩ := h0
 obtain ⟨v3, rfl, q3, m3⟩ := rsl_ces k3
 obtain ⟨s0, s1, s2, rfl⟩ := flat3 k13
 obtain ⟨v14, rfl, q14, m14⟩ := rsl_ces k14
 refine ⟨⟨W', H', l, X, Y, A, t, b, w, a, hi, al, s0, s1, s2, l2⟩, cs.toList, by rw [Array.toArray_toList], ⟨v3, v14, e1, q3, q14⟩, m3, m14⟩
theorem flat8 {C : Addr → Value → Prop} {l : List Int} {cs : List Value} (h : RArr 8 1 (RInt .i64) C l cs) : ∃ ps : List Int, ps.length = 8 ∧ cs = ints .i64 ps := by
 obtain ⟨css, h1, h2, h3, rfl⟩ := h
 match css, l, h1, h2, h3 with
 | [c1, c2, c3, c4, c5, c6, c7, c8], [x1, x2, x3, x4, x5, x6, x7, x8], _, _, h3 =>
  have e1 := (h3 0 x1 c1 rfl rfl).1.1
  have e2 := (h3 1 x2 c2 rfl rfl).1.1
  have e3 := (h3 2 x3 c3 rfl rfl).1.1
  have e4 := (h3 3 x4 c4 rfl rfl).1.1
  have e5 := (h3 4 x5 c5 rfl rfl).1.1
  have e6 := (h3 5 x6 c6 rfl rfl).1.1
  have e7 := (h3 6 x7 c7 rfl rfl).1.1
  have e8 := (h3 7 x8 c8 rfl rfl).1.1
  exact ⟨[x1, x2, x3, x4, x5, x6, x7, x8], rfl, by rw [e1, e2, e3, e4, e5, e6, e7, e8]; rfl⟩
abbrev RUt := RCons 1 (RInt .i64) (RCons 1 (RInt .i64) (RCons 1 (RInt .i64) RNil))
abbrev RAc := RCons 1 (RInt .i64) (RCons 1 (RInt .i64) (RCons 1 RBool (RCons 1 (RInt .i64) (RCons 8 (RArr 8 1 (RInt .i64)) RNil))))
abbrev RPa := RCons 1 (RInt .i64) (RCons 12 RAc RNil)
abbrev RSc := RCons 1 (RInt .i64) (RCons 1 (RInt .i64) (RCons 1 (RSl 2 RCe) (RCons 1 (RInt .i64) (RCons 1 (RInt .i64) (RCons 1 (RInt .i64) (RCons 1 (RInt .i64) (RCons 1 (RInt .i64)
  (RCons 1 RBool (RCons 1 RBool (RCons 1 RBool (RCons 1 RBool (RCons 3 (RArr 3 1 (RInt .i64)) (RCons 1 (RSl 2 RCe) RNil)))))))))))))
theorem opens_arr8 : Opens Try.prog 24 (8 * 1) (RArr 8 1 (RInt .i64)) := opens_array Try.underlying24 (by kernel_rfl) opens_i64
theorem opens_ut : Opens Try.prog 23 3 RUt := opens_struct Try.underlying23 (by kernel_rfl) (fs_cons opens_i64 rfl (fs_cons opens_i64 rfl (fs_cons opens_i64 rfl fs_nil)))
theorem opens_ac : Opens Try.prog 26 12 RAc := opens_struct Try.underlying26 (by kernel_rfl) (fs_cons opens_i64 rfl (fs_cons opens_i64 rfl (fs_cons opens_b rfl (fs_cons opens_i64 rfl (fs_cons opens_arr8 rfl fs_nil)))))
theorem opens_pa : Opens Try.prog 28 13 RPa := opens_struct Try.underlying28 (by kernel_rfl) (fs_cons opens_i64 rfl (fs_cons opens_ac rfl fs_nil))
theorem opens_tm : Opens Try.prog 34 32 (RCons 3 RUt (RCons 13 RPa (RCons 16 RSc RNil))) := opens_struct Try.underlying34 (by kernel_rfl) (fs_cons opens_ut rfl (fs_cons opens_pa rfl (fs_cons opens_sc0 rfl fs_nil)))
set_option maxRecDepth 100000 in
/-- A parameter Term. -/
theorem open_term {H : Type} {enc : TypeId × Value → H} {W : World} {base : Nat} {sp : Nat → Bool} {hd : Bool} {r : Reach} {b0 : Nat} {v : Value} {d : DataW H} {ps : List MemPlace}
  (hv : Value.okWide Try.prog W r b0 34 v) (h : DataW.Trod enc Try.prog W base sp hd 34 v d ps) :
  ∃ (t : Tm) (cs : List Value), v = .agg (tmL t.ut t.pa cs).toArray ∧ ScV (At W) t.s cs ∧ t.s.cells.length ≤ maxLen ∧ t.s.main.length ≤ maxLen ∧ Ac8 t.pa.act := by
 obtain ⟨cs, rfl, _⟩ := okWide_struct Try.underlying34 hv
 obtain ⟨_, ⟨⟨n1, n2, n3, un⟩, ⟨st, ⟨kd, ru, mk, mn, pz, ua⟩, up⟩, ⟨W', H', l, X, Y, A, t, b, w, a, hi, al, sv, l2, u⟩, uz⟩, h0⟩ := opens_tm.arg h
 obtain ⟨cu, cr, eT, _, hu, cp, cq, rfl, _, hp, cs2, ce, rfl, _, hsr, rfl⟩ := h0
 obtain ⟨_, x1, rfl, _, ⟨rfl, _⟩, _, x2, rfl, _, ⟨rfl, _⟩, _, x3, rfl, _, ⟨rfl, _⟩, rfl⟩ := hu
 obtain ⟨_, y1, rfl, _, ⟨rfl, _⟩, ca, y2, rfl, _, ha, rfl⟩ := hp
 obtain ⟨_, z1, rfl, _, ⟨rfl, _⟩, _, z2, rfl, _, ⟨rfl, _⟩, _, z3, rfl, _, rfl, _, z4, rfl, _, ⟨rfl, _⟩, _, z5, rfl, _, k8, rfl⟩ := ha
 obtain ⟨_, d1, e1, _, ⟨rfl, _⟩, _, d2, rfl, _, ⟨rfl, _⟩, _, d3, rfl, _, k3, _, d4, rfl, _, ⟨rfl, _⟩, _, d5, rfl, _, ⟨rfl, _⟩, _, d6, rfl, _, ⟨rfl, _⟩, _, d7, rfl, _, ⟨rfl, _⟩, _, d8, rfl, _, ⟨rfl, _⟩,
  _, d9, rfl, _, rfl, _, d10, rfl, _, rfl, _, d11, rfl, _, rfl, _, d12, rfl, _, rfl, _, d13, rfl, _, k13, _, d14, rfl, _, k14, rfl⟩ := hsr
 obtain ⟨v3, rfl, q3, m3⟩ := rsl_ces k3
 obtain ⟨s0, s1, s2, rfl⟩ := flat3 k13
 obtain ⟨v14, rfl, q14, m14⟩ := rsl_ces k14
 obtain ⟨qs, hq8, rfl⟩ := flat8 k8
 subst e1
 refine ⟨⟨⟨n1, n2, n3⟩, ⟨st, ⟨kd, ru, mk, mn, qs⟩⟩, ⟨W', H', l, X, Y, A, t, b, w, a, hi, al, s0, s1, s2, l2⟩⟩, _, ?_, ⟨v3, v14, rfl, q3, q14⟩, m3, m14, hq8⟩
 refine congrArg Value.agg ?_
 have eT : cs.toList = _ := eT
 rw [← Array.toArray_toList (xs := cs), eT]
 simp only [tmL, utC, paC, acC, List.cons_append, List.nil_append, List.append_nil]
 rfl
end Go.Proofs.Ytadginombcjbeaa
