/- The document's reading of one frame, walked. -/
import Derived.Test.YtphpmallnlajjaaF28
import Derived.Test.YtphpmallnlajjaaF30
import Derived.Test.YtphpmallnlajjaaF31
namespace Go.Proofs.Ytphpmallnlajjaa
open Go.RowKit Go.Vc
set_option linter.unusedVariables false

theorem res_cell_tmp {B : Tb} {rs : Rs} {m : Mem} {fn : Func} {t u : Tmp} {T : TypeId} {b off i : Nat} {e : Ent} {d : Ty} {vs : List Value} {x : Value} (h : fn.results = #[.cell t T, .tmp u])
    (hx : Vc.look rs t = some (.pointer (some ⟨b, off, none⟩))) (hT : B.ty T = some d) (hd : d.agg = true) (he : nth m i = some e) (hb : e.blk = b)
    (hl : off + d.size ≤ e.cells.length) (hv : (e.cells.drop off).take d.size = vs) (hu : Vc.look rs u = some x) : ResIs B fn rs m (.tuple #[.agg vs.toArray, x]) := by
  refine ⟨fun a w hr hh => ?_⟩
  have h1 := hr t _ hx
  have h2 := hr u _ hu
  have hc := hh.cell (nth_mem he)
  rw [hb] at hc
  subst hv
  simp [results, h, Array.getD_eq_getD_getElem?, h1, h2, asAddr, loadVar, ty_agg hT, hd, ty_size hT, run_loadCells0 hc _ hl]

/-! the tables of numbers and places -/
def nL (P : List (Int × Nat)) : List Int := P.map Prod.fst ++ zeros (40 - P.length)
def aL (P : List (Int × Nat)) : List Int := 0 :: (P.map (fun p => (p.2 : Int)) ++ zeros (40 - P.length))
theorem nL_len {P : List (Int × Nat)} (h : P.length ≤ 40) : (nL P).length = 40 := by unfold nL; rw [List.length_append, List.length_map, zeros_len]; omega
theorem aL_len {P : List (Int × Nat)} (h : P.length ≤ 40) : (aL P).length = 41 := by unfold aL; rw [List.length_cons, List.length_append, List.length_map, zeros_len]; omega
theorem zeros_get {n i : Nat} (h : i < n) : (zeros n)[i]? = some 0 := by unfold zeros; rw [List.getElem?_replicate, if_pos h]
theorem nL_at {P : List (Int × Nat)} (h : P.length ≤ 40) {i : Nat} (hi : i < 40) : (ints .i64 (nL P))[i]? = some (.int .i64 (pN P i)) := by
  unfold ints nL pN
  rw [List.getElem?_map, List.getD_eq_getElem?_getD]
  by_cases hl : i < P.length
  · rw [List.getElem?_append_left (by simpa using hl), List.getElem?_map, List.getElem?_eq_getElem hl]
    rfl
  · rw [List.getElem?_append_right (by simpa using hl), List.length_map, zeros_get (by omega), List.getElem?_eq_none (by simpa using hl)]
    rfl
theorem aL_at {P : List (Int × Nat)} (h : P.length ≤ 40) {i : Nat} (hi : i ≤ 40) : (ints .i64 (aL P))[i]? = some (.int .i64 (pA P i)) := by
  unfold ints aL pA
  rw [List.getElem?_map, List.getD_eq_getElem?_getD]
  cases i with
  | zero => rfl
  | succ i =>
    rw [List.getElem?_cons_succ, List.getElem?_cons_succ]
    by_cases hl : i < P.length
    · rw [List.getElem?_append_left (by simpa using hl), List.getElem?_map, List.getElem?_map, List.getElem?_eq_getElem hl]
      rfl
    · rw [List.getElem?_append_right (by simpa using hl), List.length_map, zeros_get (by omega), List.getElem?_eq_none (by simpa using hl)]
      rfl
theorem nL_set {P : List (Int × Nat)} {n : Int} {o : Nat} (h : P.length < 40) : (ints .i64 (nL P)).set P.length (.int .i64 n) = ints .i64 (nL (P ++ [(n, o)])) := by
  unfold nL ints
  rw [← List.map_set]
  congr 1
  rw [show 40 - P.length = (40 - (P.length + 1)) + 1 by omega, List.map_append, List.length_append, List.length_singleton]
  rw [List.set_append_right _ _ (by simp), List.length_map, Nat.sub_self]
  show _ ++ (0 :: zeros _).set 0 n = _
  simp
theorem aL_set {P : List (Int × Nat)} {n : Int} {o : Nat} (h : P.length < 40) : (ints .i64 (aL P)).set (P.length + 1) (.int .i64 (o : Int)) = ints .i64 (aL (P ++ [(n, o)])) := by
  unfold aL ints
  rw [← List.map_set]
  congr 1
  rw [List.set_cons_succ, show 40 - P.length = (40 - (P.length + 1)) + 1 by omega, List.map_append, List.length_append, List.length_singleton]
  rw [List.set_append_right _ _ (by simp), List.length_map, Nat.sub_self]
  show 0 :: (_ ++ (0 :: zeros _).set 0 (o : Int)) = _
  simp
theorem pA_snoc {P : List (Int × Nat)} {n : Int} {o : Nat} : pA (P ++ [(n, o)]) (P.length + 1) = o := by
  unfold pA
  rw [List.map_append, List.getD_eq_getElem?_getD, List.getElem?_cons_succ, List.getElem?_append_right (by simp)]
  simp
theorem ps_len : ∀ (k : Nat) (b : List Int) (o : Nat), (ps k b o).length ≤ k
  | 0, _, _ => Nat.zero_le _
  | k + 1, b, o => by
    unfold ps
    split
    · exact Nat.zero_le _
    · rename_i n s _
      have := ps_len k b (o + s)
      simp
      omega
theorem ps_le : ∀ (k : Nat) (b : List Int) (o : Nat), Bytes b → o ≤ b.length → ∀ x ∈ ps k b o, x.2 ≤ b.length
  | 0, _, _, _, _, x, hx => by cases hx
  | k + 1, b, o, hb, ho, x, hx => by
    unfold ps at hx
    split at hx
    · cases hx
    · rename_i n s hg
      have h1 := (vb_gt (fun y hy => hb y (List.mem_of_mem_drop hy)) hg).2.2.2.1
      rw [List.length_drop] at h1
      rcases List.mem_cons.1 hx with rfl | hx
      · show o + s ≤ _
        omega
      · exact ps_le k b (o + s) hb (by omega) x hx
theorem pA_le {b : List Int} (hb : Bytes b) (k i : Nat) : pA (ps k b 0) i ≤ b.length := by
  unfold pA
  rw [List.getD_eq_getElem?_getD]
  cases i with
  | zero => exact Nat.zero_le _
  | succ i =>
    rw [List.getElem?_cons_succ, List.getElem?_map]
    cases h : (ps k b 0)[i]? with
    | none => exact Nat.zero_le _
    | some x => exact ps_le k b 0 hb (Nat.zero_le _) x (List.mem_of_getElem? h)
theorem ps_num : ∀ (k : Nat) (b : List Int) (o : Nat), Bytes b → ∀ x ∈ ps k b o, 0 ≤ x.1 ∧ x.1 < 4611686018427387904
  | 0, _, _, _, x, hx => by cases hx
  | k + 1, b, o, hb, x, hx => by
    unfold ps at hx
    split at hx
    · cases hx
    · rename_i n s hg
      have h1 := vb_gt (fun y hy => hb y (List.mem_of_mem_drop hy)) hg
      rcases List.mem_cons.1 hx with rfl | hx
      · exact ⟨h1.1, h1.2.1⟩
      · exact ps_num k b (o + s) hb x hx
theorem pN_in {b : List Int} (hb : Bytes b) (k i : Nat) : 0 ≤ pN (ps k b 0) i ∧ pN (ps k b 0) i < 4611686018427387904 := by
  unfold pN
  rw [List.getD_eq_getElem?_getD, List.getElem?_map]
  cases h : (ps k b 0)[i]? with
  | none => exact ⟨by decide, by decide⟩
  | some x => exact ps_num k b 0 hb x (List.mem_of_getElem? h)
theorem rg_snoc (g : Nat → Int × Int) (i : Nat) : rgCells ((List.range (i + 1)).map g) = rgCells ((List.range i).map g) ++ [.int .i64 (g i).1, .int .i64 (g i).2] := by
  unfold rgCells
  rw [List.range_succ, List.map_append, List.flatMap_append]
  rfl
def OneR (b : List Int) (u : Value) (C : Addr → Value → Prop) : Prop := match oneP b with
  | none => ∃ cs : List Value, cs.length = 5 ∧ (∀ v ∈ cs, v.oneCell' = true) ∧ u = .tuple #[.agg cs.toArray, .int .i64 (-1)]
  | some f => ∃ cs : List Value, u = .tuple #[.agg cs.toArray, .int .i64 ((fbytes f).length : Int)] ∧ FrC C f cs
theorem oneR_mono (b : List Int) : ∀ v (C C' : Addr → Value → Prop), (∀ p x, C p x → C' p x) → OneR b v C → OneR b v C' := by
  intro v C C' hC h
  unfold OneR at h ⊢
  cases ho : oneP b with
  | none => rw [ho] at h; exact h
  | some f =>
    rw [ho] at h
    obtain ⟨cs, h1, h2⟩ := h
    exact ⟨cs, h1, h2.mono hC⟩
def zfr : List Value := [.int .i64 0, .int .i64 0, .int .i64 0, .slice none 0 0, .slice none 0 0]
theorem oneR_no {b : List Int} {C : Addr → Value → Prop} (h : oneP b = none) : OneR b (.tuple #[.agg zfr.toArray, .int .i64 (-1)]) C := by
  unfold OneR
  rw [h]
  exact ⟨zfr, rfl, by intro v hv; simp [zfr] at hv; rcases hv with rfl | rfl | rfl | rfl | rfl <;> rfl, rfl⟩
theorem cnt_le (P : List (Int × Nat)) : cnt P ≤ 16 := by
  unfold cnt
  split <;> omega
theorem used1_le (P : List (Int × Nat)) : used1 P ≤ 36 := by
  have := cnt_le P
  unfold used1 used0
  split <;> split <;> (try split) <;> (try split) <;> omega
theorem used0_le (P : List (Int × Nat)) : used0 P ≤ 35 := by
  have := cnt_le P
  unfold used0
  split <;> (try split) <;> (try split) <;> omega
theorem rg_one {C : Addr → Value → Prop} (v : Value) (l : List (Int × Int)) : ∀ x ∈ rgCells l, x.oneCell' = true := by
  intro x hx
  obtain ⟨r, _, hx⟩ := List.mem_flatMap.1 hx
  simp at hx
  rcases hx with rfl | rfl <;> rfl
end Go.Proofs.Ytphpmallnlajjaa
