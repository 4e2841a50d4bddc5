/- What is written is read, and what is read was written so. Plain. -/
import Derived.Test.YtphpmallnlajjaaF20
namespace Go.Proofs.Ytphpmallnlajjaa
open Go.RowKit Go.Vc
set_option linter.unusedVariables false
set_option linter.unusedSimpArgs false

theorem rdN_vb {n : Int} (r : List Int) (h0 : 0 ≤ n) (h1 : n < 4611686018427387904) : rdN (vb n ++ r, false) = (n, (r, false)) := by
  have h := gt_vb n r h0 h1
  unfold rdN gN gS
  rw [show (vb n ++ r, false).1 = vb n ++ r from rfl, h]
  simp [← vb_len]
theorem rdN_back {s : St} (hb : Bytes s.1) (h : (rdN s).2.2 = false) : s.2 = false ∧ s.1 = vb (rdN s).1 ++ (rdN s).2.1 ∧ 0 ≤ (rdN s).1 ∧ (rdN s).1 < 4611686018427387904 := by
  obtain ⟨b, l⟩ := s
  unfold rdN gN gS at h ⊢
  dsimp only at h hb ⊢
  cases hg : gt b with
  | none => rw [hg] at h; simp at h
  | some p =>
    obtain ⟨n, k⟩ := p
    rw [hg] at h
    obtain ⟨h1, h2, h3, h4, h5, h6⟩ := vb_gt hb hg
    simp at h ⊢
    exact ⟨h, by rw [← h5, List.take_append_drop], h1, h2⟩
theorem rdN_bytes {s : St} (hb : Bytes s.1) : Bytes (rdN s).2.1 := fun x hx => hb x (List.mem_of_mem_drop hx)
theorem rdD_bytes {s : St} (hb : Bytes s.1) (n : Int) : Bytes (rdD s n).2.1 := fun x hx => hb x (List.mem_of_mem_drop hx)
theorem rdD_take {s : St} (hb : Bytes s.1) (n : Int) : Bytes (rdD s n).1 := fun x hx => hb x (List.mem_of_mem_take hx)
theorem rdD_app (d r : List Int) : rdD (d ++ r, false) (d.length : Int) = (d, (r, false)) := by
  have hk : dK (d ++ r) (d.length : Int) = d.length := by
    unfold dK
    rw [if_pos ⟨by omega, by rw [List.length_append]; omega⟩, Int.toNat_natCast]
  have hz : dBad (d ++ r) (d.length : Int) = false := by
    unfold dBad
    rw [decide_eq_true (by omega : (0 : Int) ≤ (d.length : Int)), decide_eq_true (by rw [List.length_append]; omega : ((d.length : Int)) ≤ ((d ++ r).length : Int))]
    rfl
  unfold rdD
  dsimp only
  rw [hk, hz]
  simp
theorem rdD_back {s : St} {n : Int} (h : (rdD s n).2.2 = false) : s.2 = false ∧ s.1 = (rdD s n).1 ++ (rdD s n).2.1 ∧ ((rdD s n).1.length : Int) = n := by
  obtain ⟨b, l⟩ := s
  have hl := rdD_len (b, l) n
  unfold rdD at h hl ⊢
  dsimp only at h hl ⊢
  rw [Bool.or_eq_false_iff] at h
  refine ⟨h.1, (List.take_append_drop _ _).symm, ?_⟩
  rw [hl]
  have := h.2
  unfold dBad at this
  simp at this
  unfold dK
  rw [if_pos this]
  omega
theorem rdRs_vb (rs : List (Int × Int)) (r : List Int) (h : ∀ p ∈ rs, 0 ≤ p.1 ∧ p.1 ≤ p.2 ∧ p.2 ≤ 4611686018427387903) : ∀ k, k ≤ rs.length → rdRs ((nuR rs).flatMap vb ++ r, false) k = (rs.take k, ((nuR (rs.drop k)).flatMap vb ++ r, false)) := by
  intro k
  induction k with
  | zero => intro _; simp [rdRs]
  | succ k ih =>
    intro hk
    have hlt : k < rs.length := by omega
    have hp := h _ (List.getElem_mem hlt)
    have e : (nuR (rs.drop k)).flatMap vb ++ r = vb rs[k].1 ++ (vb rs[k].2 ++ ((nuR (rs.drop (k + 1))).flatMap vb ++ r)) := by
      rw [show nuR (rs.drop k) = rs[k].1 :: rs[k].2 :: nuR (rs.drop (k + 1)) from by rw [List.drop_eq_getElem_cons hlt]; rfl]
      rw [List.flatMap_cons, List.flatMap_cons, List.append_assoc, List.append_assoc]
    unfold rdRs
    rw [ih (by omega)]
    dsimp only
    rw [e, rdN_vb _ hp.1 (by omega)]
    dsimp only
    rw [rdN_vb _ (by omega) (by omega)]
    rw [List.take_succ_eq_append_getElem hlt]
theorem rdRs_back {s : St} (hb : Bytes s.1) : ∀ k, (rdRs s k).2.2 = false → s.2 = false ∧ s.1 = (nuR (rdRs s k).1).flatMap vb ++ (rdRs s k).2.1 := by
  have hbk : ∀ k, Bytes (rdRs s k).2.1 := by
    intro k
    induction k with
    | zero => exact hb
    | succ k ih => exact rdN_bytes (rdN_bytes ih)
  intro k
  induction k with
  | zero => intro h; exact ⟨h, by simp [rdRs, nuR]⟩
  | succ k ih =>
    intro h
    have h2 := rdN_back (rdN_bytes (hbk k)) h
    have h1 := rdN_back (hbk k) h2.1
    obtain ⟨h0, e⟩ := ih h1.1
    refine ⟨h0, ?_⟩
    rw [e, show rdRs s (k + 1) = ((rdRs s k).1 ++ [((rdN (rdRs s k).2).1, (rdN (rdN (rdRs s k).2).2).1)], (rdN (rdN (rdRs s k).2).2).2) from rfl]
    dsimp only
    rw [show nuR ((rdRs s k).1 ++ [((rdN (rdRs s k).2).1, (rdN (rdN (rdRs s k).2).2).1)]) = nuR (rdRs s k).1 ++ [(rdN (rdRs s k).2).1, (rdN (rdN (rdRs s k).2).2).1] from by simp [nuR]]
    rw [List.flatMap_append, List.append_assoc]
    congr 1
    rw [h1.2.1, h2.2.1]
    simp [List.flatMap_cons, List.append_assoc]

/-! a frame's bytes, part by part -/
def pad (f : Fr) : List Int := if f.kind = 0 then zeros f.a.toNat else []
theorem flat_if (g : Int → List Int) (c : Bool) (x : Int) : (if c = true then [x] else []).flatMap g = if c = true then g x else [] := by cases c <;> simp
theorem flat_if1 (g : Int → List Int) (k x : Int) : (if k = 1 then [] else [x]).flatMap g = if k = 1 then [] else g x := by split <;> simp
theorem nu1_eq (f : Fr) : nu1 f = f.kind :: (if f.kind = 1 then [] else [f.a]) := by unfold nu1; split <;> rfl
theorem nu2_eq (f : Fr) : nu2 f = nu1 f ++ (if wantB f.kind = true then [f.b] else []) := by unfold nu2; split <;> simp
theorem nu3_eq (f : Fr) : nu3 f = nu2 f ++ (if wantR f.kind = true then [(f.rs.length : Int)] else []) := by unfold nu3; split <;> simp
theorem fnums_eq (f : Fr) : fnums f = nu3 f ++ nuR f.rs ++ (if wantD f.kind = true then [(f.data.length : Int)] else []) := by unfold fnums nu4; split <;> simp
theorem fb_parts (f : Fr) (r : List Int) : fbytes f ++ r = vb f.kind ++ ((if f.kind = 1 then [] else vb f.a) ++ ((if wantB f.kind = true then vb f.b else []) ++ ((if wantR f.kind = true then vb (f.rs.length : Int) else []) ++
    ((nuR f.rs).flatMap vb ++ ((if wantD f.kind = true then vb (f.data.length : Int) else []) ++ (f.data ++ (pad f ++ r))))))) := by
  have e : fbytes f = (fnums f).flatMap vb ++ f.data ++ pad f := rfl
  rw [e, fnums_eq, nu3_eq, nu2_eq, nu1_eq, List.flatMap_append, List.flatMap_append, List.flatMap_append, List.flatMap_append, List.flatMap_cons, flat_if, flat_if, flat_if, flat_if1]
  simp only [List.append_assoc]
theorem fok_want {f : Fr} (h : fok f = true) : (f.kind = 1 → f.a = 0) ∧ (wantB f.kind ≠ true → f.b = 0) ∧ (wantR f.kind ≠ true → f.rs = []) ∧ (wantD f.kind ≠ true → f.data = []) := by
  by_cases h0 : f.kind = 0
  · have k := (fok0 h0).1 h
    exact ⟨fun h1 => by omega, fun _ => k.2.2.1, fun _ => k.2.2.2.1, fun _ => k.2.2.2.2⟩
  by_cases h1 : f.kind = 1
  · have k := (fok1 h1).1 h
    exact ⟨fun _ => k.1, fun _ => k.2.1, fun _ => k.2.2.1, fun _ => k.2.2.2⟩
  by_cases h2 : f.kind = 2
  · have k := (fok2 h2).1 h
    exact ⟨fun h1 => by omega, fun _ => k.2.2.1, fun hn => absurd (by rw [h2]; rfl) hn, fun _ => k.2.2.2.2⟩
  by_cases h3 : f.kind = 3
  · have k := (fok3 h3).1 h
    exact ⟨fun h1 => by omega, fun hn => absurd (by rw [h3]; rfl) hn, fun _ => k.2.2.2.1, fun hn => absurd (by rw [h3]; rfl) hn⟩
  by_cases h4 : f.kind = 4
  · have k := (fok4 h4).1 h
    exact ⟨fun h1 => by omega, fun _ => k.2.2.1, fun _ => k.2.2.2.1, fun hn => absurd (by rw [h4]; rfl) hn⟩
  by_cases h5 : f.kind = 5
  · have k := (fok5 h5).1 h
    exact ⟨fun h1 => by omega, fun hn => absurd (by rw [h5]; rfl) hn, fun _ => k.2.2.2.2.1, fun _ => k.2.2.2.2.2⟩
  by_cases h67 : f.kind = 6 ∨ f.kind = 7
  · have k := (fok67 h67).1 h
    exact ⟨fun h1 => by omega, fun _ => k.2.2.1, fun _ => k.2.2.2.1, fun _ => k.2.2.2.2⟩
  · rw [fok_no ⟨h0, h1, h2, h3, h4, h5, fun h => h67 (.inl h), fun h => h67 (.inr h)⟩] at h
    cases h
theorem zeros_any (n : Nat) : (zeros n).any (· != 0) = false := by
  rw [List.any_eq_false]
  intro x hx
  have : x = 0 := List.eq_of_mem_replicate hx
  simp [this]
theorem zeros_of {l : List Int} (h : l.any (· != 0) = false) : l = zeros l.length := by
  refine List.eq_replicate_iff.2 ⟨rfl, fun x hx => ?_⟩
  have := List.any_eq_false.1 h x hx
  simpa using this
theorem read_parts (f : Fr) (h : fok f = true) (T0 T1 T2 T3 T4 T5 r : List Int) (h0 : T0 = (if f.kind = 1 then [] else vb f.a) ++ T1) (h1 : T1 = (if wantB f.kind = true then vb f.b else []) ++ T2) (h2 : T2 = (if wantR f.kind = true then vb (f.rs.length : Int) else []) ++ T3)
    (h3 : T3 = (nuR f.rs).flatMap vb ++ T4) (h4 : T4 = (if wantD f.kind = true then vb (f.data.length : Int) else []) ++ T5) (h5 : T5 = f.data ++ (pad f ++ r)) : rdFrame (vb f.kind ++ T0, false) = f ∧ rdZ (vb f.kind ++ T0, false) = (r, false) := by
  obtain ⟨k0, k7, a0, a1, b0, b1, rl, dl, hp, hr⟩ := fok_in h
  obtain ⟨w1, wB, wR, wD⟩ := fok_want h
  have eN : rdN (vb f.kind ++ T0, false) = (f.kind, (T0, false)) := rdN_vb _ k0 (by omega)
  generalize (vb f.kind ++ T0, false) = s at *
  have eA : rdA s = (f.a, (T1, false)) := by
    unfold rdA
    rw [eN]
    dsimp only
    by_cases hk : f.kind = 1
    · rw [if_pos hk] at h0 ⊢
      rw [w1 hk, h0]; rfl
    · rw [if_neg hk] at h0 ⊢
      rw [h0, rdN_vb _ a0 (by omega)]
  have eB : rdB s = (f.b, (T2, false)) := by
    unfold rdB
    rw [eN, eA]
    dsimp only
    by_cases hk : wantB f.kind = true
    · rw [if_pos hk] at h1 ⊢
      rw [h1, rdN_vb _ b0 (by omega)]
    · rw [if_neg hk] at h1 ⊢
      rw [wB hk, h1]; rfl
  have eR : rdR s = (f.rs, (T4, false)) := by
    unfold rdR
    rw [eN, eB]
    dsimp only
    by_cases hk : wantR f.kind = true
    · rw [if_pos hk] at h2 ⊢
      rw [h2, rdN_vb _ (by omega) (by omega)]
      dsimp only
      rw [show (min (f.rs.length : Int) 17).toNat = f.rs.length by omega, h3, rdRs_vb _ _ hr _ (Nat.le_refl _), List.take_length, List.drop_length]
      rfl
    · rw [if_neg hk] at h2 ⊢
      rw [h2, h3, wR hk]; rfl
  have eT : rdT s = (f.data, (pad f ++ r, false)) := by
    unfold rdT
    rw [eN, eR]
    dsimp only
    by_cases hk : wantD f.kind = true
    · rw [if_pos hk] at h4 ⊢
      rw [h4, rdN_vb _ (by omega) (by omega)]
      dsimp only
      rw [h5, rdD_app]
    · rw [if_neg hk] at h4 ⊢
      rw [h4, h5, wD hk]; rfl
  refine ⟨?_, ?_⟩
  · unfold rdFrame
    rw [eN, eA, eB, eR, eT]
  · unfold rdZ
    rw [eN, eA, eT]
    dsimp only
    unfold pad
    by_cases hk : f.kind = 0
    · have hl : ((zeros f.a.toNat).length : Int) = f.a := by rw [zeros_len]; omega
      rw [if_pos hk, if_pos hk]
      have e := rdD_app (zeros f.a.toNat) r
      rw [hl] at e
      rw [e]
      dsimp only
      rw [zeros_any]
      rfl
    · rw [if_neg hk, if_neg hk]; rfl
/-- A frame that may be is read as it was written. -/
theorem read_write (f : Fr) (h : fok f = true) (r : List Int) : rdFrame (fbytes f ++ r, false) = f ∧ rdZ (fbytes f ++ r, false) = (r, false) := by
  rw [fb_parts]
  exact read_parts f h _ _ _ _ _ _ r rfl rfl rfl rfl rfl rfl
end Go.Proofs.Ytphpmallnlajjaa
