/- What is read was written so; all the frames. Plain. -/
import Derived.Test.YtphpmallnlajjaaF21
namespace Go.Proofs.Ytphpmallnlajjaa
open Go.RowKit Go.Vc
set_option linter.unusedVariables false
set_option linter.unusedSimpArgs false

theorem rdA_bytes {s : St} (hb : Bytes s.1) : Bytes (rdA s).2.1 := by
  unfold rdA
  split
  · exact rdN_bytes hb
  · exact rdN_bytes (rdN_bytes hb)
theorem rdB_bytes {s : St} (hb : Bytes s.1) : Bytes (rdB s).2.1 := by
  unfold rdB
  split
  · exact rdN_bytes (rdA_bytes hb)
  · exact rdA_bytes hb
theorem rdRs_bytes {s : St} (hb : Bytes s.1) (k : Nat) : Bytes (rdRs s k).2.1 := by
  induction k with
  | zero => exact hb
  | succ k ih => exact rdN_bytes (rdN_bytes ih)
theorem rdR_bytes {s : St} (hb : Bytes s.1) : Bytes (rdR s).2.1 := by
  unfold rdR
  split
  · exact rdRs_bytes (rdN_bytes (rdB_bytes hb)) _
  · exact rdB_bytes hb
theorem rdT_bytes {s : St} (hb : Bytes s.1) : Bytes (rdT s).2.1 ∧ Bytes (rdT s).1 := by
  unfold rdT
  split
  · exact ⟨rdD_bytes (rdN_bytes (rdR_bytes hb)) _, rdD_take (rdN_bytes (rdR_bytes hb)) _⟩
  · exact ⟨rdR_bytes hb, by intro x hx; cases hx⟩
theorem rdZ_bytes {s : St} (hb : Bytes s.1) : Bytes (rdZ s).1 := by
  unfold rdZ
  split
  · exact rdD_bytes (rdT_bytes hb).1 _
  · exact (rdT_bytes hb).1

theorem bA {s : St} (hb : Bytes s.1) (h : (rdA s).2.2 = false) : (rdN s).2.2 = false ∧ (rdN s).2.1 = (if (rdN s).1 = 1 then [] else vb (rdA s).1) ++ (rdA s).2.1 := by
  unfold rdA at h ⊢
  split
  · rename_i hk
    rw [if_pos hk] at h
    exact ⟨h, rfl⟩
  · rename_i hk
    rw [if_neg hk] at h
    have k := rdN_back (rdN_bytes hb) h
    exact ⟨k.1, k.2.1⟩
theorem bB {s : St} (hb : Bytes s.1) (h : (rdB s).2.2 = false) : (rdA s).2.2 = false ∧ (rdA s).2.1 = (if wantB (rdN s).1 = true then vb (rdB s).1 else []) ++ (rdB s).2.1 := by
  unfold rdB at h ⊢
  split
  · rename_i hk
    rw [if_pos hk] at h
    have k := rdN_back (rdA_bytes hb) h
    exact ⟨k.1, k.2.1⟩
  · rename_i hk
    rw [if_neg hk] at h
    exact ⟨h, rfl⟩
theorem bR {s : St} (hb : Bytes s.1) (h : (rdR s).2.2 = false) (h16 : (rdR s).1.length ≤ 16) : (rdB s).2.2 = false ∧ (rdB s).2.1 = (if wantR (rdN s).1 = true then vb ((rdR s).1.length : Int) else []) ++ ((nuR (rdR s).1).flatMap vb ++ (rdR s).2.1) := by
  unfold rdR at h h16 ⊢
  split
  · rename_i hk
    rw [if_pos hk] at h h16
    have k := rdRs_back (rdN_bytes (rdB_bytes hb)) _ h
    have k2 := rdN_back (rdB_bytes hb) k.1
    rw [rdRs_len] at h16 ⊢
    refine ⟨k2.1, ?_⟩
    rw [show (((min (rdN (rdB s).2).1 17).toNat : Nat) : Int) = (rdN (rdB s).2).1 by have := k2.2.2; omega, ← k.2]
    exact k2.2.1
  · rename_i hk
    rw [if_neg hk] at h
    exact ⟨h, rfl⟩
theorem bT {s : St} (hb : Bytes s.1) (h : (rdT s).2.2 = false) : (rdR s).2.2 = false ∧ (rdR s).2.1 = (if wantD (rdN s).1 = true then vb ((rdT s).1.length : Int) else []) ++ ((rdT s).1 ++ (rdT s).2.1) := by
  unfold rdT at h ⊢
  split
  · rename_i hk
    rw [if_pos hk] at h
    have k := rdD_back h
    have k2 := rdN_back (rdR_bytes hb) k.1
    refine ⟨k2.1, ?_⟩
    rw [k.2.2, ← k.2.1]
    exact k2.2.1
  · rename_i hk
    rw [if_neg hk] at h
    exact ⟨h, rfl⟩
/-- A frame that was read, and may be, was written so. -/
theorem write_read {b : List Int} (hb : Bytes b) (hz : (rdZ (b, false)).2 = false) (h : fok (rdFrame (b, false)) = true) : b = fbytes (rdFrame (b, false)) ++ (rdZ (b, false)).1 := by
  have hlen := (fok_in h).2.2.2.2.2.2.1
  have hpos : 0 ≤ (rdFrame (b, false)).a := (fok_in h).2.2.1
  rw [fb_parts]
  have hT : (rdT (b, false)).2.2 = false ∧ (rdT (b, false)).2.1 = pad (rdFrame (b, false)) ++ (rdZ (b, false)).1 := by
    unfold pad
    show _ ∧ _ = (if (rdN (b, false)).1 = 0 then zeros (rdA (b, false)).1.toNat else []) ++ _
    have hpos : 0 ≤ (rdA (b, false)).1 := hpos
    unfold rdZ at hz ⊢
    split
    · rename_i hk
      rw [if_pos hk] at hz
      rw [Bool.or_eq_false_iff] at hz
      have k := rdD_back hz.1
      refine ⟨k.1, ?_⟩
      have hl := k.2.2
      have hzz := zeros_of hz.2
      rw [k.2.1]
      congr 1
      rw [hzz]
      congr 1
      omega
    · rename_i hk
      rw [if_neg hk] at hz
      exact ⟨hz, rfl⟩
  obtain ⟨h5, e5⟩ := hT
  obtain ⟨h4, e4⟩ := bT hb h5
  obtain ⟨h3, e3⟩ := bR hb h4 hlen
  obtain ⟨h2, e2⟩ := bB hb h3
  obtain ⟨h1, e1⟩ := bA hb h2
  obtain ⟨-, e0, -⟩ := rdN_back (s := (b, false)) hb h1
  rw [e5] at e4
  rw [e4] at e3
  rw [e3] at e2
  rw [e2] at e1
  rw [e1] at e0
  exact e0
theorem fbytes_ne (f : Fr) (h : fok f = true) (r : List Int) : (fbytes f ++ r).length ≠ 0 := by
  rw [fb_parts, List.length_append, vb_len]
  have := fok_in h
  have := vsize_ne (n := f.kind) (by omega) (by omega)
  omega
theorem rdGo_write : ∀ (fs l : List Fr) (k : Nat), (∀ f ∈ fs, fok f = true) → l.length + fs.length ≤ 16 → fs.length < k → rdGo k (fs.flatMap fbytes) l = some (l ++ fs)
  | [], l, k + 1, _, _, _ => by simp [rdGo]
  | f :: fs, l, k + 1, h, hl, hk => by
    have hf := h f (.head _)
    rw [List.length_cons] at hl hk
    have e := read_write f hf (fs.flatMap fbytes)
    rw [List.flatMap_cons]
    unfold rdGo
    rw [if_neg (fbytes_ne f hf _), e.1, e.2, hf]
    have h16 : ((l.length : Int) == 16) = false := by simp; omega
    rw [h16, if_neg (by simp), rdGo_write fs (l ++ [f]) k (fun x hx => h x (.tail _ hx)) (by rw [List.length_append, List.length_singleton]; omega) (by omega)]
    simp
theorem rdAll_write {fs : List Fr} (h : wrOk fs = true) : rdAll (fs.flatMap fbytes) = some fs := by
  unfold wrOk at h
  rw [Bool.and_eq_true, List.all_eq_true] at h
  have hl : fs.length ≤ 16 := by simpa using h.1
  have := rdGo_write fs [] 17 h.2 (by simpa using hl) (by omega)
  simpa [rdAll] using this
theorem rdGo_read : ∀ (k : Nat) (b : List Int) (l l' : List Fr), Bytes b → rdGo k b l = some l' → l.length ≤ 16 → ∃ fs, l' = l ++ fs ∧ b = fs.flatMap fbytes ∧ (∀ f ∈ fs, fok f = true ∧ Bytes f.data) ∧ l'.length ≤ 16
  | 0, b, l, l', _, h, _ => by cases h
  | k + 1, b, l, l', hb, h, hl => by
    unfold rdGo at h
    split at h
    · rename_i h0
      have hb0 : b = [] := List.eq_nil_of_length_eq_zero h0
      cases h
      exact ⟨[], by simp, by simp [hb0], by simp, hl⟩
    · split at h
      · cases h
      · rename_i hbad
        simp only [Bool.or_eq_true, not_or, Bool.not_eq_true, Bool.not_eq_false'] at hbad
        obtain ⟨hz, hf, h16⟩ := hbad
        have hf : fok (rdFrame (b, false)) = true := by simpa using hf
        have h16 : l.length ≠ 16 := by simp at h16; omega
        obtain ⟨fs, e1, e2, e3, e4⟩ := rdGo_read k _ _ _ (rdZ_bytes (s := (b, false)) hb) h (by rw [List.length_append, List.length_singleton]; omega)
        refine ⟨rdFrame (b, false) :: fs, by rw [e1]; simp, ?_, ?_, e4⟩
        · rw [List.flatMap_cons, ← e2]
          exact write_read hb hz hf
        · intro x hx
          rcases List.mem_cons.1 hx with rfl | hx
          · exact ⟨hf, (rdT_bytes (s := (b, false)) hb).2⟩
          · exact e3 x hx
theorem rdAll_read {b : List Int} {fs : List Fr} (hb : Bytes b) (h : rdAll b = some fs) : b = fs.flatMap fbytes ∧ wrOk fs = true ∧ ∀ f ∈ fs, Bytes f.data := by
  obtain ⟨l, e1, e2, e3, e4⟩ := rdGo_read 17 b [] fs hb h (by simp)
  rw [List.nil_append] at e1
  subst e1
  refine ⟨e2, ?_, fun f hf => (e3 f hf).2⟩
  unfold wrOk
  rw [Bool.and_eq_true, List.all_eq_true]
  exact ⟨by simpa using e4, fun f hf => (e3 f hf).1⟩
end Go.Proofs.Ytphpmallnlajjaa
