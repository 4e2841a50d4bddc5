/- Frames' bytes: Write, walked. -/
import Derived.Test.YtphpmallnlajjaaF10
namespace Go.Proofs.Ytphpmallnlajjaa
open Go.RowKit Go.Vc
set_option linter.unusedVariables false

/-! slices of frames -/
theorem FrC.five {C : Addr → Value → Prop} {f : Fr} {cs : List Value} (h : FrC C f cs) : cs.length = 5 := by
  obtain ⟨rv, dv, rfl, -, -⟩ := h
  rfl
def FrsC (C : Addr → Value → Prop) (v : Value) (fs : List Fr) : Prop :=
  ∃ css : List (List Value), css.length = fs.length ∧ (∀ (i : Nat) (f : Fr) (cs : List Value), fs[i]? = some f → css[i]? = some cs → FrC C f cs) ∧ SlC C 5 v fs.length css.flatten
theorem FrsC.mono {C C' : Addr → Value → Prop} {v : Value} {fs : List Fr} (h : FrsC C v fs) (hC : ∀ p x, C p x → C' p x) : FrsC C' v fs := by
  obtain ⟨css, h1, h2, h3⟩ := h
  exact ⟨css, h1, fun i f cs hf hc => (h2 i f cs hf hc).mono hC, h3.mono hC⟩
theorem flatten_get {α : Type} (k : Nat) : ∀ (css : List (List α)), (∀ cs ∈ css, cs.length = k) → ∀ (i j : Nat) (cs : List α), css[i]? = some cs → j < k → css.flatten[i * k + j]? = cs[j]?
  | [], _, i, j, cs, h, _ => by simp at h
  | c :: css, hl, 0, j, cs, h, hj => by
    have : c = cs := by simpa using h
    subst this
    rw [List.flatten_cons, Nat.zero_mul, Nat.zero_add, List.getElem?_append_left (by rw [hl c (.head _)]; exact hj)]
  | c :: css, hl, i + 1, j, cs, h, hj => by
    have hc := hl c (.head _)
    rw [List.flatten_cons, List.getElem?_append_right (by rw [hc, Nat.add_mul]; omega), hc, Nat.add_mul, Nat.one_mul]
    rw [show i * k + k + j - k = i * k + j by omega]
    exact flatten_get k css (fun x hx => hl x (.tail _ hx)) i j cs (by simpa using h) hj
theorem FrsC.at {C : Addr → Value → Prop} {v : Value} {fs : List Fr} (h : FrsC C v fs) {i : Nat} (hi : i < fs.length) :
    ∃ p cap cs, v = .slice (some p) fs.length cap ∧ FrC C fs[i] cs ∧ ∀ j x, cs[j]? = some x → C ((p.add (i * 5)).add j) x := by
  obtain ⟨css, h1, h2, h3⟩ := h
  have hall : ∀ cs ∈ css, cs.length = 5 := by
    intro cs hcs
    obtain ⟨k, hk, rfl⟩ := List.getElem_of_mem hcs
    exact (h2 k _ _ (List.getElem?_eq_getElem (by omega)) (List.getElem?_eq_getElem hk)).five
  obtain ⟨p, cap, hv, hp⟩ := h3.at (by decide) hi
  refine ⟨p, cap, css[i]'(by omega), hv, h2 i _ _ (List.getElem?_eq_getElem hi) (List.getElem?_eq_getElem (by omega)), fun j x hj => hp j x ?_⟩
  have hlt : j < 5 := by
    have := (List.getElem?_eq_some_iff.1 hj).1
    rw [hall _ (List.getElem_mem (by omega))] at this
    exact this
  rw [flatten_get 5 css hall i j _ (List.getElem?_eq_getElem (by omega)) hlt]
  exact hj
theorem FrsC.slice {C : Addr → Value → Prop} {v : Value} {fs : List Fr} (h : FrsC C v fs) : ∃ base cap, v = .slice base fs.length cap ∧ fs.length ≤ cap := by
  obtain ⟨css, h1, h2, base, cap, hv, hc, _⟩ := h
  exact ⟨base, cap, hv, hc⟩

/-! a frame's bytes -/
def fbytes (f : Fr) : List Int := (fnums f).flatMap vb ++ f.data ++ (if f.kind = 0 then zeros f.a.toNat else [])
def wrOk (fs : List Fr) : Bool := decide (fs.length ≤ 16) && fs.all fok
theorem vsize_ne {n : Int} (h0 : 0 ≤ n) (h1 : n < 4611686018427387904) : vsize n ≠ 0 := by
  rcases vsize_cases n with h | h | h | h | h <;> omega
theorem rgOk_in {rs : List (Int × Int)} (h : rgOk rs = true) : rs.length ≤ 16 ∧ ∀ r ∈ rs, 0 ≤ r.1 ∧ r.1 ≤ r.2 ∧ r.2 ≤ 4611686018427387903 := by
  unfold rgOk at h
  rw [Bool.and_eq_true, List.all_eq_true] at h
  refine ⟨by have := h.1; unfold inB at this; simp at this; omega, fun r hr => ?_⟩
  obtain ⟨i, hi, rfl⟩ := List.getElem_of_mem hr
  have h1 := h.2 i (List.mem_range.2 hi)
  unfold rgAt inB M62 at h1
  rw [List.getD_eq_getElem?_getD, List.getElem?_eq_getElem hi] at h1
  simp only [Option.getD_some, Bool.and_eq_true, decide_eq_true_eq] at h1
  omega
theorem fok_in {f : Fr} (h : fok f = true) : 0 ≤ f.kind ∧ f.kind ≤ 7 ∧ 0 ≤ f.a ∧ f.a ≤ 4611686018427387903 ∧ 0 ≤ f.b ∧ f.b ≤ 4611686018427387903 ∧ f.rs.length ≤ 16 ∧ f.data.length ≤ 2048 ∧ (f.kind = 0 → 1 ≤ f.a ∧ f.a ≤ 2048) ∧
    ∀ r ∈ f.rs, 0 ≤ r.1 ∧ r.1 ≤ r.2 ∧ r.2 ≤ 4611686018427387903 := by
  have hz : ∀ {l : List (Int × Int)}, l = [] → l.length ≤ 16 ∧ ∀ r ∈ l, 0 ≤ r.1 ∧ r.1 ≤ r.2 ∧ r.2 ≤ 4611686018427387903 := by rintro l rfl; exact ⟨by decide, by simp⟩
  have hy : ∀ {l : List Int}, l = [] → l.length ≤ 2048 := by rintro l rfl; decide
  by_cases h0 : f.kind = 0
  · have k := (fok0 h0).1 h
    have := hz k.2.2.2.1
    have := hy k.2.2.2.2
    refine ⟨by omega, by omega, by omega, by omega, by omega, by omega, by omega, by omega, fun _ => by omega, (hz k.2.2.2.1).2⟩
  by_cases h1 : f.kind = 1
  · have k := (fok1 h1).1 h
    have := hz k.2.2.1
    have := hy k.2.2.2
    refine ⟨by omega, by omega, by omega, by omega, by omega, by omega, by omega, by omega, fun _ => by omega, (hz k.2.2.1).2⟩
  by_cases h2 : f.kind = 2
  · have k := (fok2 h2).1 h
    have h3 := rgOk_in k.2.2.2.1
    have := hy k.2.2.2.2
    refine ⟨by omega, by omega, by omega, by omega, by omega, by omega, by omega, by omega, fun _ => by omega, h3.2⟩
  by_cases h3 : f.kind = 3
  · have k := (fok3 h3).1 h
    have := hz k.2.2.2.1
    refine ⟨by omega, by omega, by omega, by omega, by omega, by omega, by omega, by omega, fun _ => by omega, (hz k.2.2.2.1).2⟩
  by_cases h4 : f.kind = 4
  · have k := (fok4 h4).1 h
    have := hz k.2.2.2.1
    refine ⟨by omega, by omega, by omega, by omega, by omega, by omega, by omega, by omega, fun _ => by omega, (hz k.2.2.2.1).2⟩
  by_cases h5 : f.kind = 5
  · have k := (fok5 h5).1 h
    have := hz k.2.2.2.2.1
    have := hy k.2.2.2.2.2
    refine ⟨by omega, by omega, by omega, by omega, by omega, by omega, by omega, by omega, fun _ => by omega, (hz k.2.2.2.2.1).2⟩
  by_cases h67 : f.kind = 6 ∨ f.kind = 7
  · have k := (fok67 h67).1 h
    have := hz k.2.2.2.1
    have := hy k.2.2.2.2
    refine ⟨by omega, by omega, by omega, by omega, by omega, by omega, by omega, by omega, fun _ => by omega, (hz k.2.2.2.1).2⟩
  · rw [fok_no ⟨h0, h1, h2, h3, h4, h5, fun h => h67 (.inl h), fun h => h67 (.inr h)⟩] at h
    cases h
theorem nums_in {f : Fr} (h : fok f = true) : ∀ n ∈ fnums f, 0 ≤ n ∧ n < 4611686018427387904 := by
  obtain ⟨h1, h2, h3, h4, h5, h6, h7, h8, -, h9⟩ := fok_in h
  intro n hn
  have hr : ∀ n ∈ nuR f.rs, 0 ≤ n ∧ n < 4611686018427387904 := by
    intro n hn
    obtain ⟨r, hr, hm⟩ := List.mem_flatMap.1 hn
    have := h9 r hr
    simp at hm
    omega
  have h3' : ∀ n ∈ nu3 f, 0 ≤ n ∧ n < 4611686018427387904 := by
    intro n hn
    unfold nu3 nu2 nu1 at hn
    repeat' split at hn
    all_goals
      simp at hn
      omega
  unfold fnums nu4 at hn
  split at hn
  · rw [List.mem_append, List.mem_append] at hn
    rcases hn with (hn | hn) | hn
    · exact h3' n hn
    · exact hr n hn
    · simp at hn; omega
  · rw [List.mem_append] at hn
    rcases hn with hn | hn
    · exact h3' n hn
    · exact hr n hn
theorem nums_join {f : Fr} (h : fok f = true) : joinOk (fnums f) = true := by
  unfold joinOk
  rw [List.all_eq_true]
  intro n hn
  have := nums_in h n hn
  simpa using vsize_ne this.1 this.2
theorem fbytes_le {f : Fr} (h : fok f = true) : (fbytes f).length ≤ 5000 := by
  obtain ⟨h1, h2, h3, h4, h5, h6, h7, h8, h9, -⟩ := fok_in h
  have a1 := flat_le (fnums f)
  have a2 := fnums_len f
  unfold fbytes
  rw [List.length_append, List.length_append]
  split
  · rename_i hk
    have := h9 hk
    rw [zeros_len]; omega
  · rw [List.length_nil]; omega
theorem flatB_le : ∀ (fs : List Fr), (∀ f ∈ fs, fok f = true) → (fs.flatMap fbytes).length ≤ 5000 * fs.length
  | [], _ => by simp
  | f :: fs, h => by
    have h1 := fbytes_le (h f (.head _))
    have h2 := flatB_le fs (fun x hx => h x (.tail _ hx))
    rw [List.flatMap_cons, List.length_append, List.length_cons]; omega
theorem flatB_snoc (fs : List Fr) (i : Nat) (h : i < fs.length) : (fs.take (i + 1)).flatMap fbytes = (fs.take i).flatMap fbytes ++ fbytes fs[i] := by
  rw [List.take_succ_eq_append_getElem h, List.flatMap_append]
  simp
theorem wrOk_not {fs : List Fr} {i : Nat} (h : i < fs.length) (hz : fok fs[i] = false) : wrOk fs = false := by
  have : fs.all fok = false := by
    rw [← Bool.not_eq_true, List.all_eq_true]
    intro h1
    have := h1 _ (List.getElem_mem h)
    rw [hz] at this
    cases this
  unfold wrOk
  rw [this, Bool.and_false]
end Go.Proofs.Ytphpmallnlajjaa
