/- Whatever comes in, opened by the form of its type: numbers, strings, slices, structs, arrays, one within another. -/
import Derived.Test.YtadginombcjbeaaVf
import Derived.Test.YtadginombcjbeaaVz
import Derived.Deep.Slices
namespace Go.Vc
open Go.RowKit Go.ChangeShapes Go.WideShapes
set_option linter.unusedVariables false
/-- How a value of a type is told by its cells; C: what is known of memory. -/
abbrev Rep (α : Type) := (Addr → Value → Prop) → α → List Value → Prop
structure Opens (P : Program) (t : TypeId) (sz : Nat) {α : Type} (R : Rep α) : Prop where
 size : P.cellsOf t = sz
 open_ : ∀ (H : Type) (enc : TypeId × Value → H) (w : World) (base : Nat) (sp : Nat → Bool) (held : Bool) (fuel : Nat) (cs : List Value) (x : DataW H × List MemPlace),
  DataW.trod enc P w base sp held fuel t cs = some x → cs.length = sz ∧ ∃ a, R (fun p v => w.cell? p = some v) a cs
def RInt (k : IntKind) : Rep Int := fun _ z cs => cs = [.int k z] ∧ (Lit.int k z).wf = true
def RBool : Rep Bool := fun _ b cs => cs = [.bool b]
def RStr : Rep ByteArray := fun _ s cs => cs = [.string s] ∧ s.size ≤ maxLen
def RSl {α : Type} (sz : Nat) (R : Rep α) : Rep (List α) := fun C l cs => ∃ (v : Value) (css : List (List Value)), cs = [v] ∧ css.length = l.length ∧ (∀ (i : Nat) (a : α) (c : List Value), l[i]? = some a → css[i]? = some c → R C a c ∧ c.length = sz) ∧
 SlC C sz v l.length css.flatten ∧ l.length ≤ maxLen
def RArr {α : Type} (n sz : Nat) (R : Rep α) : Rep (List α) := fun C l cs => ∃ (css : List (List Value)), css.length = n ∧ l.length = n ∧ (∀ (i : Nat) (a : α) (c : List Value), l[i]? = some a → css[i]? = some c → R C a c ∧ c.length = sz) ∧ cs = css.flatten
def RNil : Rep Unit := fun _ _ cs => cs = []
def RCons {α β : Type} (sz : Nat) (R : Rep α) (S : Rep β) : Rep (α × β) := fun C a cs => ∃ (c1 c2 : List Value), cs = c1 ++ c2 ∧ c1.length = sz ∧ R C a.1 c1 ∧ S C a.2 c2
section
variable {P : Program} {t e : TypeId}
theorem opens_int {k : IntKind} (hu : P.underlying t = some (.int k)) (hs : P.cellsOf t = 1) : Opens P t 1 (RInt k) := by
 refine ⟨hs, fun H enc w base sp held fuel cs x h => ?_⟩
 obtain ⟨n, rfl, _, hw⟩ := DataW.trod_int hu h
 exact ⟨rfl, n, rfl, hw⟩
theorem opens_bool (hu : P.underlying t = some .bool) (hs : P.cellsOf t = 1) : Opens P t 1 RBool := by
 refine ⟨hs, fun H enc w base sp held fuel cs x h => ?_⟩
 obtain ⟨n, rfl, _⟩ := DataW.trod_bool hu h
 exact ⟨rfl, n, rfl⟩
theorem opens_string (hu : P.underlying t = some .string) (hs : P.cellsOf t = 1) : Opens P t 1 RStr := by
 refine ⟨hs, fun H enc w base sp held fuel cs x h => ?_⟩
 obtain ⟨n, rfl, _, hl⟩ := DataW.trod_string hu h
 exact ⟨rfl, n, rfl, hl⟩
theorem flatten_len {α : Type} (k : Nat) : ∀ (css : List (List α)), (∀ cs ∈ css, cs.length = k) → css.flatten.length = css.length * k
 | [], _ => by simp
 | c :: css, h => by
  rw [List.flatten_cons, List.length_append, h c (.head _), flatten_len k css (fun x hx => h x (.tail _ hx)), List.length_cons, Nat.add_mul, Nat.one_mul, Nat.add_comm]
/-- Where a cell of a row of rows stands. -/
theorem flatten_at {α : Type} (k : Nat) : ∀ (css : List (List α)), (∀ cs ∈ css, cs.length = k) → ∀ (j : Nat) (x : α), css.flatten[j]? = some x → ∃ i c r, css[i]? = some c ∧ c[r]? = some x ∧ j = i * k + r ∧ r < k
 | [], _, j, x, h => by simp at h
 | c :: css, hl, j, x, h => by
  have hc := hl c (.head _)
  rw [List.flatten_cons, List.getElem?_append] at h
  split at h
  ·rename_i hlt
   exact ⟨0, c, j, rfl, h, by simp, by omega⟩
  ·rename_i hge
   obtain ⟨i, c', r, h1, h2, h3, h4⟩ := flatten_at k css (fun x hx => hl x (.tail _ hx)) _ x h
   exact ⟨i + 1, c', r, h1, h2, by rw [Nat.add_mul, Nat.one_mul]; omega, h4⟩
theorem opens_slice {α : Type} {sz : Nat} {R : Rep α} (hu : P.underlying t = some (.slice e)) (hs : P.cellsOf t = 1) (he : Opens P e sz R) : Opens P t 1 (RSl sz R) := by
 refine ⟨hs, fun H enc w base sp held fuel cs x h => ?_⟩
 rcases Deep.open_slice hu h with ⟨rfl, _⟩ | ⟨a, len, cap, m, n, D, Pl, rfl, hb, hlc, hcm, hm, _, hel⟩
 ·exact ⟨rfl, [], _, [], rfl, rfl, by simp, ⟨none, 0, rfl, Nat.le_refl _, by simp, fun h => absurd rfl h⟩, Nat.zero_le _⟩
 ·have hlm : len ≤ m := by rw [hm]; split <;> omega
  have key : ∀ i, i < len → ∃ (y : α) (c : List Value), R (fun p v => w.cell? p = some v) y c ∧ c.length = sz ∧ ∀ r, r < sz → w.cell? ((a.add (i * sz)).add r) = c[r]? := by
   intro i hi
   obtain ⟨c, h1, h2⟩ := hel i (by omega)
   obtain ⟨hc, y, hy⟩ := he.open_ H enc w base sp held n c _ h2
   obtain ⟨_, h3, h4⟩ := World.cells?_some h1
   rw [he.size] at h3 h4
   exact ⟨y, c, hy, hc, h4⟩
  have all : ∀ k, k ≤ len → ∃ (l : List α) (css : List (List Value)), l.length = k ∧ css.length = k ∧ (∀ (i : Nat) y c, l[i]? = some y → css[i]? = some c → R (fun p v => w.cell? p = some v) y c ∧ c.length = sz) ∧
    ∀ (i : Nat) c, css[i]? = some c → ∀ r, r < sz → w.cell? ((a.add (i * sz)).add r) = c[r]? := by
   intro k
   induction k with
   | zero => intro _; exact ⟨[], [], rfl, rfl, by simp, by simp⟩
   | succ k ih =>
    intro hk
    obtain ⟨l, css, h1, h2, h3, h4⟩ := ih (by omega)
    obtain ⟨y, c, hy, hc, hr⟩ := key k (by omega)
    refine ⟨l ++ [y], css ++ [c], by simp [h1], by simp [h2], ?_, ?_⟩
    ·intro i y' c' hl' hc'
     by_cases hi : i < k
     ·rw [List.getElem?_append_left (by omega)] at hl' hc'
      exact h3 i y' c' hl' hc'
     ·rw [List.getElem?_append_right (by omega)] at hl' hc'
      have : i = k := by
       have := (List.getElem?_eq_some_iff.1 hl').1
       simp at this; omega
      subst this
      rw [h1, Nat.sub_self] at hl'
      rw [h2, Nat.sub_self] at hc'
      cases hl'; cases hc'
      exact ⟨hy, hc⟩
    ·intro i c' hc'
     by_cases hi : i < k
     ·rw [List.getElem?_append_left (by omega)] at hc'
      exact h4 i c' hc'
     ·rw [List.getElem?_append_right (by omega)] at hc'
      have : i = k := by
       have := (List.getElem?_eq_some_iff.1 hc').1
       simp at this; omega
      subst this
      rw [h2, Nat.sub_self] at hc'
      cases hc'
      exact hr
  obtain ⟨l, css, h1, h2, h3, h4⟩ := all len (Nat.le_refl _)
  have hcs : ∀ c ∈ css, c.length = sz := by
   intro c hc
   obtain ⟨i, hi, rfl⟩ := List.getElem_of_mem hc
   exact (h3 i _ _ (List.getElem?_eq_getElem (by omega)) (List.getElem?_eq_getElem hi)).2
  refine ⟨rfl, l, _, css, rfl, by omega, h3, ⟨some a, cap, by rw [h1], by omega, by rw [flatten_len sz css hcs, h2, h1], fun _ => ⟨a, rfl, fun j x hj => ?_⟩⟩, by omega⟩
  obtain ⟨i, c, r, h5, h6, rfl, h7⟩ := flatten_at sz css hcs j x hj
  rw [← Deep.add_add, h4 i c h5 r h7]
  exact h6
/-- Fields from some place on. -/
structure OpensFs (P : Program) (fs : List Field) (start total : Nat) {α : Type} (R : Rep α) : Prop where
 le : start ≤ total
 open_ : ∀ (H : Type) (enc : TypeId × Value → H) (w : World) (base : Nat) (sp : Nat → Bool) (held : Bool) (fuel : Nat) (cs : List Value), cs.length = total →
  (∀ f ∈ fs, ∃ x, DataW.trod enc P w base sp held fuel f.type ((cs.drop f.offset).take (P.cellsOf f.type)) = some x) → ∃ a, R (fun p v => w.cell? p = some v) a (cs.drop start)
theorem fs_nil {n : Nat} : OpensFs P [] n n RNil := ⟨Nat.le_refl _, fun H enc w base sp held fuel cs hl _ => ⟨(), by show cs.drop n = []; exact List.drop_eq_nil_of_le (by omega)⟩⟩
theorem fs_cons {α β : Type} {f : Field} {fs : List Field} {start sz total : Nat} {R : Rep α} {S : Rep β} (h1 : Opens P f.type sz R) (ho : f.offset = start) (h2 : OpensFs P fs (start + sz) total S) :
  OpensFs P (f :: fs) start total (RCons sz R S) := by
 have hle := h2.le
 refine ⟨by omega, fun H enc w base sp held fuel cs hl hx => ?_⟩
 obtain ⟨x, hx1⟩ := hx f (.head _)
 obtain ⟨hn, a, ha⟩ := h1.open_ H enc w base sp held fuel _ x hx1
 obtain ⟨b, hb⟩ := h2.open_ H enc w base sp held fuel cs hl (fun g hg => hx g (.tail _ hg))
 rw [h1.size, ho] at ha
 refine ⟨(a, b), _, _, ?_, ?_, ha, hb⟩
 ·rw [← List.drop_drop, List.take_append_drop]
 ·rw [List.length_take, List.length_drop]
  omega
theorem opens_struct {α : Type} {fs : Array Field} {sz : Nat} {R : Rep α} (hu : P.underlying t = some (.struct fs)) (hs : P.cellsOf t = sz) (hf : OpensFs P fs.toList 0 sz R) : Opens P t sz R := by
 refine ⟨hs, fun H enc w base sp held fuel cs x h => ?_⟩
 obtain ⟨xs, n, _, _, hl, hxl, hx⟩ := DataW.trod_struct hu h
 rw [hs] at hl
 refine ⟨hl, ?_⟩
 obtain ⟨a, ha⟩ := hf.open_ H enc w base sp held n cs hl (fun f hm => by
  obtain ⟨i, hi, rfl⟩ := List.getElem_of_mem hm
  have hi' : i < fs.size := by simpa using hi
  have := hx i fs[i] (Array.getElem?_eq_getElem hi')
  rw [List.getElem?_eq_getElem (by omega)] at this
  exact ⟨_, by simpa using this⟩)
 exact ⟨a, by simpa using ha⟩
theorem take_rows {α : Type} (k : Nat) : ∀ (n : Nat) (cs : List α), cs.length = n * k → cs = ((List.range n).map fun i => (cs.drop (i * k)).take k).flatten
 | 0, cs, h => by
  have : cs = [] := List.eq_nil_of_length_eq_zero (by omega)
  simp [this]
 | n + 1, cs, h => by
  rw [Nat.add_mul, Nat.one_mul] at h
  have ih := take_rows k n (cs.drop k) (by rw [List.length_drop]; omega)
  rw [List.range_succ_eq_map, List.map_cons, List.flatten_cons, List.map_map]
  have : ((List.range n).map ((fun i => (cs.drop (i * k)).take k) ∘ Nat.succ)) = (List.range n).map fun i => ((cs.drop k).drop (i * k)).take k := by
   refine List.map_congr_left fun i _ => ?_
   show (cs.drop ((i + 1) * k)).take k = _
   rw [List.drop_drop, Nat.add_mul, Nat.one_mul, Nat.add_comm]
  rw [this, ← ih]
  simp
theorem opens_array {α : Type} {n sz : Nat} {R : Rep α} (hu : P.underlying t = some (.array n e)) (hs : P.cellsOf t = n * sz) (he : Opens P e sz R) : Opens P t (n * sz) (RArr n sz R) := by
 refine ⟨hs, fun H enc w base sp held fuel cs x h => ?_⟩
 obtain ⟨xs, m, _, _, hl, hxl, hx⟩ := DataW.trod_array hu h
 rw [hs] at hl
 rw [he.size] at hx
 refine ⟨hl, ?_⟩
 have key : ∀ k, k ≤ n → ∃ l : List α, l.length = k ∧ ∀ (i : Nat) a, l[i]? = some a → R (fun p v => w.cell? p = some v) a ((cs.drop (i * sz)).take sz) := by
  intro k
  induction k with
  | zero => intro _; exact ⟨[], rfl, by simp⟩
  | succ k ih =>
   intro hk
   obtain ⟨l, h1, h2⟩ := ih (by omega)
   have := hx k (by omega)
   rw [List.getElem?_eq_getElem (by omega)] at this
   obtain ⟨_, a, ha⟩ := he.open_ H enc w base sp held m _ _ this
   refine ⟨l ++ [a], by simp [h1], fun i b hb => ?_⟩
   by_cases hi : i < k
   ·rw [List.getElem?_append_left (by omega)] at hb
    exact h2 i b hb
   ·rw [List.getElem?_append_right (by omega)] at hb
    have : i = k := by
     have := (List.getElem?_eq_some_iff.1 hb).1
     simp at this; omega
    subst this
    rw [h1, Nat.sub_self] at hb
    cases hb
    exact ha
 obtain ⟨l, h1, h2⟩ := key n (Nat.le_refl _)
 refine ⟨l, (List.range n).map (fun i => (cs.drop (i * sz)).take sz), by simp, h1, fun i a c ha hc => ?_, take_rows sz n cs hl⟩
 have hi : i < n := by have := (List.getElem?_eq_some_iff.1 ha).1; omega
 rw [List.getElem?_map, List.getElem?_range hi] at hc
 cases hc
 refine ⟨h2 i a ha, ?_⟩
 rw [List.length_take, List.length_drop, hl]
 have : (i + 1) * sz ≤ n * sz := Nat.mul_le_mul_right _ hi
 rw [Nat.add_mul, Nat.one_mul] at this
 omega
/-- Told otherwise. -/
theorem Opens.map {α β : Type} {sz : Nat} {R : Rep α} {S : Rep β} (h : Opens P t sz R) (f : α → β) (hf : ∀ C a cs, R C a cs → S C (f a) cs) : Opens P t sz S :=
 ⟨h.size, fun H enc w base sp held fuel cs x hx => let ⟨h1, a, ha⟩ := h.open_ H enc w base sp held fuel cs x hx; ⟨h1, f a, hf _ a cs ha⟩⟩
theorem Opens.arg {α : Type} {sz : Nat} {R : Rep α} (h : Opens P t sz R) {H : Type} {enc : TypeId × Value → H} {W : World} {base : Nat} {sp : Nat → Bool} {hd : Bool} {v : Value} {d : DataW H} {ps : List MemPlace}
  (hx : DataW.Trod enc P W base sp hd t v d ps) : v.cells.toList.length = sz ∧ ∃ a, R (fun p x => W.cell? p = some x) a v.cells.toList := by
 obtain ⟨fuel, hf⟩ := hx
 exact h.open_ H enc W base sp hd fuel _ _ hf
theorem cells_slice {v : Value} {a : Option Addr} {n c : Nat} (hv : v = .slice a n c) : v.cells.toList = [v] := by subst hv; rfl
theorem flat_one {α β : Type} (f : α → β) : ∀ l : List α, (l.map fun x => [f x]).flatten = l.map f
 | [] => rfl
 | a :: l => by rw [List.map_cons, List.flatten_cons, flat_one f l]; rfl
/-- A slice of integers. -/
theorem rsl_ints {k : IntKind} {C : Addr → Value → Prop} {l : List Int} {cs : List Value} (h : RSl 1 (RInt k) C l cs) : ∃ v, cs = [v] ∧ SlC C 1 v l.length (ints k l) ∧ (∀ x ∈ l, (Lit.int k x).wf = true) ∧ l.length ≤ maxLen := by
 obtain ⟨v, css, rfl, h1, h2, h3, h4⟩ := h
 have e : css = l.map fun x => [Value.int k x] := by
  refine List.ext_getElem? fun i => ?_
  rw [List.getElem?_map]
  by_cases hi : i < l.length
  ·rw [List.getElem?_eq_getElem hi, List.getElem?_eq_getElem (by omega)]
   rw [(h2 i _ _ (List.getElem?_eq_getElem hi) (List.getElem?_eq_getElem (by omega))).1.1]
   rfl
  ·rw [List.getElem?_eq_none (by omega), List.getElem?_eq_none (by omega)]
   rfl
 refine ⟨v, rfl, ?_, fun x hx => ?_, h4⟩
 ·rw [e] at h3
  rw [flat_one] at h3
  exact h3
 ·obtain ⟨i, hi, rfl⟩ := List.getElem_of_mem hx
  exact (h2 i _ _ (List.getElem?_eq_getElem hi) (List.getElem?_eq_getElem (by omega))).1.2
end
end Go.Vc
