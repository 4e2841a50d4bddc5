/- Memory in another order; many blocks let go at once. -/
import Derived.Test.YtadginombcjbeaaVx
namespace Go.Vc
open Go.RowKit
set_option linter.unusedVariables false
theorem apartFrom_perm {b : Nat} {m m' : Mem} (h : m.Perm m') : apartFrom b m → apartFrom b m' := by
 induction h with
 | nil => exact id
 | cons x _ ih => exact fun h => ⟨h.1, ih h.2⟩
 | swap x y l => exact fun h => ⟨h.2.1, h.1, h.2.2⟩
 | trans _ _ h1 h2 => exact fun h => h2 (h1 h)
theorem Has.perm {w : World} {m m' : Mem} (h : m.Perm m') : Has w m → Has w m' := by
 induction h with
 | nil => exact id
 | cons x hp ih => exact fun h => ⟨h.1, fun hx => apartFrom_perm hp (h.2.1 hx), ih h.2.2⟩
 | swap x y l => exact fun h => ⟨h.2.2.1, fun hx => ⟨fun hy => ((h.2.1 hy).1 hx).symm, h.2.2.2.1 hx⟩, h.1, fun hy => (h.2.1 hy).2, h.2.2.2.2⟩
 | trans _ _ h1 h2 => exact fun h => h2 (h1 h)
theorem Own.perm {E : Env} {m m' : Mem} (h : m.Perm m') : Own E m → Own E m' := by
 induction h with
 | nil => exact id
 | cons x hp ih => exact fun h => ⟨h.1, ih h.2⟩
 | swap x y l => exact fun h => ⟨h.2.1, h.1, h.2.2⟩
 | trans _ _ h1 h2 => exact fun h => h2 (h1 h)
theorem less_perm {rs rs' : Rs} {m m1 m' : Mem} (h : All rs rs') (hs : m1.Sublist m) (hp : m1.Perm m') : Less rs m rs' m' :=
 ⟨look_all h, fun _ hh => (Has.sublist hs hh).perm hp, fun _ ho => (Own.sublist hs ho).perm hp⟩
theorem has_apart2 {w : World} : ∀ {m1 m : Mem}, Has w (m1 ++ m) → ∀ e ∈ m1, e.cells ≠ [] → e.blk ∉ blks m
 | [], _, _, e, he, _ => by cases he
 | x :: m1, m, h, e, he, hl => by
  cases he with
  | head =>
   intro hb
   obtain ⟨y, hy, hyl, hyb⟩ := mem_blks.1 hb
   have key : ∀ m', apartFrom x.blk m' → y ∈ m' → x.blk ≠ y.blk := by
    intro m'
    induction m' with
    | nil => intro _ h; cases h
    | cons z m' ih =>
     intro h hm
     cases hm with
     | head => exact h.1 hyl
     | tail _ hm => exact ih h.2 hm
   exact key _ (h.2.1 hl) (List.mem_append_right _ hy) hyb.symm
  | tail _ he => exact has_apart2 h.2.2 e he hl
/-- What is told of cells where blocks are let go. -/
structure LetM (E E' : Env) (m1 : Mem) : Prop where
 mono : Mono E E'
 back : Back E E'
 defs : E'.defs = E.defs
 cell : ∀ e ∈ m1, ∀ j x, e.cells[j]? = some x → Cel E' ⟨e.blk, j, none⟩ x
 fresh : ∀ E0, Back E0 E → E0.ws = [] → ∀ e ∈ m1, e.cells ≠ [] → E0.w0.heap.size ≤ e.blk
theorem LetM.one {E E' : Env} {m1 : Mem} (h : LetM E E' m1) {e : Ent} (he : e ∈ m1) : Let E E' e :=
 ⟨h.mono, h.back, h.defs, h.cell e he, fun E0 hb h0 hl => h.fresh E0 hb h0 e he hl⟩
theorem letM_of {E : Env} {n : Nat} {rs : Rs} {m1 m : Mem} {a : Act} {w : World} (ok : Ok E n rs (m1 ++ m) a w) : LetM E ⟨w, blks m, E.defs⟩ m1 := by
 have hs : m.Sublist (m1 ++ m) := List.sublist_append_right ..
 refine ⟨at_mono (ok.own.sublist hs) ok.keep, at_back (ok.own.sublist hs) ok.keep, rfl, fun e he j x hj => ?_, fun E0 hb h0 e he hl => ?_⟩
 ·have hl : e.cells ≠ [] := by intro h; rw [h] at hj; cases hj
  exact ⟨cell_of (ok.has.cell (List.mem_append_left _ he) hl) hj, has_apart2 ok.has e he hl⟩
 ·rcases (hb _ _ _ _ _ ok).own.at (List.mem_append_left _ he) hl with h1 | h1
  ·exact h1
  ·rw [h0] at h1; cases h1
section y
variable {B : Tb} {E : Env} {n : Nat} {all rest : List Oper} {rs : Rs} {m : Mem} {K : Act → World → Prop} {Qs : Exit → Act → World → Prop} {c : Code}
theorem s_dropM (m1 : Mem) {m2 : Mem} (hp : m2.Perm (m1 ++ m)) (h : ∀ E', LetM E E' m1 → WPs B E' n c rs m Qs) : WPs B E n c rs m2 Qs :=
 ⟨fun a w ok => by
  have ok' : Ok E n rs (m1 ++ m) a w := ⟨ok.size, ok.defers, ok.regs, ok.has.perm hp, ok.own.perm hp, ok.keep⟩
  exact (h _ (letM_of ok')).run a w (at_ok ok' (List.sublist_append_right ..))⟩
theorem l_dropM (m1 : Mem) {m2 : Mem} (hp : m2.Perm (m1 ++ m)) (h : ∀ E', LetM E E' m1 → WPl B E' n all rest rs m K) : WPl B E n all rest rs m2 K :=
 ⟨fun Q hQ a w ok => by
  have ok' : Ok E n rs (m1 ++ m) a w := ⟨ok.size, ok.defers, ok.regs, ok.has.perm hp, ok.own.perm hp, ok.keep⟩
  exact (h _ (letM_of ok')).run Q hQ a w (at_ok ok' (List.sublist_append_right ..))⟩
theorem c_own {Q : Post} {e : Ent} (i : Nat) (he : nth m i = some e) (hl : e.cells ≠ []) (h : E.w0.heap.size ≤ e.blk ∨ e.blk ∈ E.ws → WP B E n c rs m Q) : WP B E n c rs m Q :=
 ⟨fun a w ok => (h (ok.own.at (nth_mem he) hl)).run a w ok⟩
theorem l_less {rs' : Rs} {m' : Mem} (hl : Less rs m rs' m') (h : WPl B E n all rest rs' m' K) : WPl B E n all rest rs m K :=
 ⟨fun Q hQ a w ok => h.run Q hQ a w (hl.ok ok)⟩
end y
/-- A slice with cells in it lies below what is new. -/
theorem slv_lt {w : World} {base : Option Addr} {len cap : Nat} {xs : List Value} (h : SlV w (.slice base len cap) xs) (hne : xs ≠ []) : ∀ a, base = some a → a.block < w.heap.size := by
 obtain ⟨base', cap', hv, hc⟩ := h.is
 cases hv
 rintro a rfl
 obtain ⟨p, hp, hc⟩ := hc hne
 cases hp
 cases xs with
 | nil => exact absurd rfl hne
 | cons x xs =>
  have := cell_lt (hc 0 x rfl)
  rwa [show (a.add 0).block = a.block by unfold Addr.add; split <;> rfl] at this
end Go.Vc
