/- Which function is for which rune: walked. -/
import Derived.Test.YtadginombcjbeaaT15
namespace Go.Proofs.Ytadginombcjbeaa
open Go.RowKit Go.Vc
set_option linter.unusedVariables false
def ents : List (Int × FuncId) → Nat → List MapEntry
 | [], _ => []
 | x :: l, c => { key := .int .i64 x.1, val := .func (.func x.2) #[] #[], born := c } :: ents l (c + 1)
def seqTab : List (Int × FuncId) := [(65, 43), (66, 44), (67, 45), (68, 46), (71, 47), (100, 48),
 (72, 49), (102, 49), (74, 50), (75, 51), (88, 52), (76, 53), (77, 54),
 (64, 55), (80, 56), (83, 57), (84, 58), (114, 59), (109, 60)]
theorem find_ents (r : Int) : ∀ (l : List (Int × FuncId)) (c i : Nat), ∃ q, Instr.findNow (.int .i64) (.int .i64 r) (ents l c) i = some q ∧ q.map (·.2) = (assocI l r).map fun f => Value.func (.func f) #[] #[]
 | [], c, i => ⟨none, rfl, rfl⟩
 | x :: l, c, i => by
  by_cases h : r = x.1
  ·refine ⟨some (i, .func (.func x.2) #[] #[]), ?_, ?_⟩
   ·show (match (if IntKind.i64 = IntKind.i64 then some (r == x.1) else none) with | some true => _ | some false => _ | none => _) = _
    rw [if_pos rfl, h, beq_self_eq_true]
   ·unfold assocI
    rw [if_pos h.symm]
    rfl
  ·obtain ⟨q, h1, h2⟩ := find_ents r l (c + 1) (i + 1)
   refine ⟨q, ?_, ?_⟩
   ·show (match (if IntKind.i64 = IntKind.i64 then some (r == x.1) else none) with | some true => _ | some false => Instr.findNow (.int .i64) (.int .i64 r) (ents l (c + 1)) (i + 1) | none => _) = _
    have hb : (r == x.1) = false := by
     cases hb : r == x.1 with
     | true => exact absurd (beq_iff_eq.1 hb) h
     | false => rfl
    rw [if_pos rfl, hb]
    exact h1
   ·unfold assocI
    rw [if_neg (fun e => h e.symm)]
    exact h2
theorem underMap : tb.P.underlying 69 = some (.map tI 67) := by kernel_rfl
theorem underInt : tb.P.underlying tI = some (.int .i64) := by kernel_rfl
theorem zeroFn (w : World) : (zeroValue 67).run tb.P w = .ok .nilFunc w := by kernel_rfl
set_option maxHeartbeats 2000000 in
theorem seq_M (w : World) : GivesM tb 26 [] w (ents seqTab 0) := by
 refine ⟨calls_sem (fn := Try.f26) Try.func26 rfl Try.ntmps26 rfl ?_⟩
 repeat refine s_seqs ?_
 refine s_reg ?_
 refine qa rfl rfl ?_
 refine Vc.step_end (fun a w ok => ?_)
 first | (refine WPs.run ?_ a w ok; clear ok w a) | skip
 repeat refine s_seqs ?_
 refine s_reg ?_
 refine m_make rfl (fun b hb => ?_)
 iterate 19 (refine m_insert rfl underMap underInt rfl rfl rfl rfl hb ?_)
 refine m_pure rfl (pure_move rfl) ?_
 refine m_pure rfl (pure_assign rfl) ?_
 refine m_end (fun a w2 ok hh => ?_)
 have kp := ok.keep
 refine WPs.run (E := ⟨w2, [], []⟩) ?_ a w2 (at_ok ok (List.Sublist.refl _))
 exact s_ret fun a3 w3 ok3 => ends_plain (.inr rfl) ok3 rfl (res_tmp Try.results26 rfl) ⟨b, 19, rfl, kp.trans ok3.keep (by simp), hb, by rw [ok3.keep.block b (lt_of_heap hh) (by simp)]; exact hh⟩
/-- What a method does. -/
structure Meth (f : FuncId) (F : Ac → Scr → Scr) : Prop where
 fn : Fun tb f
 does : ∀ (s : Scr) (cs : List Value) (ac : Ac) (w : World) (Z : Nat → Prop), (∀ j, w.heap.size ≤ j → Z j) → ScV (AtZ w Z) s cs → ScOk s → Ac8 ac → GivesP tb f [.agg cs.toArray, .agg (acC ac).toArray] w Z (ScR (F ac s))
def All2 {α β : Type} (P : α → β → Prop) : List α → List β → Prop
 | [], [] => True
 | x :: l, y :: r => P x y ∧ All2 P l r
 | _, _ => False
theorem assoc2 {P : FuncId → (Ac → Scr → Scr) → Prop} (r : Int) : ∀ (l : List (Int × FuncId)) (l2 : List (Int × (Ac → Scr → Scr))), All2 (fun a b => a.1 = b.1 ∧ P a.2 b.2) l l2 →
  (assocI l r = none ∧ assocI l2 r = none) ∨ ∃ f F, assocI l r = some f ∧ assocI l2 r = some F ∧ P f F
 | [], [], _ => .inl ⟨rfl, rfl⟩
 | [], _ :: _, h => h.elim
 | _ :: _, [], h => h.elim
 | x :: l, y :: l2, h => by
  obtain ⟨⟨h1, h2⟩, h3⟩ := h
  unfold assocI
  rw [← h1]
  by_cases hx : x.1 = r
  ·rw [if_pos hx, if_pos hx]
   exact .inr ⟨_, _, rfl, rfl, h2⟩
  ·rw [if_neg hx, if_neg hx]
   exact assoc2 r l l2 h3
theorem atz {w : World} {Z : Nat → Prop} {s : Scr} {cs : List Value} (h : ScV (AtZ w Z) s cs) : ScV (At w) s cs := h.mono fun p x h => h.1
theorem seq_meth (r : Int) : (assocI seqTab r = none ∧ tmSeq r = none) ∨ ∃ f F, assocI seqTab r = some f ∧ tmSeq r = some F ∧ Meth f F := by
 refine assoc2 r seqTab tmTab ?_
 exact ⟨⟨rfl, fun43, fun s cs ac w Z hZ hs ok h8 => up_S s cs ac w hZ (atz hs) ok h8⟩, ⟨rfl, fun44, fun s cs ac w Z hZ hs ok h8 => down_S s cs ac w hZ (atz hs) ok h8⟩,
  ⟨rfl, fun45, fun s cs ac w Z hZ hs ok h8 => right_P s cs ac w hZ (atz hs) ok h8⟩, ⟨rfl, fun46, fun s cs ac w Z hZ hs ok h8 => left_P s cs ac w hZ (atz hs) ok h8⟩,
  ⟨rfl, fun47, fun s cs ac w Z hZ hs ok h8 => column_P s cs ac w hZ (atz hs) ok h8⟩, ⟨rfl, fun48, fun s cs ac w Z hZ hs ok h8 => row_P s cs ac w hZ (atz hs) ok h8⟩,
  ⟨rfl, fun49, fun s cs ac w Z hZ hs ok h8 => place_P s cs ac w hZ (atz hs) ok h8⟩, ⟨rfl, fun49, fun s cs ac w Z hZ hs ok h8 => place_P s cs ac w hZ (atz hs) ok h8⟩,
  ⟨rfl, fun50, fun s cs ac w Z hZ hs ok h8 => all_S s cs ac w hZ (atz hs) ok h8⟩, ⟨rfl, fun51, fun s cs ac w Z hZ hs ok h8 => line_S s cs ac w hZ (atz hs) ok h8⟩,
  ⟨rfl, fun52, fun s cs ac w Z hZ hs ok h8 => some_S s cs ac w hZ (atz hs) ok h8⟩, ⟨rfl, fun53, fun s cs ac w Z hZ hs ok h8 => lines_S s cs ac w hZ (atz hs) ok h8⟩,
  ⟨rfl, fun54, fun s cs ac w Z hZ hs ok h8 => noLines_S s cs ac w hZ (atz hs) ok h8⟩, ⟨rfl, fun55, fun s cs ac w Z hZ hs ok h8 => chars_S s cs ac w hZ (atz hs) ok h8⟩,
  ⟨rfl, fun56, fun s cs ac w Z hZ hs ok h8 => noChars_S s cs ac w hZ (atz hs) ok h8⟩, ⟨rfl, fun57, fun s cs ac w Z hZ hs ok h8 => scroll_S s cs ac w hZ (atz hs) ok h8⟩,
  ⟨rfl, fun58, fun s cs ac w Z hZ hs ok h8 => back_S s cs ac w hZ (atz hs) ok h8⟩, ⟨rfl, fun59, fun s cs ac w Z hZ hs ok h8 => region_S s cs ac w hZ hs ok h8⟩,
  ⟨rfl, fun60, fun s cs ac w Z hZ hs ok h8 => looks_S s cs ac w hZ hs ok h8⟩, trivial⟩
end Go.Proofs.Ytadginombcjbeaa
