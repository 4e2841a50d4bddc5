/- What is padded: Pad, the document's too, walked. -/
import Derived.Test.YtajcfafamdacdaaP4
namespace Go.Proofs.Ytajcfafamdacdaa
open Go.RowKit Go.Vc
set_option linter.unusedVariables false

set_option maxHeartbeats 1000000 in
theorem cloneF_any (n : Nat) (xs : List Value) (v : Value) (w : World) (hv : SlC (At w) 5 v n xs) (ho : ∀ x ∈ xs, x.oneCell' = true) (hn : n ≤ 100000000000) :
    Makes tb 40 [v] w fun u m' => ∃ base cap e, u = .slice base n cap ∧ m' = [e] ∧ SlIs ty52 52 e base n cap xs := by
  obtain ⟨base0, cap0, rfl, hcap, hlen, hc⟩ := id hv
  refine makes_of (fn := Try.f40) Try.func40 rfl Try.ntmps40 rfl ?_
  repeat refine c_seq ?_
  refine c_region ?_
  refine step_pure rfl (pure_assign rfl) ?_
  refine step_hole ?_
  refine step_nil ?_
  repeat refine c_seq ?_
  refine c_region ?_
  refine step_pure rfl (pure_move rfl) ?_
  refine step_pure rfl (pure_nil_eql rfl rfl rfl rfl) ?_
  refine step_nil ?_
  repeat refine c_seq ?_
  refine c_cond rfl (fun h => ?_) (fun h => ?_)
  · have h0 : xs = [] := by
      cases base0 with
      | some p => cases h
      | none =>
        cases xs with
        | nil => rfl
        | cons x l => obtain ⟨p, hp, _⟩ := hc (by simp); cases hp
    subst h0
    have h1 : n = 0 := by simp at hlen; omega
    subst h1
    repeat refine c_seq ?_
    refine c_region ?_
    refine step_pure rfl (pure_assign rfl) ?_
    refine step_nil ?_
    exact c_ret ⟨_, res_tmp Try.results40 rfl, _, List.Sublist.refl _, none, 0, hole, rfl, rfl, sl_nil _ _ (by decide)⟩
  · refine c_skip ?_
    repeat refine c_seq ?_
    refine c_region ?_
    refine step_buildSlice0 rfl rfl rfl rfl (fun b5 => ?_)
    refine step_pure rfl (pure_move rfl) ?_
    refine step_append 0 rfl rfl (sl_empty ty52 52 b5) rfl rfl rfl rfl rfl elem52 rfl (by decide) rfl rfl hlen (src_slc (fun w' hh kp => hv.mono (at_keep kp))) ho (by omega) (by show _ * 72 ≤ _; omega) (fun base' cap' e' hs' => ?_)
    rw [Nat.zero_add, List.nil_append] at hs'
    rw [Nat.zero_add]
    refine step_pure rfl (pure_assign rfl) ?_
    refine step_nil ?_
    exact c_ret ⟨_, res_tmp Try.results40 rfl, [e'], (by repeat (first | exact List.Sublist.refl _ | exact List.nil_sublist _ | apply List.Sublist.cons_cons | apply List.Sublist.cons)), base', cap', e', rfl, rfl, hs'⟩

theorem fits_any (more n : Int) (b : Nat) (w : World) (hc : w.cell? ⟨b, 0, none⟩ = some (.int .i64 more)) : Gives tb 41 [.int .i64 n, .pointer (some ⟨b, 0, none⟩)] w (.bool (fit more n)) := by
  refine gives_of (fn := Try.f41) Try.func41 rfl Try.ntmps41 rfl ?_
  have hv := vsize_cases n
  unfold fit
  repeat refine c_seq ?_
  refine c_region ?_
  refine step_pure rfl (pure_assign rfl) ?_
  refine step_nil ?_
  by_cases h1 : 1 ≤ n
  · by_cases h2 : n ≤ 2048
    · repeat refine c_seq ?_
      refine d_region2 [1, 9, 17, 25, 33, 41, 49, 57, 67, 73, 81, 89, 99, 105, 113, 121] ([]) follows (by kernel_rfl) ?_
      refine d_pure0 rfl rfl rfl (pure_move rfl) ?_
      refine d_as0 rfl rfl rfl (pure_geq rfl rfl) (show _ = Value.bool true from by rw [decide_eq_true (by omega)]) ?_
      refine d_pure0 rfl rfl rfl (pure_move rfl) ?_
      refine d_pure0 rfl rfl rfl (pure_move rfl) ?_
      refine d_as0 rfl rfl rfl (pure_leq rfl rfl) (show _ = Value.bool true from by rw [decide_eq_true (by omega)]) ?_
      refine d_pure0 rfl rfl rfl (pure_pick_yes rfl rfl) ?_
      refine d_pure0 rfl rfl rfl (pure_move rfl) ?_
      refine d_pure0 rfl rfl rfl (pure_move rfl) ?_
      refine d_gives rfl rfl rfl fun42 rfl (fun w _ _ => size_any n w) (by first | exact SubMem.refl _ | exact (SubMem.refl _).cons | exact (SubMem.refl _).cons.cons | exact (SubMem.refl _).cons.cons.cons | exact (SubMem.refl _).cons.cons.cons.cons | exact (fun w hh => Has.sublist (by repeat (first | exact List.Sublist.refl _ | exact List.nil_sublist _ | apply List.Sublist.cons_cons | apply List.Sublist.cons)) hh)) ?_
      first | refine d_pure0 rfl rfl rfl (pure_add64 rfl rfl (by omega) (by omega)) ?_ | refine d_pure0 rfl rfl rfl (pure_add rfl rfl) ?_
      refine d_pure0 rfl rfl rfl (pure_move rfl) ?_
      first | refine d_pure0 rfl rfl rfl (pure_add64 rfl rfl (by omega) (by omega)) ?_ | refine d_pure0 rfl rfl rfl (pure_add rfl rfl) ?_
      refine d_pure1 rfl rfl rfl (pure_view_at rfl rfl rfl hc List.not_mem_nil) (by first | exact SubMem.refl _ | exact (SubMem.refl _).cons | exact (SubMem.refl _).cons.cons | exact (SubMem.refl _).cons.cons.cons | exact (SubMem.refl _).cons.cons.cons.cons | exact (fun w hh => Has.sublist (by repeat (first | exact List.Sublist.refl _ | exact List.nil_sublist _ | apply List.Sublist.cons_cons | apply List.Sublist.cons)) hh)) ?_
      refine d_pure0 rfl rfl rfl (pure_eql rfl rfl) ?_
      refine d_pure0 rfl rfl rfl (pure_pick_yes rfl rfl) ?_
      refine d_pure0 rfl rfl rfl (pure_assign rfl) ?_
      refine d_nil ?_
      refine c_ret ⟨_, res_tmp Try.results41 rfl, congrArg Value.bool ?_⟩
      rw [decide_eq_true h1, decide_eq_true h2, Bool.true_and, Bool.true_and, Bool.eq_iff_iff]
      simp
    · repeat refine c_seq ?_
      refine d_region2 [1, 9, 17, 25, 33, 41, 49, 57, 67, 73, 81, 89, 99, 105, 113, 121] ([]) follows (by kernel_rfl) ?_
      refine d_pure0 rfl rfl rfl (pure_move rfl) ?_
      refine d_as0 rfl rfl rfl (pure_geq rfl rfl) (show _ = Value.bool true from by rw [decide_eq_true (by omega)]) ?_
      refine d_pure0 rfl rfl rfl (pure_move rfl) ?_
      refine d_pure0 rfl rfl rfl (pure_move rfl) ?_
      refine d_as0 rfl rfl rfl (pure_leq rfl rfl) (show _ = Value.bool false from by rw [decide_eq_false (by omega)]) ?_
      refine d_pure0 rfl rfl rfl (pure_pick_yes rfl rfl) ?_
      refine d_pure0 rfl rfl rfl (pure_move rfl) ?_
      refine d_pass rfl rfl rfl (fun h => by cases h) rfl rfl rfl ?_
      refine d_pass rfl rfl rfl (fun _ => (by first | exact SubMem.refl _ | exact (SubMem.refl _).cons | exact (SubMem.refl _).cons.cons | exact (SubMem.refl _).cons.cons.cons | exact (SubMem.refl _).cons.cons.cons.cons | exact (fun w hh => Has.sublist (by repeat (first | exact List.Sublist.refl _ | exact List.nil_sublist _ | apply List.Sublist.cons_cons | apply List.Sublist.cons)) hh))) rfl rfl rfl ?_
      refine d_pass rfl rfl rfl (fun h => by cases h) rfl rfl rfl ?_
      refine d_pass rfl rfl rfl (fun h => by cases h) rfl rfl rfl ?_
      refine d_pass rfl rfl rfl (fun h => by cases h) rfl rfl rfl ?_
      refine d_pass rfl rfl rfl (fun _ => (by first | exact SubMem.refl _ | exact (SubMem.refl _).cons | exact (SubMem.refl _).cons.cons | exact (SubMem.refl _).cons.cons.cons | exact (SubMem.refl _).cons.cons.cons.cons | exact (fun w hh => Has.sublist (by repeat (first | exact List.Sublist.refl _ | exact List.nil_sublist _ | apply List.Sublist.cons_cons | apply List.Sublist.cons)) hh))) rfl rfl rfl ?_
      refine d_pass rfl rfl rfl (fun h => by cases h) rfl rfl rfl ?_
      refine d_pure0 rfl rfl rfl (pure_pick_no rfl rfl) ?_
      refine d_pure0 rfl rfl rfl (pure_assign rfl) ?_
      refine d_nil ?_
      refine c_ret ⟨_, res_tmp Try.results41 rfl, congrArg Value.bool ?_⟩
      rw [decide_eq_false h2]
      simp
  · repeat refine c_seq ?_
    refine d_region2 [1, 9, 17, 25, 33, 41, 49, 57, 67, 73, 81, 89, 99, 105, 113, 121] ([]) follows (by kernel_rfl) ?_
    refine d_pure0 rfl rfl rfl (pure_move rfl) ?_
    refine d_as0 rfl rfl rfl (pure_geq rfl rfl) (show _ = Value.bool false from by rw [decide_eq_false (by omega)]) ?_
    refine d_pure0 rfl rfl rfl (pure_move rfl) ?_
    refine d_pass rfl rfl rfl (fun h => by cases h) rfl rfl rfl ?_
    refine d_pass rfl rfl rfl (fun h => by cases h) rfl rfl rfl ?_
    refine d_pure0 rfl rfl rfl (pure_pick_no rfl rfl) ?_
    refine d_pure0 rfl rfl rfl (pure_move rfl) ?_
    refine d_pass rfl rfl rfl (fun h => by cases h) rfl rfl rfl ?_
    refine d_pass rfl rfl rfl (fun _ => (by first | exact SubMem.refl _ | exact (SubMem.refl _).cons | exact (SubMem.refl _).cons.cons | exact (SubMem.refl _).cons.cons.cons | exact (SubMem.refl _).cons.cons.cons.cons | exact (fun w hh => Has.sublist (by repeat (first | exact List.Sublist.refl _ | exact List.nil_sublist _ | apply List.Sublist.cons_cons | apply List.Sublist.cons)) hh))) rfl rfl rfl ?_
    refine d_pass rfl rfl rfl (fun h => by cases h) rfl rfl rfl ?_
    refine d_pass rfl rfl rfl (fun h => by cases h) rfl rfl rfl ?_
    refine d_pass rfl rfl rfl (fun h => by cases h) rfl rfl rfl ?_
    refine d_pass rfl rfl rfl (fun _ => (by first | exact SubMem.refl _ | exact (SubMem.refl _).cons | exact (SubMem.refl _).cons.cons | exact (SubMem.refl _).cons.cons.cons | exact (SubMem.refl _).cons.cons.cons.cons | exact (fun w hh => Has.sublist (by repeat (first | exact List.Sublist.refl _ | exact List.nil_sublist _ | apply List.Sublist.cons_cons | apply List.Sublist.cons)) hh))) rfl rfl rfl ?_
    refine d_pass rfl rfl rfl (fun h => by cases h) rfl rfl rfl ?_
    refine d_pure0 rfl rfl rfl (pure_pick_no rfl rfl) ?_
    refine d_pure0 rfl rfl rfl (pure_assign rfl) ?_
    refine d_nil ?_
    refine c_ret ⟨_, res_tmp Try.results41 rfl, congrArg Value.bool ?_⟩
    rw [decide_eq_false h1]
    simp

def PdR (size : Int) (l : List Fr) (u : Value) (C : Addr → Value → Prop) : Prop := ∃ v, u = .tuple #[v, .int .i64 (if (pPad size l).isSome = true then 0 else 30)] ∧ FrsC C v ((pPad size l).getD [])
theorem pdR_mono (size : Int) (l : List Fr) : ∀ v (C C' : Addr → Value → Prop), (∀ a x, C a x → C' a x) → PdR size l v C → PdR size l v C' := by
  rintro u C C' hC ⟨v, rfl, hs⟩
  exact ⟨v, rfl, hs.mono hC⟩
theorem pdR_no {size : Int} {l : List Fr} {C : Addr → Value → Prop} (h : pPad size l = none) : PdR size l (.tuple #[.slice none 0 0, .int .i64 30]) C := by
  unfold PdR
  rw [h]
  exact ⟨_, rfl, frs_nil⟩
theorem pdR_yes {size : Int} {l k : List Fr} {v : Value} {C : Addr → Value → Prop} (h : pPad size l = some k) (hv : FrsC C v k) : PdR size l (.tuple #[v, .int .i64 0]) C := by
  unfold PdR
  rw [h]
  exact ⟨_, rfl, hv⟩
theorem pPad_bad {size : Int} {l : List Fr} (h : wrOk l = false) : pPad size l = none := by unfold pPad; rw [if_neg (by rw [h]; decide)]
theorem pPad_same {size : Int} {l : List Fr} (h : wrOk l = true) (h1 : ((wBs l).length : Int) = size) : pPad size l = some l := by unfold pPad; rw [if_pos h, if_pos h1]
theorem pPad_full {size : Int} {l : List Fr} (h : wrOk l = true) (h1 : ((wBs l).length : Int) ≠ size) (h2 : l.length = 16) : pPad size l = none := by unfold pPad; rw [if_pos h, if_neg h1, if_pos h2]
theorem pPad_find {size : Int} {l : List Fr} (h : wrOk l = true) (h1 : ((wBs l).length : Int) ≠ size) (h2 : l.length ≠ 16) : pPad size l = (pFind (size - (wBs l).length)).map fun n => l ++ [padN n] := by unfold pPad; rw [if_pos h, if_neg h1, if_neg h2]
theorem pFind_far {more : Int} (h : more < 2 ∨ 2052 < more) : pFind more = none := by
  cases hp : pFind more with
  | none => rfl
  | some n =>
    have := fit_in (pFind_in hp)
    have := vsize_cases n
    omega
/-- The cells of a pad. -/
def padCells (n : Int) : List Value := [.int .i64 0, .int .i64 n, .int .i64 0, .slice none 0 0, .slice none 0 0]
theorem padC {C : Addr → Value → Prop} (n : Int) : FrC C (padN n) (padCells n) := ⟨_, _, rfl, slc_nil, slc_nil⟩
theorem pad_one (n : Int) : ∀ v ∈ padCells n, v.oneCell' = true := by
  intro v hv
  simp [padCells] at hv
  rcases hv with rfl | rfl | rfl | rfl | rfl <;> rfl
theorem frs_padded {C : Addr → Value → Prop} {l : List Fr} {css : List (List Value)} {n : Int} {e : Ent} {base : Option Addr} {len cap : Nat} (h1 : css.length = l.length) (h2 : ∀ (i : Nat) (f : Fr) (cs : List Value), l[i]? = some f → css[i]? = some cs → FrC C f cs)
    (hl : len = l.length + 1) (hs : SlIs ty52 52 e base len cap (css.flatten ++ padCells n)) (hc : ∀ j x, e.cells[j]? = some x → C ⟨e.blk, j, none⟩ x) : FrsC C (.slice base len cap) (l ++ [padN n]) := by
  subst hl
  refine ⟨css ++ [padCells n], by simp [h1], frc_app h1 h2 ?_, ?_⟩
  · intro i f cs hf hcs
    cases i with
    | zero => cases hf; cases hcs; exact padC n
    | succ i => simp at hf
  · rw [List.flatten_append, List.flatten_cons, List.flatten_nil, List.append_nil, List.length_append, List.length_singleton]
    exact slis_cz hs hc
theorem frs_cloned {C : Addr → Value → Prop} {l : List Fr} {css : List (List Value)} {e : Ent} {base : Option Addr} {cap : Nat} (h1 : css.length = l.length) (h2 : ∀ (i : Nat) (f : Fr) (cs : List Value), l[i]? = some f → css[i]? = some cs → FrC C f cs)
    (hs : SlIs ty52 52 e base l.length cap css.flatten) (hc : ∀ j x, e.cells[j]? = some x → C ⟨e.blk, j, none⟩ x) : FrsC C (.slice base l.length cap) l :=
  ⟨css, h1, h2, slis_cz hs hc⟩
/-- The two numbers that are tried. -/
def nI (more : Int) (i : Nat) : Int := if i = 0 then more - 2 else more - 3
theorem pFind_two {more : Int} (h0 : fit more (nI more 0) = false) (h1 : fit more (nI more 1) = false) : pFind more = none := by
  have h0 : fit more (more - 2) = false := h0
  have h1 : fit more (more - 3) = false := h1
  unfold pFind
  rw [h0, h1]
  rfl
theorem ix2 {u : Ty} (hu : u.size = 1) {more : Int} {i : Nat} (h : i < 2) : [Value.int .i64 (more - 2), .int .i64 (more - 3)][(i : Int).toNat * u.size]? = some (.int .i64 (nI more i)) := by
  rw [hu, Int.toNat_natCast, Nat.mul_one]
  obtain rfl | rfl : i = 0 ∨ i = 1 := by omega
  · rfl
  · rfl
set_option maxHeartbeats 4000000 in
theorem pad_P (size : Int) (l : List Fr) (v : Value) (w : World) {Z : Nat → Prop} (hZ : ∀ b, w.heap.size ≤ b → Z b) (hv : FrsC (fun p x => w.cell? p = some x ∧ Z p.block) v l) (hbig : ∀ f ∈ l, f.data.length ≤ maxLen) :
    GivesP tb 25 [.int .i64 size, v] w Z (PdR size l) := by
  have hv : FrsC (Cz Z ⟨w, [], []⟩) v l := hv.mono fun p x h => cz_start p x h
  obtain ⟨base1, cap1, rfl, hcap1⟩ := hv.slice
  refine givesP_of (fn := Try.f25) Try.func25 rfl Try.ntmps25 rfl hZ (pdR_mono size l) (fun on => ?_)
  repeat refine s_seqs ?_
  refine s_reg ?_
  refine step_pure rfl (pure_assign rfl) ?_
  refine step_pure rfl (pure_assign rfl) ?_
  refine Vc.step_end (fun a w ok => ?_)
  first | (refine WPs.run ?_ a w ok; clear ok w a) | skip
  repeat refine s_seqs ?_
  refine s_reg ?_
  refine step_pure rfl (pure_move rfl) ?_
  refine step_givesP on.sc rfl fun28 rfl (fun w' Z' hh kp hZ hC => write_P l _ w' hZ (hv.mono (Cz.now kp)) hbig) ?_
  rintro u E1 g ⟨v6, rfl, hw⟩
  replace on := on.next g
  replace hv := hv.mono g.cz
  clear g
  refine step_pure rfl (pure_move rfl) ?_
  refine step_pure rfl (pure_extract rfl rfl) ?_
  refine step_pure rfl (pure_extract rfl rfl) ?_
  refine step_pure rfl (pure_assign rfl) ?_
  refine step_pure rfl (pure_assign rfl) ?_
  refine Vc.step_end (fun a w ok => ?_)
  first | (refine WPs.run ?_ a w ok; clear ok w a) | skip
  repeat refine s_seqs ?_
  refine s_reg ?_
  refine step_pure rfl (pure_move rfl) ?_
  refine step_pure rfl (pure_neq rfl rfl) ?_
  refine Vc.step_end (fun a w ok => ?_)
  first | (refine WPs.run ?_ a w ok; clear ok w a) | skip
  cases hok : wrOk l with
  | false =>
    repeat refine s_seqs ?_
    refine s_cond_yes rfl rfl ?_
    repeat refine s_seqs ?_
    refine s_reg ?_
    refine step_pure rfl (pure_assign rfl) ?_
    refine step_pure rfl (pure_assign rfl) ?_
    refine Vc.step_end (fun a w ok => ?_)
    first | (refine WPs.run ?_ a w ok; clear ok w a) | skip
    exact s_ret fun a w ok => ends_givesP on (.inr rfl) ok (res_tmp2 Try.results25 rfl rfl) (pdR_mono size l) (pdR_no (pPad_bad hok))
  | true =>
  repeat refine s_seqs ?_
  refine s_cond_no rfl rfl ?_
  refine s_skip fun a w ok => WPs.run ?_ a w ok
  clear ok w a
  obtain ⟨base6, cap6, rfl, hcap6⟩ := slc_str hw
  have hBl := wBs_le l
  have h16 := (wrOk_in hok).1
  obtain ⟨css, hc1, hc2, hc3⟩ := id hv
  have hone := css_one hc1 hc2
  have hcl := fun w' (kp : Keep E1.w0 w' E1.ws) => cloneF_any l.length css.flatten _ w' (hc3.mono (Cz.now kp)) hone (by omega)
  repeat refine s_seqs ?_
  refine s_reg ?_
  refine step_pure rfl (pure_move rfl) ?_
  refine step_pure rfl (pure_len_slice rfl rfl rfl) ?_
  refine step_pure rfl (pure_move rfl) ?_
  refine step_pure rfl (pure_eql rfl rfl) ?_
  refine Vc.step_end (fun a w ok => ?_)
  first | (refine WPs.run ?_ a w ok; clear ok w a) | skip
  repeat refine s_seqs ?_
  refine s_cond rfl (fun h => ?_) (fun h => ?_)
  · have hsz : ((wBs l).length : Int) = size := by simpa using h
    repeat refine s_seqs ?_
    refine s_reg ?_
    refine step_pure rfl (pure_move rfl) ?_
    refine step_makes rfl fun40 rfl (fun w' hh kp => hcl w' kp) ?_
    rintro u m' ⟨base7, cap7, e7, rfl, rfl, hs7⟩
    refine step_pure rfl (pure_assign rfl) ?_
    refine step_pure rfl (pure_assign rfl) ?_
    refine Vc.step_end (fun a w ok => ?_)
    first | (refine WPs.run ?_ a w ok; clear ok w a) | skip
    refine s_let 0 rfl (fun E5 g5 hc => ?_)
    refine s_ret fun a w ok => ends_givesP (on.next g5) (.inr rfl) ok (res_tmp2 Try.results25 rfl rfl) (pdR_mono size l) (pdR_yes (pPad_same hok hsz) ?_)
    exact frs_cloned hc1 (fun i f cs h1 h2 => (hc2 i f cs h1 h2).mono g5.cz) hs7 (hc _ on.sc)
  have hsz : ((wBs l).length : Int) ≠ size := by simpa using h
  clear h
  refine s_skip fun a w ok => WPs.run ?_ a w ok
  clear ok w a
  generalize hL : (wBs l).length = L at *
  repeat refine s_seqs ?_
  refine s_meet [(0, .int .i64 size), (1, .slice base1 l.length cap1), (6, .slice base6 L cap6), (41, .bool (decide (size > (L : Int) + 2052 ∨ size < L ∨ l.length = 16)))] [] ?_ (fun a w ok => WPs.run ?_ a w ok)
  · clear hcl hc3 hc2 hc1 hv hw hone
    generalize l.length = n at *
    repeat refine c_seq ?_
    refine c_region ?_
    refine step_pure rfl (pure_move rfl) ?_
    refine step_pure rfl (pure_move rfl) ?_
    refine step_pure rfl (pure_len_slice rfl rfl rfl) ?_
    first | refine step_pure rfl (pure_add64 rfl rfl (by omega) (by omega)) ?_ | refine step_pure rfl (pure_add rfl rfl) ?_
    first | refine step_pure rfl (pure_add64 rfl rfl (by omega) (by omega)) ?_ | refine step_pure rfl (pure_add rfl rfl) ?_
    refine step_pure rfl (pure_gtr rfl rfl) ?_
    refine step_pure rfl (pure_move rfl) ?_
    refine step_split (t := 31) rfl (fun h31 => ?_) (fun h31 => ?_)
    · refine step_pass rfl rfl rfl ?_
      refine step_pass rfl rfl rfl ?_
      refine step_pass rfl rfl rfl ?_
      refine step_pass rfl rfl rfl ?_
      refine step_pure rfl (pure_pick_yes rfl rfl) ?_
      refine step_pure rfl (pure_move rfl) ?_
      refine step_pass rfl rfl rfl ?_
      refine step_pass rfl rfl rfl ?_
      refine step_pass rfl rfl rfl ?_
      refine step_pure rfl (pure_pick_yes rfl rfl) ?_
      refine step_nil ?_
      refine less_of ⟨rfl, rfl, rfl, ?_, trivial⟩ rfl
      refine congrArg some (congrArg Value.bool ?_)
      rw [Bool.eq_iff_iff]
      simp_all <;> omega
    · refine step_pure rfl (pure_move rfl) ?_
      refine step_pure rfl (pure_move rfl) ?_
      refine step_pure rfl (pure_len_slice rfl rfl rfl) ?_
      refine step_pure rfl (pure_lss rfl rfl) ?_
      refine step_pure rfl (pure_pick_no rfl rfl) ?_
      refine step_pure rfl (pure_move rfl) ?_
      refine step_split (t := 37) rfl (fun h37 => ?_) (fun h37 => ?_)
      · refine step_pass rfl rfl rfl ?_
        refine step_pass rfl rfl rfl ?_
        refine step_pass rfl rfl rfl ?_
        refine step_pure rfl (pure_pick_yes rfl rfl) ?_
        refine step_nil ?_
        refine less_of ⟨rfl, rfl, rfl, ?_, trivial⟩ rfl
        refine congrArg some (congrArg Value.bool ?_)
        rw [Bool.eq_iff_iff]
        simp_all <;> omega
      · refine step_pure rfl (pure_move rfl) ?_
        refine step_pure rfl (pure_len_slice rfl rfl rfl) ?_
        refine step_pure rfl (pure_eql rfl rfl) ?_
        refine step_pure rfl (pure_pick_no rfl rfl) ?_
        refine step_nil ?_
        refine less_of ⟨rfl, rfl, rfl, ?_, trivial⟩ rfl
        refine congrArg some (congrArg Value.bool ?_)
        rw [Bool.eq_iff_iff]
        simp_all <;> omega
  repeat refine s_seqs ?_
  refine s_cond rfl (fun h => ?_) (fun h => ?_)
  · have hno : pPad size l = none := by
      have h := of_decide_eq_true h
      by_cases h2 : l.length = 16
      · exact pPad_full hok (by rw [hL]; exact hsz) h2
      · rw [pPad_find hok (by rw [hL]; exact hsz) h2, hL, pFind_far (by omega)]
        rfl
    repeat refine s_seqs ?_
    refine s_reg ?_
    refine step_pure rfl (pure_assign rfl) ?_
    refine step_pure rfl (pure_assign rfl) ?_
    refine Vc.step_end (fun a w ok => ?_)
    first | (refine WPs.run ?_ a w ok; clear ok w a) | skip
    exact s_ret fun a w ok => ends_givesP on (.inr rfl) ok (res_tmp2 Try.results25 rfl rfl) (pdR_mono size l) (pdR_no hno)
  have hin : size ≤ (L : Int) + 2052 ∧ (L : Int) ≤ size ∧ l.length ≠ 16 := by have := of_decide_eq_false h; omega
  clear h
  have hfind := pPad_find hok (by rw [hL]; exact hsz) hin.2.2
  rw [hL] at hfind
  refine s_skip fun a w ok => WPs.run ?_ a w ok
  clear ok w a
  obtain ⟨more, hmore⟩ : ∃ more, size - (L : Int) = more := ⟨_, rfl⟩
  rw [hmore] at hfind
  repeat refine s_seqs ?_
  refine s_reg ?_
  refine step_pure rfl (pure_move rfl) ?_
  refine step_pure rfl (pure_move rfl) ?_
  refine step_pure rfl (pure_len_slice rfl rfl rfl) ?_
  refine step_as rfl (pure_sub64 rfl rfl (by omega) (by omega)) (show _ = Value.int .i64 more from by rw [hmore]) ?_
  refine step_alloc rfl zero3 (fun b8 => ?_)
  first | refine step_store 0 rfl rfl rfl rfl rfl rfl rfl rfl (by first | decide | exact Nat.le_of_ble_eq_true rfl) rfl ?_ | refine step_store 1 rfl rfl rfl rfl rfl rfl rfl rfl (by first | decide | exact Nat.le_of_ble_eq_true rfl) rfl ?_ | refine step_store 2 rfl rfl rfl rfl rfl rfl rfl rfl (by first | decide | exact Nat.le_of_ble_eq_true rfl) rfl ?_ | refine step_store 3 rfl rfl rfl rfl rfl rfl rfl rfl (by first | decide | exact Nat.le_of_ble_eq_true rfl) rfl ?_ | refine step_store 4 rfl rfl rfl rfl rfl rfl rfl rfl (by first | decide | exact Nat.le_of_ble_eq_true rfl) rfl ?_ | refine step_store 5 rfl rfl rfl rfl rfl rfl rfl rfl (by first | decide | exact Nat.le_of_ble_eq_true rfl) rfl ?_
  refine Vc.step_end (fun a w ok => ?_)
  first | (refine WPs.run ?_ a w ok; clear ok w a) | skip
  repeat refine s_seqs ?_
  refine s_reg ?_
  refine step_pure rfl (pure_makeFunc rfl) ?_
  refine step_pure rfl (pure_assign rfl) ?_
  refine Vc.step_end (fun a w ok => ?_)
  first | (refine WPs.run ?_ a w ok; clear ok w a) | skip
  repeat refine s_seqs ?_
  refine s_reg ?_
  first | refine step_pure rfl (pure_load (i := 0) rfl rfl rfl rfl rfl rfl) ?_ | refine step_pure rfl (pure_load (i := 1) rfl rfl rfl rfl rfl rfl) ?_ | refine step_pure rfl (pure_load (i := 2) rfl rfl rfl rfl rfl rfl) ?_ | refine step_pure rfl (pure_load (i := 3) rfl rfl rfl rfl rfl rfl) ?_ | refine step_pure rfl (pure_load (i := 4) rfl rfl rfl rfl rfl rfl) ?_ | refine step_pure rfl (pure_load (i := 5) rfl rfl rfl rfl rfl rfl) ?_
  first | refine step_pure rfl (pure_sub64 rfl rfl (by omega) (by omega)) ?_ | refine step_pure rfl (pure_sub rfl rfl) ?_
  first | refine step_pure rfl (pure_load (i := 0) rfl rfl rfl rfl rfl rfl) ?_ | refine step_pure rfl (pure_load (i := 1) rfl rfl rfl rfl rfl rfl) ?_ | refine step_pure rfl (pure_load (i := 2) rfl rfl rfl rfl rfl rfl) ?_ | refine step_pure rfl (pure_load (i := 3) rfl rfl rfl rfl rfl rfl) ?_ | refine step_pure rfl (pure_load (i := 4) rfl rfl rfl rfl rfl rfl) ?_ | refine step_pure rfl (pure_load (i := 5) rfl rfl rfl rfl rfl rfl) ?_
  first | refine step_pure rfl (pure_sub64 rfl rfl (by omega) (by omega)) ?_ | refine step_pure rfl (pure_sub rfl rfl) ?_
  refine step_pure rfl (pure_build_arr rfl zero64 rfl rfl rfl rfl) ?_
  refine step_pure rfl (pure_move rfl) ?_
  refine Vc.step_end (fun a w ok => ?_)
  first | (refine WPs.run ?_ a w ok; clear ok w a) | skip
  repeat refine s_seqs ?_
  refine s_block ?_
  repeat refine s_seqs ?_
  refine s_loopP (α := Nat) (fun i => [(0, .int .i64 size), (1, .slice base1 l.length cap1), (9, .func (.func 41) #[] #[.pointer (some ⟨b8, 0, none⟩)]), (51, .agg #[.int .i64 (more - 2), .int .i64 (more - 3)]), (52, .int .i64 i)]) (fun _ => [⟨b8, [.int .i64 more], 3⟩])
    (fun i _ => i ≤ 2 ∧ ∀ j, j < i → fit more (nI more j) = false) (fun i => 2 - i) 0 ⟨Nat.zero_le _, fun j hj => by omega⟩ (less_of ⟨rfl, rfl, rfl, rfl, rfl, trivial⟩ rfl) ?_
  rintro i E2 ⟨hi, hall⟩ g
  replace on := on.next g
  replace hv := hv.mono g.cz
  replace hc3 := hc3.mono g.cz
  replace hc2 := fun i f cs h1 h2 => (hc2 i f cs h1 h2).mono g.cz
  clear g hcl hw
  have hcl := fun w' (kp : Keep E2.w0 w' E2.ws) => cloneF_any l.length css.flatten _ w' (hc3.mono (Cz.now kp)) hone (by omega)
  repeat refine s_seqs ?_
  refine s_reg ?_
  refine step_pure rfl (pure_lss rfl rfl) ?_
  refine Vc.step_end (fun a w ok => ?_)
  first | (refine WPs.run ?_ a w ok; clear ok w a) | skip
  repeat refine s_seqs ?_
  refine s_cond rfl (fun h => ?_) (fun h => ?_)
  · have hlt : i < 2 := by have := of_decide_eq_true h; omega
    clear h
    refine s_skip fun a w ok => WPs.run ?_ a w ok
    clear ok w a
    repeat refine s_seqs ?_
    refine s_block ?_
    repeat refine s_seqs ?_
    refine s_reg ?_
    refine step_pure rfl (pure_index rfl rfl rfl rfl rfl rfl (by omega) (by omega) (ix2 rfl hlt)) ?_
    refine step_pure rfl (pure_assign rfl) ?_
    refine Vc.step_end (fun a w ok => ?_)
    first | (refine WPs.run ?_ a w ok; clear ok w a) | skip
    repeat refine s_seqs ?_
    refine s_reg ?_
    refine step_pure rfl (pure_move rfl) ?_
    refine step_pure rfl (pure_move rfl) ?_
    refine step_givesF (caps := [.pointer (some ⟨b8, 0, none⟩)]) rfl rfl fun41 rfl (fun w' hh kp => fits_any more (nI more i) b8 w' (cell_of (hh.1 (by simp)) rfl)) ?_
    refine Vc.step_end (fun a w ok => ?_)
    first | (refine WPs.run ?_ a w ok; clear ok w a) | skip
    repeat refine s_seqs ?_
    refine s_cond rfl (fun h => ?_) (fun h => ?_)
    · have hf := pFind_of h
      rw [hf] at hfind
      repeat refine s_seqs ?_
      refine s_reg ?_
      refine step_pure rfl (pure_move rfl) ?_
      refine step_makes rfl fun40 rfl (fun w' hh kp => hcl w' kp) ?_
      rintro u m' ⟨base7, cap7, e7, rfl, rfl, hs7⟩
      refine step_pure rfl (pure_move rfl) ?_
      refine step_pure rfl (pure_build_struct (pl := [(0, 1), (1, 1), (2, 1), (3, 1), (4, 1)]) rfl zero52 rfl rfl rfl rfl) ?_
      refine step_buildSlice rfl rfl rfl rfl elem52 (by decide) (by decide) (fill_fr _ _ _ _ _) (fun b62 => ?_)
      refine step_append 1 rfl rfl hs7 rfl rfl rfl rfl rfl elem52 rfl (by decide) rfl rfl rfl (src_own (j := 0) (sl_built ty52 52 b62 (padCells (nI more i)) 1 rfl) rfl) (pad_one _) (by omega) (by show _ * 72 ≤ _; omega) (fun base8 cap8 e8 hs8 => ?_)
      refine step_pure rfl (pure_assign rfl) ?_
      refine step_pure rfl (pure_assign rfl) ?_
      refine Vc.step_end (fun a w ok => ?_)
      first | (refine WPs.run ?_ a w ok; clear ok w a) | skip
      refine s_let 1 rfl (fun E5 g5 hc => ?_)
      refine s_ret fun a w ok => ends_givesP (on.next g5) (.inr rfl) ok (res_tmp2 Try.results25 rfl rfl) (pdR_mono size l) (pdR_yes hfind ?_)
      exact frs_padded hc1 (fun i f cs h1 h2 => (hc2 i f cs h1 h2).mono g5.cz) rfl hs8 (hc _ on.sc)
    · refine s_skip fun a w ok => WPs.run ?_ a w ok
      clear ok w a
      repeat refine s_seqs ?_
      refine s_reg ?_
      first | refine step_pure rfl (pure_add64 rfl rfl (by omega) (by omega)) ?_ | refine step_pure rfl (pure_add rfl rfl) ?_
      refine step_pure rfl (pure_move rfl) ?_
      refine Vc.step_end (fun a w ok => ?_)
      refine ⟨i + 1, E2, ⟨hlt, fun j hj => ?_⟩, by omega, Gt.refl _, Less.ok ?_ ok⟩
      · by_cases hji : j = i
        · rw [hji]; exact h
        · exact hall j (by omega)
      exact less_of ⟨rfl, rfl, rfl, rfl, rfl, trivial⟩ rfl
  · have hie : i = 2 := by have := of_decide_eq_false h; omega
    subst hie
    rw [pFind_two (hall 0 (by decide)) (hall 1 (by decide))] at hfind
    refine s_exit fun a w ok => WPs.run ?_ a w ok
    clear ok w a
    repeat refine s_seqs ?_
    refine s_reg ?_
    refine step_pure rfl (pure_assign rfl) ?_
    refine step_pure rfl (pure_assign rfl) ?_
    refine Vc.step_end (fun a w ok => ?_)
    first | (refine WPs.run ?_ a w ok; clear ok w a) | skip
    exact s_ret fun a w ok => ends_givesP on (.inr rfl) ok (res_tmp2 Try.results25 rfl rfl) (pdR_mono size l) (pdR_no hfind)
end Go.Proofs.Ytajcfafamdacdaa
