/- What the laws of frames share; the law FrameJoins, walked. -/
import Derived.Test.YtphpmallnlajjaaF20
import Derived.Test.YtphpmallnlajjaaF22
import Derived.Test.YtphpmallnlajjaaFo
namespace Go.Proofs.Ytphpmallnlajjaa
open Go.RowKit Go.Vc
set_option linter.unusedVariables false

abbrev At (w : World) : Addr → Value → Prop := fun p x => w.cell? p = some x
theorem at_keep {w w' : World} (k : Keep w w' []) : ∀ p x, At w p x → At w' p x := fun p x h => cell_keep h k (by simp)
/-- A row of frames of one's own whose parts lie elsewhere. -/
theorem frs_own {fs : List Fr} {css : List (List Value)} {e : Ent} {m : Mem} {base : Option Addr} {len cap : Nat} (hs : SlIs ty33 33 e base len cap css.flatten) (he : e.cells ≠ [] → e ∈ m) (hl : len = fs.length) (h1 : css.length = fs.length)
    {w : World} (h2 : ∀ (i : Nat) (f : Fr) (cs : List Value), fs[i]? = some f → css[i]? = some cs → FrC (At w) f cs) (hh : Has w m) : FrsC (At w) (.slice base len cap) fs := by
  subst hl
  exact ⟨css, h1, h2, slis_mem hs he hh⟩
theorem frc_app {C : Addr → Value → Prop} {a b : List Fr} {ca cb : List (List Value)} (ha : ca.length = a.length) (h1 : ∀ (i : Nat) (f : Fr) (cs : List Value), a[i]? = some f → ca[i]? = some cs → FrC C f cs) (h2 : ∀ (i : Nat) (f : Fr) (cs : List Value), b[i]? = some f → cb[i]? = some cs → FrC C f cs) :
    ∀ (i : Nat) (f : Fr) (cs : List Value), (a ++ b)[i]? = some f → (ca ++ cb)[i]? = some cs → FrC C f cs := by
  intro i f cs hf hc
  by_cases hi : i < a.length
  · rw [List.getElem?_append_left hi] at hf
    rw [List.getElem?_append_left (by omega)] at hc
    exact h1 i f cs hf hc
  · rw [List.getElem?_append_right (by omega)] at hf
    rw [List.getElem?_append_right (by omega), ha] at hc
    exact h2 _ f cs hf hc
theorem css_one {C : Addr → Value → Prop} {fs : List Fr} {css : List (List Value)} (h1 : css.length = fs.length) (h2 : ∀ (i : Nat) (f : Fr) (cs : List Value), fs[i]? = some f → css[i]? = some cs → FrC C f cs) : ∀ v ∈ css.flatten, v.oneCell' = true := by
  intro v hv
  obtain ⟨cs, hcs, hv⟩ := List.mem_flatten.1 hv
  obtain ⟨i, hi, rfl⟩ := List.getElem_of_mem hcs
  obtain ⟨rv, dv, he, ⟨_, _, hr, _⟩, ⟨_, _, hd, _⟩⟩ := h2 i _ _ (List.getElem?_eq_getElem (by omega)) (List.getElem?_eq_getElem hi)
  rw [he] at hv
  subst hr hd
  simp at hv
  rcases hv with rfl | rfl | rfl | rfl | rfl <;> rfl
theorem css_len {C : Addr → Value → Prop} {fs : List Fr} {css : List (List Value)} (h1 : css.length = fs.length) (h2 : ∀ (i : Nat) (f : Fr) (cs : List Value), fs[i]? = some f → css[i]? = some cs → FrC C f cs) : css.flatten.length = fs.length * 5 := by
  rw [flatten_len 5 css (fun c hc => by
    obtain ⟨i, hi, rfl⟩ := List.getElem_of_mem hc
    exact (h2 i _ _ (List.getElem?_eq_getElem (by omega)) (List.getElem?_eq_getElem hi)).five), h1]
theorem wrOk_in {fs : List Fr} (h : wrOk fs = true) : fs.length ≤ 16 ∧ ∀ f ∈ fs, fok f = true := by
  unfold wrOk at h
  rw [Bool.and_eq_true, List.all_eq_true] at h
  exact ⟨by simpa using h.1, h.2⟩
theorem wr_len {fs : List Fr} (h : wrOk fs = true) : (fs.flatMap fbytes).length ≤ 80000 := by
  have h1 := wrOk_in h
  have := flatB_le fs h1.2
  omega
theorem wrOk_app (a b : List Fr) : wrOk (a ++ b) = (wrOk a && (wrOk b && decide (a.length + b.length ≤ 16))) := by
  unfold wrOk
  rw [List.length_append, List.all_append]
  by_cases h : a.length + b.length ≤ 16
  · rw [decide_eq_true h, decide_eq_true (show a.length ≤ 16 by omega), decide_eq_true (show b.length ≤ 16 by omega)]
    simp
  · rw [decide_eq_false h]
    simp
/-- What is written, as a bool. -/
def wBs (fs : List Fr) : List Int := if wrOk fs = true then fs.flatMap fbytes else []
theorem wBs_le (fs : List Fr) : (wBs fs).length ≤ 80000 := by
  unfold wBs
  split
  · rename_i h; exact wr_len h
  · simp

set_option maxHeartbeats 4000000 in
theorem framejoins_any (a b : List Fr) (v u : Value) (w : World) (hv : FrsC (At w) v a) (hu : FrsC (At w) u b) (ha : ∀ f ∈ a, f.data.length ≤ maxLen) (hb : ∀ f ∈ b, f.data.length ≤ maxLen) :
    Gives tb 7 [v, u] w (.bool true) := by
  obtain ⟨base1, cap1, rfl, hcap1⟩ := hv.slice
  obtain ⟨base2, cap2, rfl, hcap2⟩ := hu.slice
  have hm : maxLen ≤ 9223372036854775807 := by decide
  refine gives_of (fn := Try.f7) Try.func7 rfl Try.ntmps7 rfl ?_
  repeat refine c_seq ?_
  refine c_region ?_
  refine step_pure rfl (pure_assign rfl) ?_
  refine step_nil ?_
  repeat refine c_seq ?_
  refine c_region ?_
  refine step_gives rfl fun11 rfl (fun w _ _ => awake_any w) ?_
  refine step_pure rfl (pure_assign rfl) ?_
  refine step_nil ?_
  repeat refine c_seq ?_
  refine c_meet [(0, .slice base1 a.length cap1), (1, .slice base2 b.length cap2), (5, .bool true), (20, .bool (!fewB a || !fewB b))] [] ?_ ?_
  · have hfa := fun w' (kp : Keep w w' []) => few_any a _ w' (hv.mono (at_keep kp))
    have hfb := fun w' (kp : Keep w w' []) => few_any b _ w' (hu.mono (at_keep kp))
    generalize fewB a = fa at *
    generalize fewB b = fb at *
    repeat refine c_seq ?_
    refine c_region ?_
    refine step_pure rfl (pure_move rfl) ?_
    refine step_gives rfl fun12 rfl (fun w' hh kp => hfa w' kp) ?_
    refine step_pure rfl (pure_not rfl) ?_
    refine step_pure rfl (pure_move rfl) ?_
    refine step_split (t := 16) rfl (fun h16 => ?_) (fun h16 => ?_)
    · refine step_pass rfl rfl rfl ?_
      refine step_pass rfl rfl rfl ?_
      refine step_pass rfl rfl rfl ?_
      refine step_pure rfl (pure_pick_yes rfl rfl) ?_
      refine step_nil ?_
      refine less_of ⟨rfl, rfl, rfl, ?_, trivial⟩ rfl
      refine congrArg some (congrArg Value.bool ?_)
      clear hfa hfb
      simp_all
    · refine step_pure rfl (pure_move rfl) ?_
      refine step_gives rfl fun12 rfl (fun w' hh kp => hfb w' kp) ?_
      refine step_pure rfl (pure_not rfl) ?_
      refine step_pure rfl (pure_pick_no rfl rfl) ?_
      refine step_nil ?_
      refine less_of ⟨rfl, rfl, rfl, ?_, trivial⟩ rfl
      refine congrArg some (congrArg Value.bool ?_)
      clear hfa hfb
      simp_all
  repeat refine c_seq ?_
  refine c_cond rfl (fun h => ?_) (fun h => ?_)
  · repeat refine c_seq ?_
    refine c_region ?_
    refine step_pure rfl (pure_move rfl) ?_
    refine step_pure rfl (pure_assign rfl) ?_
    refine step_nil ?_
    exact c_ret ⟨_, res_tmp Try.results7 rfl, rfl⟩
  · have hfew : fewB a = true ∧ fewB b = true := by simpa using h
    have hfa := few_in hfew.1
    have hfb := few_in hfew.2
    clear h
    refine c_skip ?_
    repeat refine c_seq ?_
    refine c_region ?_
    refine step_pure rfl (pure_move rfl) ?_
    refine step_makes rfl fun13 rfl (fun w' hh kp => write_any a _ w' (hv.mono (at_keep kp)) (fun f hf => by have := ha f hf; omega)) ?_
    rintro x m' ⟨base3, len3, cap3, e3, rfl, rfl, hs3⟩
    refine step_pure rfl (pure_move rfl) ?_
    refine step_pure rfl (pure_extract rfl rfl) ?_
    refine step_pure rfl (pure_extract rfl rfl) ?_
    refine step_pure rfl (pure_assign rfl) ?_
    refine step_pure rfl (pure_assign rfl) ?_
    refine step_nil ?_
    repeat refine c_seq ?_
    refine c_region ?_
    refine step_pure rfl (pure_move rfl) ?_
    refine step_makes rfl fun13 rfl (fun w' hh kp => write_any b _ w' (hu.mono (at_keep kp)) (fun f hf => by have := hb f hf; omega)) ?_
    rintro x m' ⟨base4, len4, cap4, e4, rfl, rfl, hs4⟩
    refine step_pure rfl (pure_move rfl) ?_
    refine step_pure rfl (pure_extract rfl rfl) ?_
    refine step_pure rfl (pure_extract rfl rfl) ?_
    refine step_pure rfl (pure_assign rfl) ?_
    refine step_pure rfl (pure_assign rfl) ?_
    refine step_nil ?_
    refine c_less (less_of (rs' := [(0, .slice base1 a.length cap1), (1, .slice base2 b.length cap2), (5, .bool true), (6, .slice base3 len3 cap3), (7, .int .i64 (if wrOk a = true then 0 else 20)), (8, .slice base4 len4 cap4), (9, .int .i64 (if wrOk b = true then 0 else 20))]) (m' := [e4, e3]) ⟨rfl, rfl, rfl, rfl, rfl, rfl, rfl, trivial⟩ rfl) ?_
    obtain ⟨ca, ha1, ha2, ha3⟩ := id hv
    obtain ⟨cb, hb1, hb2, hb3⟩ := id hu
    repeat refine c_seq ?_
    refine c_region ?_
    refine step_buildSlice0 rfl rfl rfl rfl (fun b33 => ?_)
    refine step_pure rfl (pure_move rfl) ?_
    refine step_append 0 rfl rfl (sl_empty ty33 33 b33) rfl rfl rfl rfl rfl elem33 rfl (by decide) rfl rfl (css_len ha1 ha2) (src_slc (fun w' hh kp => ha3.mono (at_keep kp))) (css_one ha1 ha2) (by omega) (by show _ * 72 ≤ _; omega) (fun base5 cap5 e5 hs5 => ?_)
    refine step_pure rfl (pure_move rfl) ?_
    refine step_append 0 rfl rfl hs5 rfl rfl rfl rfl rfl elem33 rfl (by decide) rfl rfl (css_len hb1 hb2) (src_slc (fun w' hh kp => hb3.mono (at_keep kp))) (css_one hb1 hb2) (by omega) (by show _ * 72 ≤ _; omega) (fun base6 cap6 e6 hs6 => ?_)
    refine step_makes rfl fun13 rfl (fun w' hh kp => write_any (a ++ b) _ w' (frs_own (css := ca ++ cb) (by rw [List.flatten_append]; simpa using hs6) (fun _ => .head _) (by simp) (by simp [ha1, hb1]) (frc_app ha1 (fun i f cs hf hc => (ha2 i f cs hf hc).mono (at_keep kp)) (fun i f cs hf hc => (hb2 i f cs hf hc).mono (at_keep kp))) hh)
      (fun f hf => by
        rcases List.mem_append.1 hf with hf | hf
        · have := ha f hf; omega
        · have := hb f hf; omega)) ?_
    rintro x m' ⟨base7, len7, cap7, e7, rfl, rfl, hs7⟩
    refine step_pure rfl (pure_move rfl) ?_
    refine step_pure rfl (pure_extract rfl rfl) ?_
    refine step_pure rfl (pure_extract rfl rfl) ?_
    refine step_pure rfl (pure_assign rfl) ?_
    refine step_pure rfl (pure_assign rfl) ?_
    refine step_nil ?_
    refine c_less (less_sub (rs' := [(0, .slice base1 a.length cap1), (1, .slice base2 b.length cap2), (5, .bool true), (6, .slice base3 len3 cap3), (7, .int .i64 (if wrOk a = true then 0 else 20)), (8, .slice base4 len4 cap4), (9, .int .i64 (if wrOk b = true then 0 else 20)), (10, .slice base7 len7 cap7), (11, .int .i64 (if wrOk (a ++ b) = true then 0 else 20))]) (m' := [e7, e4, e3]) ⟨rfl, rfl, rfl, rfl, rfl, rfl, rfl, rfl, rfl, trivial⟩ (by repeat (first | exact List.Sublist.refl _ | exact List.nil_sublist _ | apply List.Sublist.cons_cons | apply List.Sublist.cons))) ?_
    have hab := wrOk_app a b
    have hs3 : SlIs ty5 5 e3 base3 len3 cap3 (row (wBs a)) := hs3
    have hs4 : SlIs ty5 5 e4 base4 len4 cap4 (row (wBs b)) := hs4
    have hs7 : SlIs ty5 5 e7 base7 len7 cap7 (row (wBs (a ++ b))) := hs7
    obtain rfl := sl_len8 hs3
    obtain rfl := sl_len8 hs4
    obtain rfl := sl_len8 hs7
    have l3 := wBs_le a
    have l4 := wBs_le b
    have hsum : wrOk (a ++ b) = true → wBs (a ++ b) = wBs a ++ wBs b := by
      intro h
      rw [hab, Bool.and_eq_true, Bool.and_eq_true] at h
      unfold wBs
      rw [if_pos (by rw [hab, Bool.and_eq_true, Bool.and_eq_true]; exact h), if_pos h.1, if_pos h.2.1, List.flatMap_append]
    have hnil : wrOk (a ++ b) = false → wBs (a ++ b) = [] := by
      intro h
      unfold wBs
      rw [if_neg (by rw [h]; decide)]
    generalize wBs a = A at *
    generalize wBs b = B at *
    generalize wBs (a ++ b) = AB at *
    repeat refine c_seq ?_
    refine c_meet [(5, .bool true), (6, .slice base3 A.length cap3), (8, .slice base4 B.length cap4), (10, .slice base7 AB.length cap7), (11, .int .i64 (if wrOk (a ++ b) = true then 0 else 20)), (54, .bool (!wrOk (a ++ b)))] [e7, e4, e3] ?_ ?_
    · rw [hab]
      clear hnil hsum hab
      have hl2 : decide ((a.length : Int) + b.length > 16) = !decide (a.length + b.length ≤ 16) := by
        by_cases h : a.length + b.length ≤ 16
        · rw [decide_eq_true h]; simp; omega
        · rw [decide_eq_false h]; simp; omega
      generalize decide (a.length + b.length ≤ 16) = c16 at *
      generalize wrOk a = wa at *
      generalize wrOk b = wb at *
      repeat refine c_seq ?_
      refine c_region ?_
      refine step_pure rfl (pure_move rfl) ?_
      refine step_pure rfl (pure_neq rfl rfl) ?_
      refine step_pure rfl (pure_move rfl) ?_
      refine step_split (t := 43) rfl (fun h43 => ?_) (fun h43 => ?_)
      · refine step_pass rfl rfl rfl ?_
        refine step_pass rfl rfl rfl ?_
        refine step_pure rfl (pure_pick_yes rfl rfl) ?_
        refine step_pure rfl (pure_move rfl) ?_
        refine step_pass rfl rfl rfl ?_
        refine step_pass rfl rfl rfl ?_
        refine step_pass rfl rfl rfl ?_
        refine step_pass rfl rfl rfl ?_
        refine step_pass rfl rfl rfl ?_
        refine step_pass rfl rfl rfl ?_
        refine step_pure rfl (pure_pick_yes rfl rfl) ?_
        refine step_nil ?_
        refine less_of ⟨rfl, rfl, rfl, rfl, rfl, ?_, trivial⟩ rfl
        refine congrArg some (congrArg Value.bool ?_)
        clear ha3 hb3 ha2 hb2 hs3 hs4 hs7 hs6 hs5 hv hu ha hb
        cases wa <;> cases wb <;> cases c16 <;> simp_all
      · refine step_pure rfl (pure_move rfl) ?_
        refine step_pure rfl (pure_neq rfl rfl) ?_
        refine step_pure rfl (pure_pick_no rfl rfl) ?_
        refine step_pure rfl (pure_move rfl) ?_
        refine step_split (t := 47) rfl (fun h47 => ?_) (fun h47 => ?_)
        · refine step_pass rfl rfl rfl ?_
          refine step_pass rfl rfl rfl ?_
          refine step_pass rfl rfl rfl ?_
          refine step_pass rfl rfl rfl ?_
          refine step_pass rfl rfl rfl ?_
          refine step_pass rfl rfl rfl ?_
          refine step_pure rfl (pure_pick_yes rfl rfl) ?_
          refine step_nil ?_
          refine less_of ⟨rfl, rfl, rfl, rfl, rfl, ?_, trivial⟩ rfl
          refine congrArg some (congrArg Value.bool ?_)
          clear ha3 hb3 ha2 hb2 hs3 hs4 hs7 hs6 hs5 hv hu ha hb
          cases wa <;> cases wb <;> cases c16 <;> simp_all
        · refine step_pure rfl (pure_move rfl) ?_
          refine step_pure rfl (pure_len_slice rfl rfl rfl) ?_
          refine step_pure rfl (pure_move rfl) ?_
          refine step_pure rfl (pure_len_slice rfl rfl rfl) ?_
          first | refine step_pure rfl (pure_add64 rfl rfl (by omega) (by omega)) ?_ | refine step_pure rfl (pure_add rfl rfl) ?_
          refine step_pure rfl (pure_gtr rfl rfl) ?_
          refine step_pure rfl (pure_pick_no rfl rfl) ?_
          refine step_nil ?_
          refine less_of ⟨rfl, rfl, rfl, rfl, rfl, ?_, trivial⟩ rfl
          refine congrArg some (congrArg Value.bool ?_)
          clear ha3 hb3 ha2 hb2 hs3 hs4 hs7 hs6 hs5 hv hu ha hb
          cases wa <;> cases wb <;> cases c16 <;> simp_all
    cases hw : wrOk (a ++ b) with
    | false =>
      rw [hnil hw]
      repeat refine c_seq ?_
      refine c_cond_yes rfl rfl ?_
      repeat refine c_seq ?_
      refine c_region ?_
      refine step_pure rfl (pure_move rfl) ?_
      refine step_pure rfl (pure_move rfl) ?_
      first | refine step_pure rfl (pure_move rfl) ?_ | refine step_pass rfl rfl rfl ?_
      first | refine step_pure rfl (pure_eql rfl rfl) ?_ | refine step_pass rfl rfl rfl ?_
      first | refine step_pure rfl (pure_pick_yes rfl rfl) ?_ | refine step_pure rfl (pure_pick_no rfl rfl) ?_ | refine step_pure rfl (pure_pick_bool rfl rfl rfl) ?_
      refine step_pure rfl (pure_move rfl) ?_
      first | refine step_pure rfl (pure_move rfl) ?_ | refine step_pass rfl rfl rfl ?_
      first | refine step_pure rfl (pure_len_slice rfl rfl rfl) ?_ | refine step_pass rfl rfl rfl ?_
      first | refine step_pure rfl (pure_eql rfl rfl) ?_ | refine step_pass rfl rfl rfl ?_
      first | refine step_pure rfl (pure_pick_yes rfl rfl) ?_ | refine step_pure rfl (pure_pick_no rfl rfl) ?_ | refine step_pure rfl (pure_pick_bool rfl rfl rfl) ?_
      refine step_pure rfl (pure_assign rfl) ?_
      refine step_nil ?_
      exact c_ret ⟨_, res_tmp Try.results7 rfl, rfl⟩
    | true =>
      have hsum := hsum hw
      repeat refine c_seq ?_
      refine c_cond_no rfl rfl ?_
      refine c_skip ?_
      repeat refine c_seq ?_
      refine d_region2 [1, 9, 17, 25, 33, 41, 49, 59, 65, 73, 85, 93, 97, 105, 113] ([e7, e4]) follows (by kernel_rfl) ?_
      refine d_pure0 rfl rfl rfl (pure_move rfl) ?_
      refine d_pure0 rfl rfl rfl (pure_move rfl) ?_
      first | refine d_pure0 rfl rfl rfl (pure_move rfl) ?_ | refine d_pass rfl rfl rfl (fun h => by cases h) rfl rfl rfl ?_
      first | refine d_pure0 rfl rfl rfl (pure_eql rfl rfl) ?_ | refine d_pass rfl rfl rfl (fun h => by cases h) rfl rfl rfl ?_
      first | refine d_pure0 rfl rfl rfl (pure_pick_yes rfl rfl) ?_ | refine d_pure0 rfl rfl rfl (pure_pick_no rfl rfl) ?_ | refine d_pure0 rfl rfl rfl (pure_pick_bool rfl rfl rfl) ?_
      refine d_pure0 rfl rfl rfl (pure_move rfl) ?_
      first | refine d_pure0 rfl rfl rfl (pure_move rfl) ?_ | refine d_pass rfl rfl rfl (fun h => by cases h) rfl rfl rfl ?_
      first | refine d_pure1 rfl rfl rfl (pure_bytes_string (j := 0) rfl rfl rfl rfl rfl rfl rfl rfl hs7 rfl) (by first | exact SubMem.refl _ | exact (SubMem.refl _).cons | exact (SubMem.refl _).cons.cons | exact (SubMem.refl _).cons.cons.cons | exact (SubMem.refl _).cons.cons.cons.cons | exact (fun w hh => Has.sublist (by repeat (first | exact List.Sublist.refl _ | exact List.nil_sublist _ | apply List.Sublist.cons_cons | apply List.Sublist.cons)) hh)) ?_ | refine d_pass rfl rfl rfl (fun _ => (by first | exact SubMem.refl _ | exact (SubMem.refl _).cons | exact (SubMem.refl _).cons.cons | exact (SubMem.refl _).cons.cons.cons | exact (SubMem.refl _).cons.cons.cons.cons | exact (fun w hh => Has.sublist (by repeat (first | exact List.Sublist.refl _ | exact List.nil_sublist _ | apply List.Sublist.cons_cons | apply List.Sublist.cons)) hh))) rfl rfl rfl ?_
      first | refine d_pure0 rfl rfl rfl (pure_move rfl) ?_ | refine d_pass rfl rfl rfl (fun h => by cases h) rfl rfl rfl ?_
      first | refine d_pure0 rfl rfl rfl (pure_move rfl) ?_ | refine d_pass rfl rfl rfl (fun h => by cases h) rfl rfl rfl ?_
      refine d_append2 2 rfl rfl rfl rfl hs3 rfl rfl rfl rfl rfl elem5 rfl (by decide) rfl rfl hs4.len (src_own (j := 1) hs4 rfl) (row_one _) (by omega) (by omega) rfl (fun _ => (by first | exact SubMem.refl _ | exact (SubMem.refl _).cons | exact (SubMem.refl _).cons.cons | exact (SubMem.refl _).cons.cons.cons | exact (SubMem.refl _).cons.cons.cons.cons | exact (fun w hh => Has.sublist (by repeat (first | exact List.Sublist.refl _ | exact List.nil_sublist _ | apply List.Sublist.cons_cons | apply List.Sublist.cons)) hh))) (fun base8 cap8 e8 hs8 => ?_)
      rw [row_app, ← hsum] at hs8
      first | refine d_only_pure rfl rfl rfl (pure_bytes_string (j := 2) rfl rfl rfl rfl rfl rfl rfl rfl hs8 rfl) (fun _ => (by first | exact SubMem.refl _ | exact (SubMem.refl _).cons | exact (SubMem.refl _).cons.cons | exact (SubMem.refl _).cons.cons.cons | exact (SubMem.refl _).cons.cons.cons.cons | exact (fun w hh => Has.sublist (by repeat (first | exact List.Sublist.refl _ | exact List.nil_sublist _ | apply List.Sublist.cons_cons | apply List.Sublist.cons)) hh))) rfl ?_ | refine d_pass rfl rfl rfl (fun h => by cases h) rfl rfl rfl ?_
      first | refine d_as0 rfl rfl rfl (pure_str_eql rfl rfl) (show _ = Value.bool true from by rw [beq_self_eq_true]) ?_ | refine d_pass rfl rfl rfl (fun h => by cases h) rfl rfl rfl ?_
      first | refine d_pure0 rfl rfl rfl (pure_pick_yes rfl rfl) ?_ | refine d_pure0 rfl rfl rfl (pure_pick_no rfl rfl) ?_ | refine d_pure0 rfl rfl rfl (pure_pick_bool rfl rfl rfl) ?_
      refine d_pure0 rfl rfl rfl (pure_assign rfl) ?_
      refine d_nil ?_
      exact c_ret ⟨_, res_tmp Try.results7 rfl, rfl⟩
end Go.Proofs.Ytphpmallnlajjaa
