/- Numbers, one behind the other; the document's numbers: walked. -/
import Derived.Test.YtphpmallnlajjaaF2
namespace Go.Proofs.Ytphpmallnlajjaa
open Go.RowKit Go.Vc
set_option linter.unusedVariables false

theorem flat_le (ns : List Int) : (ns.flatMap vb).length ≤ 8 * ns.length := by
  induction ns with
  | nil => simp
  | cons n ns ih =>
    rw [List.flatMap_cons, List.length_append, vb_len, List.length_cons]
    rcases vsize_cases n with h | h | h | h | h <;> omega
theorem flat_snoc (ns : List Int) (i : Nat) (h : i < ns.length) : (ns.take (i + 1)).flatMap vb = (ns.take i).flatMap vb ++ vb (ns.getD i 0) := by
  rw [List.take_succ_eq_append_getElem h, List.flatMap_append]
  simp [List.getD_eq_getElem?_getD, List.getElem?_eq_getElem h]
def joinOk (ns : List Int) : Bool := ns.all fun n => vsize n != 0
theorem joinOk_not {ns : List Int} {i : Nat} (h : i < ns.length) (hz : vsize (ns.getD i 0) = 0) : joinOk ns = false := by
  rw [List.getD_eq_getElem?_getD, List.getElem?_eq_getElem h] at hz
  simp only [Option.getD_some] at hz
  unfold joinOk
  rw [← Bool.not_eq_true, List.all_eq_true]
  intro h1
  have := h1 _ (List.getElem_mem h)
  rw [hz] at this
  cases this
theorem joinOk_yes {ns : List Int} (h : ∀ j, j < ns.length → vsize (ns.getD j 0) ≠ 0) : joinOk ns = true := by
  unfold joinOk
  rw [List.all_eq_true]
  intro n hn
  obtain ⟨j, hj, rfl⟩ := List.getElem_of_mem hn
  have := h j hj
  rw [List.getD_eq_getElem?_getD, List.getElem?_eq_getElem hj] at this
  simpa using this

set_option maxHeartbeats 1000000 in
theorem join_any (ns : List Int) (v : Value) (w : World) (hv : SlC (fun p x => w.cell? p = some x) 1 v ns.length (ints .i64 ns)) (hn : ns.length ≤ 100000) :
    Makes tb 22 [v] w fun u m' => ∃ base len cap e, u = .tuple #[.slice base len cap, .int .i64 (if joinOk ns = true then 0 else 10)] ∧ m' = [e] ∧
      SlIs ty5 5 e base len cap (row (if joinOk ns = true then ns.flatMap vb else [])) := by
  obtain ⟨base0, cap0, rfl, hcap, hlen, hc⟩ := hv
  refine makes_of (fn := Try.f22) Try.func22 rfl Try.ntmps22 rfl ?_
  repeat refine c_seq ?_
  refine c_region ?_
  refine step_pure rfl (pure_assign rfl) ?_
  refine step_hole ?_
  refine step_pure rfl (pure_assign rfl) ?_
  refine step_nil ?_
  repeat refine c_seq ?_
  refine c_region ?_
  refine step_pure rfl (pure_move rfl) ?_
  refine step_pure rfl (pure_len_slice rfl rfl rfl) ?_
  refine step_pure rfl (pure_move rfl) ?_
  refine step_nil ?_
  repeat refine c_seq ?_
  refine c_block ?_
  repeat refine c_seq ?_
  refine c_loop (α := SlS × Nat) (fun x => [(2, .slice x.1.base x.1.len x.1.cap), (6, .slice base0 ns.length cap0), (7, .int .i64 ns.length), (8, .int .i64 x.2)]) (fun x => [x.1.e])
    (fun x => x.2 ≤ ns.length ∧ (∀ j, j < x.2 → vsize (ns.getD j 0) ≠ 0) ∧ SlIs ty5 5 x.1.e x.1.base x.1.len x.1.cap (row ((ns.take x.2).flatMap vb))) (fun x => ns.length - x.2) (⟨none, 0, 0, hole⟩, 0)
    ⟨Nat.zero_le _, fun j h => absurd h (Nat.not_lt_zero j), sl_nil _ _ (by decide)⟩ (less_of ⟨rfl, rfl, rfl, rfl, trivial⟩ rfl) ?_
  rintro ⟨⟨base, len, cap, e⟩, i⟩ ⟨hi, hall, hs⟩
  dsimp only at hi hall hs ⊢
  repeat refine c_seq ?_
  refine c_region ?_
  refine step_pure rfl (pure_lss rfl rfl) ?_
  refine step_nil ?_
  repeat refine c_seq ?_
  refine c_cond rfl (fun h => ?_) (fun h => ?_)
  · have hlt : i < ns.length := by have := of_decide_eq_true h; omega
    clear h
    obtain ⟨p, rfl, hp⟩ := hc (by intro h; have := ints_len .i64 ns; rw [h] at this; simp at this; omega)
    have hcell := hp i _ (ints_get .i64 ns i hlt)
    have hfl := flat_le (ns.take i)
    rw [List.length_take] at hfl
    have hsn := flat_snoc ns i hlt
    have hnot := fun hz => joinOk_not hlt hz
    generalize hxd : ns.getD i 0 = x at hcell hsn hnot
    generalize (ns.take i).flatMap vb = pre at hs hsn hfl
    have hxx : ∀ j, j < i + 1 → vsize x ≠ 0 → ns.getD i 0 = x → vsize (ns.getD j 0) ≠ 0 := by
      intro j hj hx he
      by_cases hji : j = i
      · rw [hji, he]; exact hx
      · exact hall j (by omega)
    refine c_skip ?_
    repeat refine c_seq ?_
    refine c_block ?_
    repeat refine c_seq ?_
    refine c_region ?_
    refine step_as rfl (pure_indexAddr_at rfl rfl rfl rfl rfl (by omega) (by omega)) (show _ = Value.pointer (some (p.add i)) from by show Value.pointer (some (p.add ((i : Int).toNat * 1))) = _; rw [Int.toNat_natCast, Nat.mul_one]) ?_
    refine step_pure rfl (pure_view_at rfl rfl rfl hcell List.not_mem_nil) ?_
    refine step_pure rfl (pure_assign rfl) ?_
    refine step_nil ?_
    repeat refine c_seq ?_
    refine c_region ?_
    refine step_pure rfl (pure_move rfl) ?_
    refine step_pure rfl (pure_move rfl) ?_
    refine step_makes rfl fun34 rfl (fun w hh hkp => put_any pre x _ w (slis_now (j := 0) hs rfl w hh hkp).slv (by omega)) ?_
    rintro u m' ⟨base1, len1, cap1, e1, rfl, rfl, hs1⟩
    by_cases hz : vsize x = 0
    · rw [if_pos hz] at hs1 ⊢
      refine step_pure rfl (pure_move rfl) ?_
      refine step_pure rfl (pure_extract rfl rfl) ?_
      refine step_pure rfl (pure_extract rfl rfl) ?_
      refine step_pure rfl (pure_assign rfl) ?_
      refine step_pure rfl (pure_assign rfl) ?_
      refine step_nil ?_
      repeat refine c_seq ?_
      refine c_region ?_
      refine step_pure rfl (pure_move rfl) ?_
      refine step_as rfl (pure_neq rfl rfl) (show _ = Value.bool true from rfl) ?_
      refine step_nil ?_
      repeat refine c_seq ?_
      refine c_cond_yes rfl rfl ?_
      repeat refine c_seq ?_
      refine c_region ?_
      refine step_pure rfl (pure_move rfl) ?_
      refine step_hole ?_
      refine step_pure rfl (pure_assign rfl) ?_
      refine step_pure rfl (pure_assign rfl) ?_
      refine step_nil ?_
      have hno := hnot hz
      refine c_ret ⟨_, res_tmp2 Try.results22 rfl rfl, [hole], List.Sublist.cons_cons _ (List.nil_sublist _), none, 0, 0, hole, ?_, rfl, ?_⟩
      · rw [hno]; rfl
      · rw [hno]; exact sl_nil _ _ (by decide)
    · rw [if_neg hz] at hs1 ⊢
      refine step_pure rfl (pure_move rfl) ?_
      refine step_pure rfl (pure_extract rfl rfl) ?_
      refine step_pure rfl (pure_extract rfl rfl) ?_
      refine step_pure rfl (pure_assign rfl) ?_
      refine step_pure rfl (pure_assign rfl) ?_
      refine step_nil ?_
      repeat refine c_seq ?_
      refine c_region ?_
      refine step_pure rfl (pure_move rfl) ?_
      refine step_as rfl (pure_neq rfl rfl) (show _ = Value.bool false from rfl) ?_
      refine step_nil ?_
      repeat refine c_seq ?_
      refine c_cond_no rfl rfl ?_
      refine c_skip ?_
      repeat refine c_seq ?_
      refine c_region ?_
      first | refine step_pure rfl (pure_add64 rfl rfl (by omega) (by omega)) ?_ | refine step_pure rfl (pure_add rfl rfl) ?_
      refine step_pure rfl (pure_move rfl) ?_
      refine step_nil ?_
      exact ⟨(⟨base1, len1, cap1, e1⟩, i + 1), ⟨hlt, fun j hj => hxx j hj hz hxd, by rw [hsn]; exact hs1⟩, by dsimp only; omega, less_sub ⟨rfl, rfl, rfl, rfl, trivial⟩ (List.Sublist.cons_cons _ (List.nil_sublist _))⟩
  · have hie : i = ns.length := by have := of_decide_eq_false h; omega
    clear h
    refine c_exit ?_
    repeat refine c_seq ?_
    refine c_region ?_
    refine step_pure rfl (pure_move rfl) ?_
    refine step_pure rfl (pure_assign rfl) ?_
    refine step_pure rfl (pure_assign rfl) ?_
    refine step_nil ?_
    subst hie
    have hyes := joinOk_yes hall
    rw [List.take_length] at hs
    refine c_ret ⟨_, res_tmp2 Try.results22 rfl rfl, [e], List.Sublist.refl _, base, len, cap, e, ?_, rfl, ?_⟩
    · rw [hyes]; rfl
    · rw [hyes]; exact hs
end Go.Proofs.Ytphpmallnlajjaa
