/- The program's numbers, walked: Size, Put, Get, Join. -/
import Derived.Test.YtphpmallnlajjaaF0
import Derived.Test.YtphpmallnlajjaaTz
import Derived.Test.YtphpmallnlajjaaVz
namespace Go.Proofs.Ytphpmallnlajjaa
open Go.RowKit Go.Vc
set_option linter.unusedVariables false

/-! Size -/
def sz2 : Nat → Int
  | 0 => 1
  | j + 1 => sz2 j * 2
def lo2 : Nat → Int
  | 0 => 0
  | 1 => 64
  | 2 => 16384
  | 3 => 1073741824
  | _ => 4611686018427387904
theorem size_step (n : Int) (j : Nat) (hj : j < 4) (h : lo2 j ≤ n) : 1 ≤ sz2 j ∧ sz2 j ≤ 8 ∧
    ((n / 2 ^ min (8 * sz2 j - 2).toNat IntKind.i64.bits == 0) = true → (vsize n : Int) = sz2 j) ∧ ((n / 2 ^ min (8 * sz2 j - 2).toNat IntKind.i64.bits == 0) = false → lo2 (j + 1) ≤ n) := by
  have e : ∀ (k : Nat), min k IntKind.i64.bits = min k 64 := fun k => rfl
  obtain rfl | rfl | rfl | rfl : j = 0 ∨ j = 1 ∨ j = 2 ∨ j = 3 := by omega
  all_goals
    rw [e]
    simp only [sz2, lo2] at h ⊢
    refine ⟨by decide, by decide, fun h1 => ?_, fun h1 => ?_⟩
    · have h2 := eq_of_beq h1
      rcases vsize_cases n with h3 | h3 | h3 | h3 | h3 <;> simp at h2 h3 ⊢ <;> omega
    · have h2 := ne_of_beq_false h1
      simp at h2
      omega
theorem size_any (n : Int) (w : World) : Gives tb 40 [.int .i64 n] w (.int .i64 (vsize n)) := by
  refine gives_of (fn := Try.f40) Try.func40 rfl Try.ntmps40 rfl ?_
  repeat refine c_seq ?_
  refine c_region ?_
  refine step_pure rfl (pure_assign rfl) ?_
  refine step_nil ?_
  repeat refine c_seq ?_
  refine c_region ?_
  refine step_pure rfl (pure_move rfl) ?_
  refine step_pure rfl (pure_lss rfl rfl) ?_
  refine step_nil ?_
  repeat refine c_seq ?_
  refine c_cond rfl (fun h => ?_) (fun h => ?_)
  · have hn : vsize n = 0 := by have := of_decide_eq_true h; unfold vsize; rw [if_pos this]
    rw [hn]
    repeat refine c_seq ?_
    refine c_region ?_
    refine step_pure rfl (pure_assign rfl) ?_
    refine step_nil ?_
    exact c_ret ⟨_, res_tmp Try.results40 rfl, rfl⟩
  · have hn : 0 ≤ n := by have := of_decide_eq_false h; omega
    clear h
    refine c_skip ?_
    repeat refine c_seq ?_
    refine c_region ?_
    refine step_pure rfl (pure_assign rfl) ?_
    refine step_nil ?_
    repeat refine c_seq ?_
    refine c_block ?_
    repeat refine c_seq ?_
    refine c_loop (α := Nat) (fun j => [(0, .int .i64 n), (3, .int .i64 (sz2 j))]) (fun _ => []) (fun j => j ≤ 4 ∧ lo2 j ≤ n) (fun j => 4 - j) 0 ⟨by decide, hn⟩ (less_regs ⟨rfl, rfl, trivial⟩) ?_
    rintro j ⟨hj, hlo⟩
    repeat refine c_seq ?_
    refine c_region ?_
    refine step_pure rfl (pure_move rfl) ?_
    refine step_pure rfl (pure_leq rfl rfl) ?_
    refine step_nil ?_
    repeat refine c_seq ?_
    refine c_cond rfl (fun h => ?_) (fun h => ?_)
    · have hj4 : j < 4 := by
        rcases Nat.lt_or_ge j 4 with h' | h'
        · exact h'
        · obtain rfl : j = 4 := by omega
          exact absurd (of_decide_eq_true h) (by decide)
      clear h
      obtain ⟨h1, h2, h3, h4⟩ := size_step n j hj4 hlo
      refine c_skip ?_
      repeat refine c_seq ?_
      refine c_block ?_
      repeat refine c_seq ?_
      refine c_region ?_
      refine step_pure rfl (pure_move rfl) ?_
      refine step_pure rfl (pure_move rfl) ?_
      first | refine step_pure rfl (pure_mul64 rfl rfl (by omega) (by omega)) ?_ | refine step_pure rfl (pure_mul rfl rfl) ?_
      first | refine step_pure rfl (pure_sub64 rfl rfl (by omega) (by omega)) ?_ | refine step_pure rfl (pure_sub rfl rfl) ?_
      refine step_pure rfl (pure_shr rfl rfl (by omega)) ?_
      refine step_pure rfl (pure_eql rfl rfl) ?_
      refine step_nil ?_
      repeat refine c_seq ?_
      refine c_cond rfl (fun h => ?_) (fun h => ?_)
      · rw [h3 h]
        repeat refine c_seq ?_
        refine c_region ?_
        refine step_pure rfl (pure_move rfl) ?_
        refine step_pure rfl (pure_assign rfl) ?_
        refine step_nil ?_
        exact c_ret ⟨_, res_tmp Try.results40 rfl, rfl⟩
      · have hlo' := h4 h
        clear h h3 h4
        refine c_skip ?_
        repeat refine c_seq ?_
        refine c_region ?_
        refine step_pure rfl (pure_move rfl) ?_
        first | refine step_pure rfl (pure_mul64 rfl rfl (by omega) (by omega)) ?_ | refine step_pure rfl (pure_mul rfl rfl) ?_
        refine step_pure rfl (pure_assign rfl) ?_
        refine step_nil ?_
        exact ⟨j + 1, ⟨by omega, hlo'⟩, by omega, less_regs ⟨rfl, rfl, trivial⟩⟩
    · have hj4 : j = 4 := by
        rcases Nat.lt_or_ge j 4 with h' | h'
        · have h1 := (size_step n j h' hlo).2.1
          exact absurd (of_decide_eq_false h) (by omega)
        · omega
      have hn0 : vsize n = 0 := by
        rw [hj4] at hlo
        simp only [lo2] at hlo
        rcases vsize_cases n with h3 | h3 | h3 | h3 | h3 <;> omega
      rw [hn0]
      refine c_exit ?_
      repeat refine c_seq ?_
      refine c_region ?_
      refine step_pure rfl (pure_assign rfl) ?_
      refine step_nil ?_
      exact c_ret ⟨_, res_tmp Try.results40 rfl, rfl⟩

/-! copies -/
theorem clone_any (ns : List Int) (v : Value) (w : World) (hv : SlV w v (row ns)) (hn : ns.length ≤ 70368744177664) :
    Makes tb 41 [v] w fun u m' => ∃ base cap e, u = .slice base ns.length cap ∧ m' = [e] ∧ SlIs ty5 5 e base ns.length cap (row ns) := by
  obtain ⟨base0, cap0, rfl, hc⟩ := hv.is
  rw [row_len] at hv ⊢
  refine makes_of (fn := Try.f41) Try.func41 rfl Try.ntmps41 rfl ?_
  repeat refine c_seq ?_
  refine c_region ?_
  refine step_pure rfl (pure_assign rfl) ?_
  refine step_hole ?_
  refine step_nil ?_
  repeat refine c_seq ?_
  refine c_region ?_
  refine step_pure rfl (pure_move rfl) ?_
  refine step_pure rfl (pure_nil_eql rfl rfl rfl rfl) ?_
  refine step_nil ?_
  repeat refine c_seq ?_
  refine c_cond rfl (fun h => ?_) (fun h => ?_)
  · have h0 : ns = [] := by
      cases base0 with
      | some p => cases h
      | none =>
        cases ns with
        | nil => rfl
        | cons x l => obtain ⟨p, hp, _⟩ := hc (by simp [ints]); cases hp
    subst h0
    repeat refine c_seq ?_
    refine c_region ?_
    refine step_pure rfl (pure_assign rfl) ?_
    refine step_nil ?_
    exact c_ret ⟨_, res_tmp Try.results41 rfl, _, List.Sublist.refl _, none, 0, hole, rfl, rfl, sl_nil _ _ (by decide)⟩
  · refine c_skip ?_
    repeat refine c_seq ?_
    refine c_region ?_
    refine step_buildSlice0 rfl rfl rfl rfl (fun b5 => ?_)
    refine step_pure rfl (pure_move rfl) ?_
    refine step_append 0 rfl rfl (sl_empty _ _ b5) rfl rfl rfl rfl rfl elem5 rfl (by decide) rfl rfl (by rw [row_len]; exact (Nat.mul_one _).symm) (src_slc (k := ns.length) (fun w hh hk => by have := (slv_keep0 hv hk).slc; rw [row_len] at this; exact this)) (row_one _) (by omega) (by omega) (fun base' cap' e' hs' => ?_)
    rw [Nat.zero_add, List.nil_append] at hs'
    rw [Nat.zero_add]
    refine step_pure rfl (pure_assign rfl) ?_
    refine step_nil ?_
    exact c_ret ⟨_, res_tmp Try.results41 rfl, [e'], (by show [e'].Sublist (_ :: _); exact List.Sublist.cons_cons _ (List.nil_sublist _)), base', cap', e', rfl, rfl, hs'⟩

/-! Put -/
def fl (n : Int) (s i : Nat) : List Int := (be n s).take i ++ zeros (s - i)
theorem fl_len (n : Int) (s i : Nat) (h : i ≤ s) : (fl n s i).length = s := by
  unfold fl
  rw [List.length_append, List.length_take, be_len, zeros_len]; omega
theorem fl_set (n : Int) (s i : Nat) (h : i < s) : (fl n s i).set i (n / 256 ^ (s - 1 - i) % 256) = fl n s (i + 1) := by
  apply List.ext_getElem?
  intro j
  have h1 := fl_len n s i (by omega)
  rw [List.getElem?_set]
  unfold fl
  have hbl := be_len n s
  by_cases hj : i = j
  · subst hj
    rw [if_pos rfl, if_pos (by rw [List.length_append, List.length_take, be_len, zeros_len]; omega), List.getElem?_append_left (by rw [List.length_take, be_len]; omega), List.getElem?_take, if_pos (by omega), be_get n s i h]
  · rw [if_neg hj]
    by_cases hji : j < i
    · rw [List.getElem?_append_left (by rw [List.length_take, be_len]; omega), List.getElem?_append_left (by rw [List.length_take, be_len]; omega), List.getElem?_take, List.getElem?_take, if_pos (by omega), if_pos (by omega)]
    · rw [List.getElem?_append_right (by rw [List.length_take, be_len]; omega), List.getElem?_append_right (by rw [List.length_take, be_len]; omega), List.length_take, List.length_take, be_len]
      unfold zeros
      rw [List.getElem?_replicate, List.getElem?_replicate]
      by_cases hjs : j < s
      · rw [if_pos (by omega), if_pos (by omega)]
      · rw [if_neg (by omega), if_neg (by omega)]
theorem be_byte (n : Int) (s i : Nat) (h : i < s) (hs : s ≤ 8) : IntKind.u8.wrap (n / 2 ^ min (8 * ((s : Int) - 1 - i)).toNat IntKind.i64.bits) = n / 256 ^ (s - 1 - i) % 256 := by
  rw [wrap_u8, show min (8 * ((s : Int) - 1 - i)).toNat IntKind.i64.bits = 8 * (s - 1 - i) from by show min _ 64 = _; omega, Int.pow_mul]
  rfl
theorem row_set_mid (a b : List Int) (R : List Value) (i : Nat) (x : Int) (h : i < b.length) : (row (a ++ b) ++ R).set (a.length + i) (.int .u8 x) = row (a ++ b.set i x) ++ R := by
  rw [List.set_append_left _ _ (by rw [row_len, List.length_append]; omega), row_set, List.set_append_right _ _ (by omega), Nat.add_sub_cancel_left]
theorem row_get_mid (a b : List Int) (R : List Value) (i : Nat) (h : i < b.length) : (row (a ++ b) ++ R)[a.length + i]? = some (.int .u8 (b.getD i 0)) := by
  rw [List.getElem?_append_left (by rw [row_len, List.length_append]; omega), row_get _ _ (by rw [List.length_append]; omega), List.getD_eq_getElem?_getD, List.getElem?_append_right (by omega), Nat.add_sub_cancel_left, List.getD_eq_getElem?_getD]

set_option maxHeartbeats 1000000 in
theorem put_any (bs : List Int) (n : Int) (v : Value) (w : World) (hv : SlV w v (row bs)) (hb : bs.length ≤ 35184372088832) :
    Makes tb 34 [v, .int .i64 n] w fun u m' => ∃ base len cap e, u = .tuple #[.slice base len cap, .int .i64 (if vsize n = 0 then 10 else 0)] ∧ m' = [e] ∧
      SlIs ty5 5 e base len cap (row (if vsize n = 0 then [] else bs ++ vb n)) := by
  obtain ⟨base0, cap0, rfl, hc⟩ := hv.is
  rw [row_len] at hv ⊢
  refine makes_of (fn := Try.f34) Try.func34 rfl Try.ntmps34 rfl ?_
  repeat refine c_seq ?_
  refine c_region ?_
  refine step_pure rfl (pure_assign rfl) ?_
  refine step_hole ?_
  refine step_pure rfl (pure_assign rfl) ?_
  refine step_nil ?_
  repeat refine c_seq ?_
  refine c_region ?_
  refine step_pure rfl (pure_move rfl) ?_
  refine step_gives rfl fun40 rfl (fun w _ _ => size_any n w) ?_
  refine step_pure rfl (pure_assign rfl) ?_
  refine step_nil ?_
  repeat refine c_seq ?_
  refine c_region ?_
  refine step_pure rfl (pure_move rfl) ?_
  refine step_pure rfl (pure_eql rfl rfl) ?_
  refine step_nil ?_
  repeat refine c_seq ?_
  refine c_cond rfl (fun h => ?_) (fun h => ?_)
  · have h0 : vsize n = 0 := by have := eq_of_beq h; omega
    repeat refine c_seq ?_
    refine c_region ?_
    refine step_pure rfl (pure_assign rfl) ?_
    refine step_pure rfl (pure_assign rfl) ?_
    refine step_nil ?_
    refine c_ret ⟨_, res_tmp2 Try.results34 rfl rfl, _, List.Sublist.refl _, none, 0, 0, hole, ?_, rfl, ?_⟩
    · rw [if_pos h0]
    · rw [if_pos h0]; exact sl_nil _ _ (by decide)
  · have h0 : vsize n ≠ 0 := by have := ne_of_beq_false h; omega
    clear h
    rw [if_neg h0, if_neg h0]
    have hs8 : vsize n = 1 ∨ vsize n = 2 ∨ vsize n = 4 ∨ vsize n = 8 := by rcases vsize_cases n with h | h | h | h | h <;> omega
    have hvb : vb n = tagged (vsize n) (be n (vsize n)) := rfl
    have hbl := be_len n (vsize n)
    have hhd : ∃ s', vsize n = s' + 1 := ⟨vsize n - 1, by omega⟩
    obtain ⟨s', hs'⟩ := hhd
    have hvp := vb_parts n s' hs'
    have hvh := vb_head n s' hs'
    rw [hs'] at hs8 hbl ⊢
    clear hvb h0
    refine c_skip ?_
    repeat refine c_seq ?_
    refine c_region ?_
    refine step_pure rfl (pure_move rfl) ?_
    refine step_makes rfl fun41 rfl (fun w hh hkp => clone_any bs _ w (slv_keep0 hv hkp) (by omega)) ?_
    rintro u m' ⟨base1, cap1, e1, rfl, rfl, hs1⟩
    refine step_pure rfl (pure_move rfl) ?_
    refine step_append_z (k := s' + 1) 0 rfl rfl hs1 rfl rfl rfl rfl rfl elem5 rfl (by decide) rfl (by omega) (by intro v hv; simp at hv; subst hv; rfl) (by omega) (by omega) (fun base2 cap2 e2 hs2 => ?_)
    rw [zrow_u8, row_app] at hs2
    obtain ⟨hl2, hc2, b2, R, rfl, rfl, hR⟩ := slis_form rfl hs2 (by omega)
    rw [List.length_append, zeros_len] at hl2
    refine step_pure rfl (pure_assign rfl) ?_
    refine step_nil ?_
    repeat refine c_seq ?_
    refine c_region ?_
    refine step_pure rfl (pure_move rfl) ?_
    refine step_pure rfl (pure_move rfl) ?_
    refine step_pure rfl (pure_len_slice rfl rfl rfl) ?_
    refine step_as rfl (pure_sub_lo rfl rfl rfl rfl rfl (by omega) (by omega)) (show _ = Value.slice (some ⟨b2, bs.length, none⟩) (s' + 1) (cap2 - bs.length) from ?_) ?_
    · show subS (some ⟨b2, 0, none⟩) cap2 1 (bs.length : Int).toNat (bs.length + (s' + 1)) = _
      unfold subS
      rw [Int.toNat_natCast, if_neg (by omega), show bs.length + (s' + 1) - bs.length = s' + 1 by omega]
      simp [add_none]
    refine step_pure rfl (pure_assign rfl) ?_
    refine step_nil ?_
    repeat refine c_seq ?_
    refine c_region ?_
    refine step_pure rfl (pure_move rfl) ?_
    refine step_pure rfl (pure_len_slice rfl rfl rfl) ?_
    refine step_pure rfl (pure_move rfl) ?_
    refine step_nil ?_
    repeat refine c_seq ?_
    refine c_block ?_
    repeat refine c_seq ?_
    refine c_loop (α := Nat) (fun i => [(1, .int .i64 n), (6, .int .i64 ((s' + 1 : Nat) : Int)), (7, .slice (some ⟨b2, 0, none⟩) (bs.length + (s' + 1)) cap2), (8, .slice (some ⟨b2, bs.length, none⟩) (s' + 1) (cap2 - bs.length)), (24, .int .i64 ((s' + 1 : Nat) : Int)), (25, .int .i64 i)])
      (fun i => [⟨b2, row (bs ++ fl n (s' + 1) i) ++ R, 5⟩]) (fun i => i ≤ s' + 1) (fun i => s' + 1 - i) 0 (by omega)
      (less_sub ⟨rfl, rfl, rfl, rfl, rfl, rfl, trivial⟩ (by show List.Sublist [_] (_ :: _); exact List.Sublist.cons_cons _ (List.nil_sublist _))) ?_
    intro i hi
    repeat refine c_seq ?_
    refine c_region ?_
    refine step_pure rfl (pure_lss rfl rfl) ?_
    refine step_nil ?_
    repeat refine c_seq ?_
    refine c_cond rfl (fun h => ?_) (fun h => ?_)
    · have hlt : i < s' + 1 := by have := of_decide_eq_true h; omega
      clear h
      have hfl := fl_len n (s' + 1) i (by omega)
      have hbt := be_byte n (s' + 1) i hlt (by omega)
      refine c_skip ?_
      repeat refine c_seq ?_
      refine c_block ?_
      repeat refine c_seq ?_
      refine c_region ?_
      refine step_pure rfl (pure_move rfl) ?_
      refine step_pure rfl (pure_assign rfl) ?_
      refine step_nil ?_
      repeat refine c_seq ?_
      refine c_region ?_
      refine step_pure rfl (pure_move rfl) ?_
      refine step_pure rfl (pure_move rfl) ?_
      refine step_pure rfl (pure_move rfl) ?_
      refine step_pure rfl (pure_move rfl) ?_
      first | refine step_pure rfl (pure_sub64 rfl rfl (by omega) (by omega)) ?_ | refine step_pure rfl (pure_sub rfl rfl) ?_
      refine step_pure rfl (pure_move rfl) ?_
      first | refine step_pure rfl (pure_sub64 rfl rfl (by omega) (by omega)) ?_ | refine step_pure rfl (pure_sub rfl rfl) ?_
      first | refine step_pure rfl (pure_mul64 rfl rfl (by omega) (by omega)) ?_ | refine step_pure rfl (pure_mul rfl rfl) ?_
      refine step_pure rfl (pure_shr rfl rfl (by omega)) ?_
      refine step_as rfl (pure_conv rfl rfl rfl rfl) (show _ = Value.int .u8 (n / 256 ^ (s' + 1 - 1 - i) % 256) from by rw [hbt]) ?_
      refine step_pure rfl (pure_ixs (off' := bs.length + i) rfl rfl rfl rfl rfl (by omega) (by omega) (by show bs.length + (i : Int).toNat * 1 = _; omega)) ?_
      refine step_store 0 rfl rfl rfl rfl rfl rfl rfl rfl (by rw [List.length_append, row_len, List.length_append]; omega) (by rw [row_set_mid _ _ _ _ _ (by omega), fl_set n (s' + 1) i hlt]) ?_
      refine step_nil ?_
      repeat refine c_seq ?_
      refine c_region ?_
      first | refine step_pure rfl (pure_add64 rfl rfl (by omega) (by omega)) ?_ | refine step_pure rfl (pure_add rfl rfl) ?_
      refine step_pure rfl (pure_move rfl) ?_
      refine step_nil ?_
      exact ⟨i + 1, hlt, by omega, less_of ⟨rfl, rfl, rfl, rfl, rfl, rfl, trivial⟩ rfl⟩
    · have his : i = s' + 1 := by have := of_decide_eq_false h; omega
      clear h
      have hfe : fl n (s' + 1) i = be n (s' + 1) := by
        rw [his]
        unfold fl
        rw [List.take_of_length_le (by omega), Nat.sub_self]
        exact List.append_nil _
      rw [hfe]
      refine c_exit ?_
      repeat refine c_seq ?_
      refine c_region ?_
      refine step_pure rfl (pure_move rfl) ?_
      refine step_pure rfl (pure_assign rfl) ?_
      refine step_nil ?_
      repeat refine c_seq ?_
      refine c_block ?_
      have hbe : be n (s' + 1) = n / 256 ^ s' % 256 :: be n s' := rfl
      rw [hbe]
      generalize n / 256 ^ s' % 256 = d at hvh hvp
      have hbl' := be_len n s'
      generalize be n s' = tl at hvp hbl'
      repeat refine c_seq ?_
      refine c_loop (α := Nat × Nat) (fun x => [(7, .slice (some ⟨b2, 0, none⟩) (bs.length + (s' + 1)) cap2), (8, .slice (some ⟨b2, bs.length, none⟩) (s' + 1) (cap2 - bs.length)), (10, .int .i64 x.1)])
        (fun x => [⟨b2, row (bs ++ (d + 64 * x.2) :: tl) ++ R, 5⟩]) (fun x => (x.1 = s' + 1 ∧ x.2 = 0) ∨ (2 * x.1 = s' + 1 ∧ x.2 = 1) ∨ (4 * x.1 = s' + 1 ∧ x.2 = 2) ∨ (8 * x.1 = s' + 1 ∧ x.2 = 3)) (fun x => x.1) (s' + 1, 0) (.inl ⟨rfl, rfl⟩)
        (less_of ⟨rfl, rfl, rfl, trivial⟩ (by simp)) ?_
      rintro ⟨k, j⟩ hkj
      dsimp only at hkj ⊢
      repeat refine c_seq ?_
      refine c_region ?_
      refine step_pure rfl (pure_move rfl) ?_
      refine step_pure rfl (pure_gtr rfl rfl) ?_
      refine step_nil ?_
      repeat refine c_seq ?_
      refine c_cond rfl (fun h => ?_) (fun h => ?_)
      · have hk1 : 1 < k := by have := of_decide_eq_true h; omega
        clear h
        refine c_skip ?_
        repeat refine c_seq ?_
        refine c_block ?_
        repeat refine c_seq ?_
        refine c_region ?_
        refine step_pure rfl (pure_move rfl) ?_
        refine step_pure rfl (pure_ixs (off' := bs.length + 0) rfl rfl rfl rfl rfl (by omega) (by omega) rfl) ?_
        refine step_pure rfl (pure_load (i := 0) rfl rfl rfl rfl rfl (row_get_mid bs _ R 0 (by simp))) ?_
        refine step_as rfl (pure_add rfl rfl) (show _ = Value.int .u8 (d + 64 * ((j + 1 : Nat) : Int)) from by rw [wrap_u8]; congr 1; show (d + 64 * (j : Int) + 64) % 256 = _; omega) ?_
        refine step_pure rfl (pure_ixs (off' := bs.length + 0) rfl rfl rfl rfl rfl (by omega) (by omega) rfl) ?_
        refine step_store 0 rfl rfl rfl rfl rfl rfl rfl rfl (by rw [List.length_append, row_len, List.length_append]; simp; omega) (row_set_mid bs _ R 0 _ (by simp)) ?_
        refine step_nil ?_
        repeat refine c_seq ?_
        refine c_region ?_
        refine step_pure rfl (pure_move rfl) ?_
        first | refine step_pure rfl (pure_quo_pos rfl rfl (by omega) (by omega) (by decide)) ?_ | refine step_pure rfl (pure_quo rfl rfl (by decide)) ?_
        refine step_pure rfl (pure_assign rfl) ?_
        refine step_nil ?_
        exact ⟨(k / 2, j + 1), by dsimp only; omega, by dsimp only; omega, less_of ⟨rfl, rfl, rfl, trivial⟩ rfl⟩
      · have hk1 : k ≤ 1 := by have := of_decide_eq_false h; omega
        clear h
        have htag : 64 * (j : Int) = tag (s' + 1) := by
          unfold tag
          rcases hs8 with h | h | h | h <;> rw [h] at hkj ⊢ <;> simp <;> omega
        have hfin : bs ++ (d + 64 * (j : Int)) :: tl = bs ++ vb n := by rw [hvp, htag]
        rw [hfin]
        refine c_exit ?_
        repeat refine c_seq ?_
        refine c_region ?_
        refine step_pure rfl (pure_move rfl) ?_
        refine step_pure rfl (pure_assign rfl) ?_
        refine step_pure rfl (pure_assign rfl) ?_
        refine step_nil ?_
        have hll : (bs ++ vb n).length = bs.length + (s' + 1) := by rw [List.length_append, vb_len, hs']
        refine c_ret ⟨_, res_tmp2 Try.results34 rfl rfl, _, List.Sublist.refl _, _, _, _, _, rfl, rfl, ?_⟩
        have := slis_back (u := ty5) (eT := 5) (b := b2) (cap := cap2) (l := bs ++ vb n) (R := R) rfl (by omega) (by omega)
        rw [hll] at this
        exact this
end Go.Proofs.Ytphpmallnlajjaa
