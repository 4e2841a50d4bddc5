/- The document's numbers, walked: Size, Bytes, Get. -/
import Derived.Test.YtphpmallnlajjaaF3
namespace Go.Proofs.Ytphpmallnlajjaa
open Go.RowKit Go.Vc
set_option linter.unusedVariables false

theorem rsize_any (n : Int) (w : World) : Gives tb 42 [.int .i64 n] w (.int .i64 (vsize n)) := by
  refine gives_of (fn := Try.f42) Try.func42 rfl Try.ntmps42 rfl ?_
  have hv := vsize_cases n
  generalize vsize n = s at hv ⊢
  repeat refine c_seq ?_
  refine c_region ?_
  refine step_pure rfl (pure_assign rfl) ?_
  refine step_nil ?_
  repeat refine c_seq ?_
  refine c_block ?_
  repeat refine c_seq ?_
  repeat refine c_seq ?_
  refine c_meet [(0, .int .i64 n), (3, .bool (decide (n < 0) || decide (4611686018427387904 ≤ n)))] [] ?_ ?_
  · repeat refine c_seq ?_
    refine c_region ?_
    refine step_pure rfl (pure_move rfl) ?_
    refine step_pure rfl (pure_lss rfl rfl) ?_
    refine step_pure rfl (pure_move rfl) ?_
    refine step_split (t := 6) rfl (fun h6 => ?_) (fun h6 => ?_)
    · refine step_pass rfl rfl rfl ?_
      refine step_pass rfl rfl rfl ?_
      refine step_pure rfl (pure_pick_yes rfl rfl) ?_
      refine step_pure rfl (pure_assign rfl) ?_
      refine step_nil ?_
      exact less_regs ⟨rfl, by show some (Value.bool _) = some (Value.bool _); simp_all <;> omega, trivial⟩
    · refine step_pure rfl (pure_move rfl) ?_
      refine step_pure rfl (pure_geq rfl rfl) ?_
      refine step_pure rfl (pure_pick_no rfl rfl) ?_
      refine step_pure rfl (pure_assign rfl) ?_
      refine step_nil ?_
      exact less_regs ⟨rfl, by show some (Value.bool _) = some (Value.bool _); simp_all <;> omega, trivial⟩
  repeat refine c_seq ?_
  refine c_cond rfl (fun h => ?_) (fun h => ?_)
  · have h0 : s = 0 := by simp at h; omega
    repeat refine c_seq ?_
    refine c_region ?_
    refine step_pure rfl (pure_assign rfl) ?_
    refine step_nil ?_
    exact c_ret ⟨_, res_tmp Try.results42 rfl, by rw [h0]; rfl⟩
  · have hb : 0 ≤ n ∧ n < 4611686018427387904 := by simp at h; omega
    clear h
    repeat refine c_seq ?_
    refine c_region ?_
    refine step_pure rfl (pure_move rfl) ?_
    refine step_pure rfl (pure_lss rfl rfl) ?_
    refine step_pure rfl (pure_assign rfl) ?_
    refine step_nil ?_
    repeat refine c_seq ?_
    refine c_cond rfl (fun h => ?_) (fun h => ?_)
    · have h0 : s = 1 := by simp at h; omega
      repeat refine c_seq ?_
      refine c_region ?_
      refine step_pure rfl (pure_assign rfl) ?_
      refine step_nil ?_
      exact c_ret ⟨_, res_tmp Try.results42 rfl, by rw [h0]; rfl⟩
    · have h1 := of_decide_eq_false h
      clear h
      repeat refine c_seq ?_
      refine c_region ?_
      refine step_pure rfl (pure_move rfl) ?_
      refine step_pure rfl (pure_lss rfl rfl) ?_
      refine step_pure rfl (pure_assign rfl) ?_
      refine step_nil ?_
      repeat refine c_seq ?_
      refine c_cond rfl (fun h => ?_) (fun h => ?_)
      · have h0 : s = 2 := by simp at h; omega
        repeat refine c_seq ?_
        refine c_region ?_
        refine step_pure rfl (pure_assign rfl) ?_
        refine step_nil ?_
        exact c_ret ⟨_, res_tmp Try.results42 rfl, by rw [h0]; rfl⟩
      · have h2 := of_decide_eq_false h
        clear h
        repeat refine c_seq ?_
        refine c_region ?_
        refine step_pure rfl (pure_move rfl) ?_
        refine step_pure rfl (pure_lss rfl rfl) ?_
        refine step_pure rfl (pure_assign rfl) ?_
        refine step_nil ?_
        repeat refine c_seq ?_
        refine c_cond rfl (fun h => ?_) (fun h => ?_)
        · have h0 : s = 4 := by simp at h; omega
          repeat refine c_seq ?_
          refine c_region ?_
          refine step_pure rfl (pure_assign rfl) ?_
          refine step_nil ?_
          exact c_ret ⟨_, res_tmp Try.results42 rfl, by rw [h0]; rfl⟩
        · have h0 : s = 8 := by simp at h; omega
          refine c_skip ?_
          repeat refine c_seq ?_
          refine c_region ?_
          refine step_pure rfl (pure_assign rfl) ?_
          refine step_nil ?_
          exact c_ret ⟨_, res_tmp Try.results42 rfl, by rw [h0]; rfl⟩

theorem be_snoc (n : Int) (s j : Nat) (h : j < s) : (be n s).take (j + 1) = (be n s).take j ++ [n / 256 ^ (s - 1 - j) % 256] := by
  have h1 := be_get n s j h
  obtain ⟨hl, hv⟩ := List.getElem?_eq_some_iff.1 h1
  rw [List.take_succ_eq_append_getElem hl, hv]

set_option maxHeartbeats 1000000 in
theorem rbytes_any (n : Int) (w : World) : Makes tb 35 [.int .i64 n] w fun u m' => ∃ base cap e, u = .slice base (vsize n) cap ∧ m' = [e] ∧ SlIs ty5 5 e base (vsize n) cap (row (vb n)) := by
  refine makes_of (fn := Try.f35) Try.func35 rfl Try.ntmps35 rfl ?_
  have hs8 : vsize n = 0 ∨ vsize n = 1 ∨ vsize n = 2 ∨ vsize n = 4 ∨ vsize n = 8 := by rcases vsize_cases n with h | h | h | h | h <;> omega
  have hvb : vb n = tagged (vsize n) (be n (vsize n)) := rfl
  have hhd : ∀ s', vsize n = s' + 1 → _ := vb_head n
  have hbl := fun s => be_len n s
  rw [hvb]
  repeat refine c_seq ?_
  refine c_region ?_
  refine step_pure rfl (pure_assign rfl) ?_
  refine step_nil ?_
  repeat refine c_seq ?_
  refine c_region ?_
  refine step_pure rfl (pure_move rfl) ?_
  refine step_gives rfl fun42 rfl (fun w _ _ => rsize_any n w) ?_
  refine step_pure rfl (pure_assign rfl) ?_
  refine step_nil ?_
  repeat refine c_seq ?_
  refine c_region ?_
  refine step_pure rfl (pure_assign rfl) ?_
  refine step_hole ?_
  refine step_nil ?_
  repeat refine c_seq ?_
  refine c_region ?_
  refine step_pure rfl (pure_move rfl) ?_
  first | refine step_pure rfl (pure_sub64 rfl rfl (by omega) (by omega)) ?_ | refine step_pure rfl (pure_sub rfl rfl) ?_
  refine step_pure rfl (pure_assign rfl) ?_
  refine step_nil ?_
  clear hvb
  generalize vsize n = s at hs8 hhd ⊢
  repeat refine c_seq ?_
  refine c_block ?_
  have hwf : ∀ j : Nat, j ≤ s → IntKind.i64.wrap ((s : Int) - 1 - j) = s - 1 - j := fun j hj => wrap_i64 (by omega) (by omega)
  repeat refine c_seq ?_
  refine c_loop (α := SlS × Nat) (fun x => [(0, .int .i64 n), (3, .int .i64 s), (4, .slice x.1.base x.1.len x.1.cap), (5, .int .i64 (s - 1 - x.2))]) (fun x => [x.1.e])
    (fun x => x.2 ≤ s ∧ x.1.len = x.2 ∧ SlIs ty5 5 x.1.e x.1.base x.1.len x.1.cap (row ((be n s).take x.2))) (fun x => s - x.2) (⟨none, 0, 0, hole⟩, 0)
    ⟨Nat.zero_le _, rfl, sl_nil _ _ (by decide)⟩ (less_of ⟨rfl, rfl, rfl, by show some (Value.int .i64 ((s : Int) - 1)) = some (Value.int .i64 ((s : Int) - 1 - ((0 : Nat) : Int))); congr 2; omega, trivial⟩ rfl) ?_
  rintro ⟨⟨base, len, cap, e⟩, j⟩ ⟨hj, hlj, hs⟩
  dsimp only at hj hs hlj ⊢
  subst hlj
  repeat refine c_seq ?_
  refine c_region ?_
  refine step_pure rfl (pure_move rfl) ?_
  refine step_pure rfl (pure_geq rfl rfl) ?_
  refine step_nil ?_
  repeat refine c_seq ?_
  refine c_cond rfl (fun h => ?_) (fun h => ?_)
  · have hlt : len < s := by have := of_decide_eq_true h; omega
    clear h
    have hbt := be_byte n s len hlt (by omega)
    have hsn := be_snoc n s len hlt
    have hu : IntKind.u64.wrap (8 * ((s : Int) - 1 - len)) = 8 * ((s : Int) - 1 - len) := by rw [IntKind.wrap_u64]; omega
    refine c_skip ?_
    repeat refine c_seq ?_
    refine c_block ?_
    repeat refine c_seq ?_
    refine c_region ?_
    refine step_pure rfl (pure_move rfl) ?_
    refine step_pure rfl (pure_move rfl) ?_
    refine step_pure rfl (pure_move rfl) ?_
    first | refine step_pure rfl (pure_mul64 rfl rfl (by omega) (by omega)) ?_ | refine step_pure rfl (pure_mul rfl rfl) ?_
    refine step_as rfl (pure_conv rfl rfl rfl rfl) (show _ = Value.int .u64 (8 * ((s : Int) - 1 - len)) from by rw [hu]) ?_
    refine step_pure rfl (pure_shr rfl rfl (by omega)) ?_
    refine step_as rfl (pure_conv rfl rfl rfl rfl) (show _ = Value.int .u8 (n / 256 ^ (s - 1 - len) % 256) from by rw [hbt]) ?_
    refine step_buildSlice rfl rfl rfl rfl elem5 (by decide) (by decide) (fill_one .u8 _ rfl) (fun b21 => ?_)
    refine step_append 1 rfl rfl hs rfl rfl rfl rfl rfl elem5 rfl (by decide) rfl rfl rfl (src_own (j := 0) (sl_built ty5 5 b21 [.int .u8 (n / 256 ^ (s - 1 - len) % 256)] 1 rfl) rfl) (by intro v hv; simp at hv; subst hv; rfl) (by omega) (by omega) (fun base' cap' e' hs' => ?_)
    refine step_pure rfl (pure_assign rfl) ?_
    refine step_nil ?_
    repeat refine c_seq ?_
    refine c_region ?_
    refine step_pure rfl (pure_move rfl) ?_
    first | refine step_pure rfl (pure_sub64 rfl rfl (by omega) (by omega)) ?_ | refine step_pure rfl (pure_sub rfl rfl) ?_
    refine step_pure rfl (pure_assign rfl) ?_
    refine step_nil ?_
    refine ⟨(⟨base', len + 1, cap', e'⟩, len + 1), ⟨hlt, rfl, ?_⟩, by dsimp only; omega, less_sub ⟨rfl, rfl, rfl, by show some (Value.int .i64 _) = some (Value.int .i64 _); congr 2; show (s : Int) - 1 - len - 1 = (s : Int) - 1 - ((len + 1 : Nat) : Int); omega, trivial⟩ (List.Sublist.cons _ (List.Sublist.refl _))⟩
    rw [hsn, ← row_app]
    exact hs'
  · have hjs : len = s := by have := of_decide_eq_false h; omega
    clear h
    subst hjs
    have hb0 := hbl len
    rw [List.take_of_length_le (by omega)] at hs
    refine c_exit ?_
    repeat refine c_seq ?_
    refine c_region ?_
    refine step_pure rfl (pure_move rfl) ?_
    refine step_nil ?_
    have hpatch : ∀ (t : Int), (len = 2 ∨ len = 4 ∨ len = 8) → t = tag len → ∃ b x tl R, base = some ⟨b, 0, none⟩ ∧ e = ⟨b, row (x :: tl) ++ R, 5⟩ ∧ IntKind.u8.wrap (x + t) = x + t ∧ tagged len (be n len) = (x + t) :: tl ∧
        (∀ c, c = row ((x + t) :: tl) ++ R → SlIs ty5 5 ⟨b, c, 5⟩ (some ⟨b, 0, none⟩) len cap (row ((x + t) :: tl))) := by
      intro t hl ht
      obtain ⟨_, hc, b, R, hb, he, hR⟩ := slis_form rfl hs (by omega)
      obtain ⟨s', rfl⟩ : ∃ s', len = s' + 1 := ⟨len - 1, by omega⟩
      have hd := hhd s' rfl
      refine ⟨b, n / 256 ^ s' % 256, be n s', R, hb, he, ?_, by rw [ht]; rfl, ?_⟩
      · rw [wrap_u8, ht]
        unfold tag
        repeat' split
        all_goals omega
      · rintro c rfl
        have hll : ((n / 256 ^ s' % 256 + t) :: be n s').length = s' + 1 := by rw [List.length_cons, be_len]
        have := slis_back (u := ty5) (eT := 5) (b := b) (cap := cap) (l := (n / 256 ^ s' % 256 + t) :: be n s') (R := R) rfl (by omega) (by omega)
        rw [hll] at this
        exact this
    repeat refine c_seq ?_
    refine c_block ?_
    repeat refine c_seq ?_
    refine c_region ?_
    refine step_pure rfl (pure_eql rfl rfl) ?_
    refine step_pure rfl (pure_assign rfl) ?_
    refine step_nil ?_
    repeat refine c_seq ?_
    refine c_cond rfl (fun h => ?_) (fun h => ?_)
    · have h2 : len = 2 := by have := eq_of_beq h; omega
      obtain ⟨b, x, tl, R, rfl, rfl, hw, htg, hfin⟩ := hpatch 64 (.inl h2) (by rw [h2]; rfl)
      repeat refine c_seq ?_
      refine c_region ?_
      refine step_pure rfl (pure_move rfl) ?_
      refine step_pure rfl (pure_move rfl) ?_
      refine step_pure rfl (pure_ixs (off' := 0) rfl rfl rfl rfl rfl (by decide) (by omega) rfl) ?_
      refine step_pure rfl (pure_load (i := 0) rfl rfl rfl rfl rfl rfl) ?_
      refine step_as rfl (pure_add rfl rfl) (show _ = Value.int .u8 (x + 64) from by rw [hw]) ?_
      refine step_pure rfl (pure_ixs (off' := 0) rfl rfl rfl rfl rfl (by decide) (by omega) rfl) ?_
      refine step_store 0 rfl rfl rfl rfl rfl rfl rfl rfl (by simp [ints]) rfl ?_
      refine step_nil ?_
      repeat refine c_seq ?_
      refine c_region ?_
      refine step_pure rfl (pure_move rfl) ?_
      refine step_pure rfl (pure_assign rfl) ?_
      refine step_nil ?_
      rw [htg]
      exact c_ret ⟨_, res_tmp Try.results35 rfl, [_], List.Sublist.refl _, _, _, _, rfl, rfl, hfin _ rfl⟩
    · have h2 : len ≠ 2 := by have := ne_of_beq_false h; omega
      clear h
      repeat refine c_seq ?_
      refine c_region ?_
      refine step_pure rfl (pure_eql rfl rfl) ?_
      refine step_pure rfl (pure_assign rfl) ?_
      refine step_nil ?_
      repeat refine c_seq ?_
      refine c_cond rfl (fun h => ?_) (fun h => ?_)
      · have h4 : len = 4 := by have := eq_of_beq h; omega
        obtain ⟨b, x, tl, R, rfl, rfl, hw, htg, hfin⟩ := hpatch 128 (.inr (.inl h4)) (by rw [h4]; rfl)
        repeat refine c_seq ?_
        refine c_region ?_
        refine step_pure rfl (pure_move rfl) ?_
        refine step_pure rfl (pure_move rfl) ?_
        refine step_pure rfl (pure_ixs (off' := 0) rfl rfl rfl rfl rfl (by decide) (by omega) rfl) ?_
        refine step_pure rfl (pure_load (i := 0) rfl rfl rfl rfl rfl rfl) ?_
        refine step_as rfl (pure_add rfl rfl) (show _ = Value.int .u8 (x + 128) from by rw [hw]) ?_
        refine step_pure rfl (pure_ixs (off' := 0) rfl rfl rfl rfl rfl (by decide) (by omega) rfl) ?_
        refine step_store 0 rfl rfl rfl rfl rfl rfl rfl rfl (by simp [ints]) rfl ?_
        refine step_nil ?_
        repeat refine c_seq ?_
        refine c_region ?_
        refine step_pure rfl (pure_move rfl) ?_
        refine step_pure rfl (pure_assign rfl) ?_
        refine step_nil ?_
        rw [htg]
        exact c_ret ⟨_, res_tmp Try.results35 rfl, [_], List.Sublist.refl _, _, _, _, rfl, rfl, hfin _ rfl⟩
      · have h4 : len ≠ 4 := by have := ne_of_beq_false h; omega
        clear h
        repeat refine c_seq ?_
        refine c_region ?_
        refine step_pure rfl (pure_eql rfl rfl) ?_
        refine step_pure rfl (pure_assign rfl) ?_
        refine step_nil ?_
        repeat refine c_seq ?_
        refine c_cond rfl (fun h => ?_) (fun h => ?_)
        · have h8 : len = 8 := by have := eq_of_beq h; omega
          obtain ⟨b, x, tl, R, rfl, rfl, hw, htg, hfin⟩ := hpatch 192 (.inr (.inr h8)) (by rw [h8]; rfl)
          repeat refine c_seq ?_
          refine c_region ?_
          refine step_pure rfl (pure_move rfl) ?_
          refine step_pure rfl (pure_move rfl) ?_
          refine step_pure rfl (pure_ixs (off' := 0) rfl rfl rfl rfl rfl (by decide) (by omega) rfl) ?_
          refine step_pure rfl (pure_load (i := 0) rfl rfl rfl rfl rfl rfl) ?_
          refine step_as rfl (pure_add rfl rfl) (show _ = Value.int .u8 (x + 192) from by rw [hw]) ?_
          refine step_pure rfl (pure_ixs (off' := 0) rfl rfl rfl rfl rfl (by decide) (by omega) rfl) ?_
          refine step_store 0 rfl rfl rfl rfl rfl rfl rfl rfl (by simp [ints]) rfl ?_
          refine step_nil ?_
          repeat refine c_seq ?_
          refine c_region ?_
          refine step_pure rfl (pure_move rfl) ?_
          refine step_pure rfl (pure_assign rfl) ?_
          refine step_nil ?_
          rw [htg]
          exact c_ret ⟨_, res_tmp Try.results35 rfl, [_], List.Sublist.refl _, _, _, _, rfl, rfl, hfin _ rfl⟩
        · have h8 : len ≠ 8 := by have := ne_of_beq_false h; omega
          clear h
          have htg : tagged len (be n len) = be n len := by
            have : tag len = 0 := by unfold tag; rw [if_neg h2, if_neg h4, if_neg h8]
            unfold tagged
            split
            · rename_i hx; rw [hx]
            · rename_i hx; rw [hx, this, Int.add_zero]
          refine c_skip ?_
          repeat refine c_seq ?_
          refine c_region ?_
          refine step_pure rfl (pure_move rfl) ?_
          refine step_pure rfl (pure_assign rfl) ?_
          refine step_nil ?_
          rw [htg]
          exact c_ret ⟨_, res_tmp Try.results35 rfl, [e], List.Sublist.refl _, _, _, _, rfl, rfl, hs⟩
end Go.Proofs.Ytphpmallnlajjaa
