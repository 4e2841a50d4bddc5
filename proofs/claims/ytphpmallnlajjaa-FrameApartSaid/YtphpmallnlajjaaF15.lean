/- What a reader reads: a frame, walked. -/
import Derived.Test.YtphpmallnlajjaaF14
namespace Go.Proofs.Ytphpmallnlajjaa
open Go.RowKit Go.Vc
set_option linter.unusedVariables false

theorem rowOf_rg : rowOf [Value.int .i64 0, .int .i64 0] (1 * 2) = [.int .i64 0, .int .i64 0] := by kernel_rfl
theorem fill_rg (lo hi : Int) : fillL (fun i => some (i * ty45.size, ty45.size)) (rowOf [.int .i64 0, .int .i64 0] (1 * ty45.size)) [(0, .agg [Value.int .i64 lo, .int .i64 hi].toArray)] = some [.int .i64 lo, .int .i64 hi] := by
  rw [show 1 * ty45.size = 1 * 2 from rfl, rowOf_rg]
  rfl
theorem rgCells_app (a b : List (Int × Int)) : rgCells (a ++ b) = rgCells a ++ rgCells b := List.flatMap_append ..
theorem rdD_len (s : St) (n : Int) : (rdD s n).1.length = dK s.1 n := by
  show (s.1.take (dK s.1 n)).length = _
  rw [List.length_take]
  have := dK_le s.1 n
  omega
abbrev FV (v : Value) (f : Fr) (rb : Option Addr) (rc : Nat) (db : Option Addr) (dc : Nat) : Prop := v = .agg [Value.int .i64 f.kind, .int .i64 f.a, .int .i64 f.b, .slice rb f.rs.length rc, .slice db f.data.length dc].toArray

set_option maxHeartbeats 4000000 in
theorem frame_any (b : List Int) (lost : Bool) (base : Option Addr) (cap bR : Nat) (w0 w : World) (S : Src w0 bR base cap b) (k0 : Keep w0 w [bR])
    (hc : w.heap[bR]? = some (.cells [Value.slice base b.length cap, Value.bool lost].toArray 59 (0, 0))) :
    Wr tb 31 [.pointer (some ⟨bR, 0, none⟩)] w bR 59 (fun v c' m1 => ∃ rb rc er db dc ed base' cap', FV v (rdFrame (b, lost)) rb rc db dc ∧
      c' = [.slice base' (rdZ (b, lost)).1.length cap', .bool (rdZ (b, lost)).2] ∧ m1 = [ed, er] ∧ SlIs ty45 45 er rb (rdFrame (b, lost)).rs.length rc (rgCells (rdFrame (b, lost)).rs) ∧
      SlIs ty5 5 ed db (rdFrame (b, lost)).data.length dc (row (rdFrame (b, lost)).data) ∧ Src w0 bR base' cap' (rdZ (b, lost)).1) := by
  refine wr_of (fn := Try.f31) Try.func31 rfl Try.ntmps31 rfl hc ?_
  have eA : rdA (b, lost) = if (rdN (b, lost)).1 = 1 then (0, (rdN (b, lost)).2) else rdN (rdN (b, lost)).2 := rfl
  have eB : rdB (b, lost) = if wantB (rdN (b, lost)).1 = true then rdN (rdA (b, lost)).2 else (0, (rdA (b, lost)).2) := rfl
  have eR : rdR (b, lost) = if wantR (rdN (b, lost)).1 = true then rdRs (rdN (rdB (b, lost)).2).2 (min (rdN (rdB (b, lost)).2).1 17).toNat else ([], (rdB (b, lost)).2) := rfl
  have eT : rdT (b, lost) = if wantD (rdN (b, lost)).1 = true then rdD (rdN (rdR (b, lost)).2).2 (rdN (rdR (b, lost)).2).1 else ([], (rdR (b, lost)).2) := rfl
  have eZ : rdZ (b, lost) = if (rdN (b, lost)).1 = 0 then ((rdD (rdT (b, lost)).2 (rdA (b, lost)).1).2.1, (rdD (rdT (b, lost)).2 (rdA (b, lost)).1).2.2 || (rdD (rdT (b, lost)).2 (rdA (b, lost)).1).1.any (· != 0)) else (rdT (b, lost)).2 := rfl
  unfold rdFrame
  obtain ⟨base1, cap1, hq1, S1⟩ := S.drop (gS_le b S.bytes)
  have hN := fun w' k hc' => number_at (w' := w') (T := 59) (lost := lost) S (k0.trans k fun _ h _ => h) hc' hq1
  have S1' : Src w0 bR base1 cap1 (rdN (b, lost)).2.1 := S1
  clear S1 hq1
  generalize rdN (b, lost) = N at *
  generalize rdA (b, lost) = A at *
  generalize rdB (b, lost) = B at *
  generalize rdR (b, lost) = R at *
  generalize rdT (b, lost) = D at *
  generalize rdZ (b, lost) = Z at *
  obtain ⟨k, b1, l1⟩ := N
  dsimp only at *
  repeat refine c_seq ?_
  refine c_region ?_
  refine step_hole ?_
  refine step_alloc rfl zero33 (fun b2 => ?_)
  refine step_hole ?_
  refine step_nil ?_
  repeat refine c_seq ?_
  refine c_region ?_
  refine step_pure rfl (pure_move rfl) ?_
  refine step_pure rfl (pure_nilCheck rfl) ?_
  refine step_pure rfl (pure_fieldAddr rfl rfl rfl rfl rfl (by decide)) ?_
  refine step_wr 3 rfl fun37 rfl rfl (by simp) (fun w' hh kp => hN w' kp (hh.cell (e := ⟨bR, [.slice base b.length cap, .bool lost], 59⟩) (nth_mem (i := 3) rfl) (by simp))) ?_
  rintro v c' m1 ⟨rfl, rfl, rfl⟩
  refine step_pure rfl (pure_fieldAddr rfl rfl rfl rfl rfl (by decide)) ?_
  refine step_store 1 rfl rfl rfl rfl rfl rfl rfl rfl (by show 0 < 5; decide) rfl ?_
  refine step_nil ?_
  repeat refine c_seq ?_
  refine c_region ?_
  refine step_pure rfl (pure_fieldAddr rfl rfl rfl rfl rfl (by decide)) ?_
  first | refine step_pure rfl (pure_load (i := 0) rfl rfl rfl rfl rfl rfl) ?_ | refine step_pure rfl (pure_load (i := 1) rfl rfl rfl rfl rfl rfl) ?_ | refine step_pure rfl (pure_load (i := 2) rfl rfl rfl rfl rfl rfl) ?_ | refine step_pure rfl (pure_load (i := 3) rfl rfl rfl rfl rfl rfl) ?_ | refine step_pure rfl (pure_load (i := 4) rfl rfl rfl rfl rfl rfl) ?_ | refine step_pure rfl (pure_load (i := 5) rfl rfl rfl rfl rfl rfl) ?_
  refine step_gives rfl fun25 rfl (fun w _ _ => wants_any _ w) ?_
  refine step_pure rfl (pure_move rfl) ?_
  refine step_pure rfl (pure_extract rfl rfl) ?_
  refine step_pure rfl (pure_extract rfl rfl) ?_
  refine step_pure rfl (pure_extract rfl rfl) ?_
  refine step_pure rfl (pure_assign rfl) ?_
  refine step_pure rfl (pure_assign rfl) ?_
  refine step_pure rfl (pure_assign rfl) ?_
  refine step_nil ?_
  repeat refine c_seq ?_
  refine c_region ?_
  refine step_pure rfl (pure_fieldAddr rfl rfl rfl rfl rfl (by decide)) ?_
  first | refine step_pure rfl (pure_load (i := 0) rfl rfl rfl rfl rfl rfl) ?_ | refine step_pure rfl (pure_load (i := 1) rfl rfl rfl rfl rfl rfl) ?_ | refine step_pure rfl (pure_load (i := 2) rfl rfl rfl rfl rfl rfl) ?_ | refine step_pure rfl (pure_load (i := 3) rfl rfl rfl rfl rfl rfl) ?_ | refine step_pure rfl (pure_load (i := 4) rfl rfl rfl rfl rfl rfl) ?_ | refine step_pure rfl (pure_load (i := 5) rfl rfl rfl rfl rfl rfl) ?_
  refine step_pure rfl (pure_neq rfl rfl) ?_
  refine step_nil ?_
  clear hN
  generalize wantB k = wb at *
  generalize wantR k = wr at *
  generalize wantD k = wd at *
  repeat refine c_seq ?_
  refine c_meetx (α := Option Addr × Nat) (fun z => [(0, .pointer (some ⟨bR, 0, none⟩)), (2, .pointer (some ⟨b2, 0, none⟩)), (3, .bool wb), (4, .bool wr), (5, .bool wd)])
    (fun z => [hole, ⟨b2, [.int .i64 k, .int .i64 A.1, .int .i64 0, .slice none 0 0, .slice none 0 0], 33⟩, hole, ⟨bR, [.slice z.1 A.2.1.length z.2, .bool A.2.2], 59⟩])
    (fun z => Src w0 bR z.1 z.2 A.2.1) ?_ ?_
  · repeat refine c_seq ?_
    refine c_cond rfl (fun h => ?_) (fun h => ?_)
    · rw [if_neg (by simpa using h)] at eA
      obtain ⟨base2, cap2, hq2, S2⟩ := S1'.drop (gS_le b1 S1'.bytes)
      have hN := fun w' k hc' => number_at (w' := w') (T := 59) (lost := l1) S1' (k0.trans k fun _ h _ => h) hc' hq2
      have S2' : Src w0 bR base2 cap2 (rdN (b1, l1)).2.1 := S2
      rw [← eA] at hN S2'
      repeat refine c_seq ?_
      refine c_region ?_
      refine step_pure rfl (pure_move rfl) ?_
      refine step_pure rfl (pure_nilCheck rfl) ?_
      refine step_pure rfl (pure_fieldAddr rfl rfl rfl rfl rfl (by decide)) ?_
      refine step_wr 3 rfl fun37 rfl rfl (by simp) (fun w' hh kp => hN w' kp (hh.cell (e := ⟨bR, [.slice base1 b1.length cap1, .bool l1], 59⟩) (nth_mem (i := 3) rfl) (by simp))) ?_
      rintro v c' m1 ⟨rfl, rfl, rfl⟩
      refine step_pure rfl (pure_fieldAddr rfl rfl rfl rfl rfl (by decide)) ?_
      refine step_store 1 rfl rfl rfl rfl rfl rfl rfl rfl (by show 1 < 5; decide) rfl ?_
      refine step_nil ?_
      exact ⟨(base2, cap2), S2', less_of ⟨rfl, rfl, rfl, rfl, rfl, trivial⟩ rfl⟩
    · rw [if_pos (by simpa using h)] at eA
      rw [eA]
      exact c_skip ⟨(base1, cap1), S1', less_of ⟨rfl, rfl, rfl, rfl, rfl, trivial⟩ rfl⟩
  clear S1' eA
  obtain ⟨a, b3, l3⟩ := A
  rintro ⟨base3, cap3⟩ S3
  dsimp only at *
  repeat refine c_seq ?_
  refine c_region ?_
  refine step_pure rfl (pure_move rfl) ?_
  refine step_nil ?_
  repeat refine c_seq ?_
  refine c_meetx (α := Option Addr × Nat) (fun z => [(0, .pointer (some ⟨bR, 0, none⟩)), (2, .pointer (some ⟨b2, 0, none⟩)), (4, .bool wr), (5, .bool wd)])
    (fun z => [hole, ⟨b2, [.int .i64 k, .int .i64 a, .int .i64 B.1, .slice none 0 0, .slice none 0 0], 33⟩, hole, ⟨bR, [.slice z.1 B.2.1.length z.2, .bool B.2.2], 59⟩])
    (fun z => Src w0 bR z.1 z.2 B.2.1) ?_ ?_
  · repeat refine c_seq ?_
    refine c_cond rfl (fun h => ?_) (fun h => ?_)
    · rw [if_pos h] at eB
      obtain ⟨base4, cap4, hq4, S4⟩ := S3.drop (gS_le b3 S3.bytes)
      have hN := fun w' k hc' => number_at (w' := w') (T := 59) (lost := l3) S3 (k0.trans k fun _ h _ => h) hc' hq4
      have S4' : Src w0 bR base4 cap4 (rdN (b3, l3)).2.1 := S4
      rw [← eB] at hN S4'
      repeat refine c_seq ?_
      refine c_region ?_
      refine step_pure rfl (pure_move rfl) ?_
      refine step_pure rfl (pure_nilCheck rfl) ?_
      refine step_pure rfl (pure_fieldAddr rfl rfl rfl rfl rfl (by decide)) ?_
      refine step_wr 3 rfl fun37 rfl rfl (by simp) (fun w' hh kp => hN w' kp (hh.cell (e := ⟨bR, [.slice base3 b3.length cap3, .bool l3], 59⟩) (nth_mem (i := 3) rfl) (by simp))) ?_
      rintro v c' m1 ⟨rfl, rfl, rfl⟩
      refine step_pure rfl (pure_fieldAddr rfl rfl rfl rfl rfl (by decide)) ?_
      refine step_store 1 rfl rfl rfl rfl rfl rfl rfl rfl (by show 2 < 5; decide) rfl ?_
      refine step_nil ?_
      exact ⟨(base4, cap4), S4', less_of ⟨rfl, rfl, rfl, rfl, trivial⟩ rfl⟩
    · rw [if_neg (by rw [h]; decide)] at eB
      rw [eB]
      exact c_skip ⟨(base3, cap3), S3, less_of ⟨rfl, rfl, rfl, rfl, trivial⟩ rfl⟩
  clear S3 eB
  obtain ⟨bb, b5, l5⟩ := B
  rintro ⟨base5, cap5⟩ S5
  dsimp only at *
  repeat refine c_seq ?_
  refine c_region ?_
  refine step_pure rfl (pure_move rfl) ?_
  refine step_nil ?_
  repeat refine c_seq ?_
  refine c_meetx (α := (Option Addr × Nat) × SlS) (fun z => [(0, .pointer (some ⟨bR, 0, none⟩)), (2, .pointer (some ⟨b2, 0, none⟩)), (5, .bool wd)])
    (fun z => [hole, ⟨b2, [.int .i64 k, .int .i64 a, .int .i64 bb, .slice z.2.base R.1.length z.2.cap, .slice none 0 0], 33⟩, z.2.e, ⟨bR, [.slice z.1.1 R.2.1.length z.1.2, .bool R.2.2], 59⟩])
    (fun z => Src w0 bR z.1.1 z.1.2 R.2.1 ∧ SlIs ty45 45 z.2.e z.2.base R.1.length z.2.cap (rgCells R.1)) ?_ ?_
  · repeat refine c_seq ?_
    refine c_cond rfl (fun h => ?_) (fun h => ?_)
    · rw [if_pos h] at eR
      obtain ⟨base6, cap6, hq6, S6⟩ := S5.drop (gS_le b5 S5.bytes)
      have hN := fun w' k hc' => number_at (w' := w') (T := 59) (lost := l5) S5 (k0.trans k fun _ h _ => h) hc' hq6
      have S6' : Src w0 bR base6 cap6 (rdN (b5, l5)).2.1 := S6
      have hm0 : 0 ≤ (rdN (b5, l5)).1 := gN_nonneg b5 S5.bytes
      clear S6 hq6
      generalize rdN (b5, l5) = q at *
      obtain ⟨mm, q⟩ := q
      dsimp only at *
      obtain ⟨c, hcc⟩ : ∃ c : Nat, min mm 17 = c := ⟨(min mm 17).toNat, by omega⟩
      have hc17 : c ≤ 17 := by omega
      rw [hcc, Int.toNat_natCast] at eR
      repeat refine c_seq ?_
      refine c_region ?_
      refine step_pure rfl (pure_move rfl) ?_
      refine step_pure rfl (pure_nilCheck rfl) ?_
      refine step_pure rfl (pure_fieldAddr rfl rfl rfl rfl rfl (by decide)) ?_
      refine step_wr 3 rfl fun37 rfl rfl (by simp) (fun w' hh kp => hN w' kp (hh.cell (e := ⟨bR, [.slice base5 b5.length cap5, .bool l5], 59⟩) (nth_mem (i := 3) rfl) (by simp))) ?_
      rintro v c' m1 ⟨rfl, rfl, rfl⟩
      refine step_as rfl (pure_min rfl rfl) (show _ = Value.int .i64 c from by rw [hcc]) ?_
      refine step_pure rfl (pure_move rfl) ?_
      refine step_nil ?_
      clear hN
      repeat refine c_seq ?_
      refine c_block ?_
      repeat refine c_seq ?_
      refine c_loop (α := Nat × SlS × Option Addr × Nat) (fun x => [(0, .pointer (some ⟨bR, 0, none⟩)), (2, .pointer (some ⟨b2, 0, none⟩)), (5, .bool wd), (40, .int .i64 c), (41, .int .i64 x.1)])
        (fun x => [hole, ⟨b2, [.int .i64 k, .int .i64 a, .int .i64 bb, .slice x.2.1.base x.2.1.len x.2.1.cap, .slice none 0 0], 33⟩, x.2.1.e, ⟨bR, [.slice x.2.2.1 (rdRs q x.1).2.1.length x.2.2.2, .bool (rdRs q x.1).2.2], 59⟩])
        (fun x => x.1 ≤ c ∧ x.2.1.len = x.1 ∧ SlIs ty45 45 x.2.1.e x.2.1.base x.2.1.len x.2.1.cap (rgCells (rdRs q x.1).1) ∧ Src w0 bR x.2.2.1 x.2.2.2 (rdRs q x.1).2.1) (fun x => c - x.1) (0, ⟨none, 0, 0, hole⟩, base6, cap6)
        ⟨Nat.zero_le _, rfl, sl_nil _ _ (by decide), S6'⟩ (less_of ⟨rfl, rfl, rfl, rfl, rfl, trivial⟩ rfl) ?_
      rintro ⟨i, ⟨rb, rl, rc, re⟩, base7, cap7⟩ ⟨hi, hrl, hs, S7⟩
      dsimp only at hi hrl hs S7 ⊢
      subst hrl
      have hnx : rdRs q (rl + 1) = ((rdRs q rl).1 ++ [((rdN (rdRs q rl).2).1, (rdN (rdN (rdRs q rl).2).2).1)], (rdN (rdN (rdRs q rl).2).2).2) := rfl
      repeat refine c_seq ?_
      refine c_region ?_
      refine step_pure rfl (pure_lss rfl rfl) ?_
      refine step_nil ?_
      repeat refine c_seq ?_
      refine c_cond rfl (fun h => ?_) (fun h => ?_)
      · have hlt : rl < c := by have := of_decide_eq_true h; omega
        clear h
        generalize rdRs q rl = q7 at *
        obtain ⟨rs7, b7, l7⟩ := q7
        dsimp only at *
        obtain ⟨base8, cap8, hq8, S8⟩ := S7.drop (gS_le b7 S7.bytes)
        have hN1 := fun w' k hc' => number_at (w' := w') (T := 59) (lost := l7) S7 (k0.trans k fun _ h _ => h) hc' hq8
        have S8' : Src w0 bR base8 cap8 (rdN (b7, l7)).2.1 := S8
        clear S8 hq8
        generalize rdN (b7, l7) = q8 at *
        obtain ⟨lo, b8, l8⟩ := q8
        dsimp only at *
        obtain ⟨base9, cap9, hq9, S9⟩ := S8'.drop (gS_le b8 S8'.bytes)
        have hN2 := fun w' k hc' => number_at (w' := w') (T := 59) (lost := l8) S8' (k0.trans k fun _ h _ => h) hc' hq9
        have S9' : Src w0 bR base9 cap9 (rdN (b8, l8)).2.1 := S9
        clear S9 hq9
        generalize rdN (b8, l8) = q9 at *
        obtain ⟨hi', b9, l9⟩ := q9
        dsimp only at *
        refine c_skip ?_
        repeat refine c_seq ?_
        refine c_block ?_
        repeat refine c_seq ?_
        refine c_region ?_
        refine step_pure rfl (pure_move rfl) ?_
        refine step_pure rfl (pure_nilCheck rfl) ?_
        refine step_pure rfl (pure_fieldAddr rfl rfl rfl rfl rfl (by decide)) ?_
        refine step_wr 3 rfl fun37 rfl rfl (by simp) (fun w' hh kp => hN1 w' kp (hh.cell (e := ⟨bR, [.slice base7 b7.length cap7, .bool l7], 59⟩) (nth_mem (i := 3) rfl) (by simp))) ?_
        rintro v c' m1 ⟨rfl, rfl, rfl⟩
        refine step_pure rfl (pure_assign rfl) ?_
        refine step_nil ?_
        repeat refine c_seq ?_
        refine d_region2 [1, 11, 17, 25, 33, 41, 53, 57, 69, 76, 81, 92] ([⟨b2, [.int .i64 k, .int .i64 a, .int .i64 bb, .slice rb rl rc, .slice none 0 0], 33⟩]) follows (by kernel_rfl) ?_
        refine d_pure0 rfl rfl rfl (pure_fieldAddr rfl rfl rfl rfl rfl (by decide)) ?_
        first | refine d_pure1 rfl rfl rfl (pure_load (i := 0) rfl rfl rfl rfl rfl rfl) (by first | exact SubMem.refl _ | exact (SubMem.refl _).cons | exact (SubMem.refl _).cons.cons | exact (SubMem.refl _).cons.cons.cons | exact (SubMem.refl _).cons.cons.cons.cons | exact (fun w hh => Has.sublist (by repeat (first | exact List.Sublist.refl _ | exact List.nil_sublist _ | apply List.Sublist.cons_cons | apply List.Sublist.cons)) hh)) ?_ | refine d_pure1 rfl rfl rfl (pure_load (i := 1) rfl rfl rfl rfl rfl rfl) (by first | exact SubMem.refl _ | exact (SubMem.refl _).cons | exact (SubMem.refl _).cons.cons | exact (SubMem.refl _).cons.cons.cons | exact (SubMem.refl _).cons.cons.cons.cons | exact (fun w hh => Has.sublist (by repeat (first | exact List.Sublist.refl _ | exact List.nil_sublist _ | apply List.Sublist.cons_cons | apply List.Sublist.cons)) hh)) ?_ | refine d_pure1 rfl rfl rfl (pure_load (i := 2) rfl rfl rfl rfl rfl rfl) (by first | exact SubMem.refl _ | exact (SubMem.refl _).cons | exact (SubMem.refl _).cons.cons | exact (SubMem.refl _).cons.cons.cons | exact (SubMem.refl _).cons.cons.cons.cons | exact (fun w hh => Has.sublist (by repeat (first | exact List.Sublist.refl _ | exact List.nil_sublist _ | apply List.Sublist.cons_cons | apply List.Sublist.cons)) hh)) ?_ | refine d_pure1 rfl rfl rfl (pure_load (i := 3) rfl rfl rfl rfl rfl rfl) (by first | exact SubMem.refl _ | exact (SubMem.refl _).cons | exact (SubMem.refl _).cons.cons | exact (SubMem.refl _).cons.cons.cons | exact (SubMem.refl _).cons.cons.cons.cons | exact (fun w hh => Has.sublist (by repeat (first | exact List.Sublist.refl _ | exact List.nil_sublist _ | apply List.Sublist.cons_cons | apply List.Sublist.cons)) hh)) ?_ | refine d_pure1 rfl rfl rfl (pure_load (i := 4) rfl rfl rfl rfl rfl rfl) (by first | exact SubMem.refl _ | exact (SubMem.refl _).cons | exact (SubMem.refl _).cons.cons | exact (SubMem.refl _).cons.cons.cons | exact (SubMem.refl _).cons.cons.cons.cons | exact (fun w hh => Has.sublist (by repeat (first | exact List.Sublist.refl _ | exact List.nil_sublist _ | apply List.Sublist.cons_cons | apply List.Sublist.cons)) hh)) ?_ | refine d_pure1 rfl rfl rfl (pure_load (i := 5) rfl rfl rfl rfl rfl rfl) (by first | exact SubMem.refl _ | exact (SubMem.refl _).cons | exact (SubMem.refl _).cons.cons | exact (SubMem.refl _).cons.cons.cons | exact (SubMem.refl _).cons.cons.cons.cons | exact (fun w hh => Has.sublist (by repeat (first | exact List.Sublist.refl _ | exact List.nil_sublist _ | apply List.Sublist.cons_cons | apply List.Sublist.cons)) hh)) ?_
        refine d_pure0 rfl rfl rfl (pure_move rfl) ?_
        refine d_pure0 rfl rfl rfl (pure_move rfl) ?_
        refine d_pure0 rfl rfl rfl (pure_nilCheck rfl) ?_
        refine d_pure0 rfl rfl rfl (pure_fieldAddr rfl rfl rfl rfl rfl (by decide)) ?_
        refine d_wr 3 rfl rfl rfl fun37 rfl rfl (by simp) (fun w' hh kp => hN2 w' kp (hh.cell (e := ⟨bR, [.slice base8 b8.length cap8, .bool l8], 59⟩) (nth_mem (i := 3) rfl) (by simp))) (by rintro v c' m1 ⟨rfl, rfl, rfl⟩; exact fun w hh => Has.sublist (by repeat (first | exact List.Sublist.refl _ | exact List.nil_sublist _ | apply List.Sublist.cons_cons | apply List.Sublist.cons)) hh) rfl ?_
        rintro v c' m1 ⟨rfl, rfl, rfl⟩
        refine d_pure0 rfl rfl rfl (pure_build_struct (pl := [(0, 1), (1, 1)]) rfl zero45 rfl rfl rfl rfl) ?_
        refine d_buildSlice rfl rfl rfl rfl rfl rfl elem45 (by decide) (by decide) (fill_rg lo hi') (by exact fun w hh => Has.sublist (by repeat (first | exact List.Sublist.refl _ | exact List.nil_sublist _ | apply List.Sublist.cons_cons | apply List.Sublist.cons)) hh) rfl (fun b55 => ?_)
        refine d_append 3 rfl rfl rfl rfl rfl hs rfl rfl rfl rfl rfl elem45 rfl (by decide) rfl rfl rfl (src_own (j := 0) (sl_built ty45 45 b55 [.int .i64 lo, .int .i64 hi'] 1 rfl) rfl) (by intro v hv; simp at hv; rcases hv with rfl | rfl <;> rfl) (by omega) (by omega) rfl (fun rb' rc' re' hs' => ?_)
        refine d_pure0 rfl rfl rfl (pure_fieldAddr rfl rfl rfl rfl rfl (by decide)) ?_
        refine d_store 2 rfl rfl rfl rfl rfl rfl rfl rfl rfl rfl (by show 3 < 5; decide) rfl rfl rfl ?_
        refine d_nil ?_
        repeat refine c_seq ?_
        refine c_region ?_
        first | refine step_pure rfl (pure_add64 rfl rfl (by omega) (by omega)) ?_ | refine step_pure rfl (pure_add rfl rfl) ?_
        refine step_pure rfl (pure_move rfl) ?_
        refine step_nil ?_
        refine ⟨(rl + 1, ⟨rb', rl + 1, rc', re'⟩, base9, cap9), ⟨hlt, rfl, ?_, ?_⟩, by dsimp only; omega, ?_⟩
        · dsimp only
          rw [hnx, rgCells_app]
          exact hs'
        · dsimp only
          rw [hnx]
          exact S9'
        · rw [hnx]
          exact less_sub ⟨rfl, rfl, rfl, rfl, rfl, trivial⟩ (List.Sublist.cons _ (List.Sublist.refl _))
      · have hie : rl = c := by have := of_decide_eq_false h; omega
        subst hie
        have hll := rdRs_len q rl
        rw [← eR] at hs S7 hll ⊢
        refine c_exit ⟨((base7, cap7), ⟨rb, rl, rc, re⟩), ⟨S7, by dsimp only; rw [hll]; exact hs⟩, less_of ⟨rfl, rfl, rfl, trivial⟩ (by dsimp only; rw [hll])⟩
    · rw [if_neg (by rw [h]; decide)] at eR
      rw [eR]
      exact c_skip ⟨((base5, cap5), ⟨none, 0, 0, hole⟩), ⟨S5, sl_nil _ _ (by decide)⟩, less_of ⟨rfl, rfl, rfl, trivial⟩ rfl⟩
  clear S5 eR
  obtain ⟨rs, b10, l10⟩ := R
  rintro ⟨⟨base10, cap10⟩, ⟨rb, rl0, rc, re⟩⟩ ⟨S10, hsr⟩
  dsimp only at *
  clear rl0
  repeat refine c_seq ?_
  refine c_region ?_
  refine step_pure rfl (pure_move rfl) ?_
  refine step_nil ?_
  repeat refine c_seq ?_
  refine c_meetx (α := (Option Addr × Nat) × SlS) (fun z => [(0, .pointer (some ⟨bR, 0, none⟩)), (2, .pointer (some ⟨b2, 0, none⟩))])
    (fun z => [z.2.e, ⟨b2, [.int .i64 k, .int .i64 a, .int .i64 bb, .slice rb rs.length rc, .slice z.2.base D.1.length z.2.cap], 33⟩, re, ⟨bR, [.slice z.1.1 D.2.1.length z.1.2, .bool D.2.2], 59⟩])
    (fun z => Src w0 bR z.1.1 z.1.2 D.2.1 ∧ SlIs ty5 5 z.2.e z.2.base D.1.length z.2.cap (row D.1)) ?_ ?_
  · repeat refine c_seq ?_
    refine c_cond rfl (fun h => ?_) (fun h => ?_)
    · rw [if_pos h] at eT
      obtain ⟨base11, cap11, hq11, S11⟩ := S10.drop (gS_le b10 S10.bytes)
      have hN1 := fun w' k hc' => number_at (w' := w') (T := 59) (lost := l10) S10 (k0.trans k fun _ h _ => h) hc' hq11
      have S11' : Src w0 bR base11 cap11 (rdN (b10, l10)).2.1 := S11
      clear S11 hq11
      generalize rdN (b10, l10) = q11 at *
      obtain ⟨nn, b11, l11⟩ := q11
      dsimp only at *
      obtain ⟨base12, cap12, hq12, S12⟩ := S11'.drop (dK_le b11 nn)
      have hN2 := fun w' k hc' => data_at (w' := w') (T := 59) (lost := l11) S11' (k0.trans k fun _ h _ => h) hc' hq12
      have S12' : Src w0 bR base12 cap12 (rdD (b11, l11) nn).2.1 := S12
      have hdl := rdD_len (b11, l11) nn
      clear S12 hq12
      rw [← eT] at hN2 S12' hdl
      dsimp only at hdl
      rw [← hdl] at hN2
      repeat refine c_seq ?_
      refine d_region2 [1, 9, 17, 25, 33, 41, 52, 60, 65, 76] ([]) follows (by kernel_rfl) ?_
      refine d_pure0 rfl rfl rfl (pure_move rfl) ?_
      refine d_pure0 rfl rfl rfl (pure_nilCheck rfl) ?_
      refine d_pure0 rfl rfl rfl (pure_fieldAddr rfl rfl rfl rfl rfl (by decide)) ?_
      refine d_pure0 rfl rfl rfl (pure_move rfl) ?_
      refine d_pure0 rfl rfl rfl (pure_nilCheck rfl) ?_
      refine d_pure0 rfl rfl rfl (pure_fieldAddr rfl rfl rfl rfl rfl (by decide)) ?_
      refine d_wr 3 rfl rfl rfl fun37 rfl rfl (by simp) (fun w' hh kp => hN1 w' kp (hh.cell (e := ⟨bR, [.slice base10 b10.length cap10, .bool l10], 59⟩) (nth_mem (i := 3) rfl) (by simp))) (fun _ _ _ _ _ _ => trivial) rfl ?_
      rintro v c' m1 ⟨rfl, rfl, rfl⟩
      refine d_wr 3 rfl rfl rfl fun38 rfl rfl (by simp) (fun w' hh kp => hN2 w' kp (hh.cell (e := ⟨bR, [.slice base11 b11.length cap11, .bool l11], 59⟩) (nth_mem (i := 3) rfl) (by simp))) (fun _ _ _ _ _ _ => trivial) rfl ?_
      rintro v c' m1 ⟨bd, cd, ed, rfl, rfl, rfl, hsd⟩
      refine d_pure0 rfl rfl rfl (pure_fieldAddr rfl rfl rfl rfl rfl (by decide)) ?_
      refine d_store 2 rfl rfl rfl rfl rfl rfl rfl rfl rfl rfl (by show 4 < 5; decide) rfl rfl rfl ?_
      refine d_nil ?_
      exact ⟨((base12, cap12), ⟨bd, 0, cd, ed⟩), ⟨S12', hsd⟩, less_sub ⟨rfl, rfl, trivial⟩ (List.Sublist.cons_cons _ (List.Sublist.cons _ (List.Sublist.refl _)))⟩
    · rw [if_neg (by rw [h]; decide)] at eT
      rw [eT]
      exact c_skip ⟨((base10, cap10), ⟨none, 0, 0, hole⟩), ⟨S10, sl_nil _ _ (by decide)⟩, less_of ⟨rfl, rfl, trivial⟩ rfl⟩
  clear S10 eT
  obtain ⟨dd, b13, l13⟩ := D
  rintro ⟨⟨base13, cap13⟩, ⟨db, dl0, dc, de⟩⟩ ⟨S13, hsd⟩
  dsimp only at *
  clear dl0
  repeat refine c_seq ?_
  refine c_region ?_
  refine step_pure rfl (pure_fieldAddr rfl rfl rfl rfl rfl (by decide)) ?_
  first | refine step_pure rfl (pure_load (i := 0) rfl rfl rfl rfl rfl rfl) ?_ | refine step_pure rfl (pure_load (i := 1) rfl rfl rfl rfl rfl rfl) ?_ | refine step_pure rfl (pure_load (i := 2) rfl rfl rfl rfl rfl rfl) ?_ | refine step_pure rfl (pure_load (i := 3) rfl rfl rfl rfl rfl rfl) ?_ | refine step_pure rfl (pure_load (i := 4) rfl rfl rfl rfl rfl rfl) ?_ | refine step_pure rfl (pure_load (i := 5) rfl rfl rfl rfl rfl rfl) ?_
  refine step_pure rfl (pure_eql rfl rfl) ?_
  refine step_nil ?_
  repeat refine c_seq ?_
  refine c_meetx (α := Option Addr × Nat) (fun z => [(2, .pointer (some ⟨b2, 0, none⟩))])
    (fun z => [de, ⟨b2, [.int .i64 k, .int .i64 a, .int .i64 bb, .slice rb rs.length rc, .slice db dd.length dc], 33⟩, re, ⟨bR, [.slice z.1 Z.1.length z.2, .bool Z.2], 59⟩])
    (fun z => Src w0 bR z.1 z.2 Z.1) ?_ ?_
  · repeat refine c_seq ?_
    refine c_cond rfl (fun h => ?_) (fun h => ?_)
    · rw [if_pos (eq_of_beq h)] at eZ
      clear h
      obtain ⟨base14, cap14, hq14, S14⟩ := S13.drop (dK_le b13 a)
      have hN2 := fun w' k hc' => data_at (w' := w') (T := 59) (lost := l13) S13 (k0.trans k fun _ h _ => h) hc' hq14
      have S14' : Src w0 bR base14 cap14 (rdD (b13, l13) a).2.1 := S14
      have hdl := rdD_len (b13, l13) a
      clear S14 hq14
      dsimp only at hdl
      rw [← hdl] at hN2
      have hLb : (rdD (b13, l13) a).1.length ≤ 70368744177664 := by
        rw [hdl]
        exact Nat.le_trans (dK_le b13 a) S13.le
      generalize rdD (b13, l13) a = q14 at *
      obtain ⟨L, b14, l14⟩ := q14
      dsimp only at *
      repeat refine c_seq ?_
      refine d_region2 [1, 9, 17, 25, 35, 57, 44, 49] ([⟨b2, [.int .i64 k, .int .i64 a, .int .i64 bb, .slice rb rs.length rc, .slice db dd.length dc], 33⟩]) follows (by kernel_rfl) ?_
      refine d_pure0 rfl rfl rfl (pure_move rfl) ?_
      refine d_pure0 rfl rfl rfl (pure_nilCheck rfl) ?_
      refine d_pure0 rfl rfl rfl (pure_fieldAddr rfl rfl rfl rfl rfl (by decide)) ?_
      refine d_pure0 rfl rfl rfl (pure_fieldAddr rfl rfl rfl rfl rfl (by decide)) ?_
      first | refine d_pure1 rfl rfl rfl (pure_load (i := 0) rfl rfl rfl rfl rfl rfl) (by first | exact SubMem.refl _ | exact (SubMem.refl _).cons | exact (SubMem.refl _).cons.cons | exact (SubMem.refl _).cons.cons.cons | exact (SubMem.refl _).cons.cons.cons.cons | exact (fun w hh => Has.sublist (by repeat (first | exact List.Sublist.refl _ | exact List.nil_sublist _ | apply List.Sublist.cons_cons | apply List.Sublist.cons)) hh)) ?_ | refine d_pure1 rfl rfl rfl (pure_load (i := 1) rfl rfl rfl rfl rfl rfl) (by first | exact SubMem.refl _ | exact (SubMem.refl _).cons | exact (SubMem.refl _).cons.cons | exact (SubMem.refl _).cons.cons.cons | exact (SubMem.refl _).cons.cons.cons.cons | exact (fun w hh => Has.sublist (by repeat (first | exact List.Sublist.refl _ | exact List.nil_sublist _ | apply List.Sublist.cons_cons | apply List.Sublist.cons)) hh)) ?_ | refine d_pure1 rfl rfl rfl (pure_load (i := 2) rfl rfl rfl rfl rfl rfl) (by first | exact SubMem.refl _ | exact (SubMem.refl _).cons | exact (SubMem.refl _).cons.cons | exact (SubMem.refl _).cons.cons.cons | exact (SubMem.refl _).cons.cons.cons.cons | exact (fun w hh => Has.sublist (by repeat (first | exact List.Sublist.refl _ | exact List.nil_sublist _ | apply List.Sublist.cons_cons | apply List.Sublist.cons)) hh)) ?_ | refine d_pure1 rfl rfl rfl (pure_load (i := 3) rfl rfl rfl rfl rfl rfl) (by first | exact SubMem.refl _ | exact (SubMem.refl _).cons | exact (SubMem.refl _).cons.cons | exact (SubMem.refl _).cons.cons.cons | exact (SubMem.refl _).cons.cons.cons.cons | exact (fun w hh => Has.sublist (by repeat (first | exact List.Sublist.refl _ | exact List.nil_sublist _ | apply List.Sublist.cons_cons | apply List.Sublist.cons)) hh)) ?_ | refine d_pure1 rfl rfl rfl (pure_load (i := 4) rfl rfl rfl rfl rfl rfl) (by first | exact SubMem.refl _ | exact (SubMem.refl _).cons | exact (SubMem.refl _).cons.cons | exact (SubMem.refl _).cons.cons.cons | exact (SubMem.refl _).cons.cons.cons.cons | exact (fun w hh => Has.sublist (by repeat (first | exact List.Sublist.refl _ | exact List.nil_sublist _ | apply List.Sublist.cons_cons | apply List.Sublist.cons)) hh)) ?_ | refine d_pure1 rfl rfl rfl (pure_load (i := 5) rfl rfl rfl rfl rfl rfl) (by first | exact SubMem.refl _ | exact (SubMem.refl _).cons | exact (SubMem.refl _).cons.cons | exact (SubMem.refl _).cons.cons.cons | exact (SubMem.refl _).cons.cons.cons.cons | exact (fun w hh => Has.sublist (by repeat (first | exact List.Sublist.refl _ | exact List.nil_sublist _ | apply List.Sublist.cons_cons | apply List.Sublist.cons)) hh)) ?_
      refine d_pure0 rfl rfl rfl (pure_move rfl) ?_
      refine d_wr 3 rfl rfl rfl fun38 rfl rfl (by simp) (fun w' hh kp => hN2 w' kp (hh.cell (e := ⟨bR, [.slice base13 b13.length cap13, .bool l13], 59⟩) (nth_mem (i := 3) rfl) (by simp))) (by rintro v c' m1 ⟨bd, cd, ed, rfl, rfl, rfl, hsd⟩; exact fun w hh => Has.sublist (by repeat (first | exact List.Sublist.refl _ | exact List.nil_sublist _ | apply List.Sublist.cons_cons | apply List.Sublist.cons)) hh) rfl ?_
      rintro v c' m1 ⟨bd, cd, ed, rfl, rfl, rfl, hsl⟩
      refine d_pure0 rfl rfl rfl (pure_len_slice rfl rfl rfl) ?_
      refine d_nil ?_
      repeat refine c_seq ?_
      refine c_block ?_
      repeat refine c_seq ?_
      refine c_loop (α := Nat) (fun i => [(0, .pointer (some ⟨bR, 0, none⟩)), (2, .pointer (some ⟨b2, 0, none⟩)), (77, .slice bd L.length cd), (78, .int .i64 L.length), (79, .int .i64 i)])
        (fun i => [ed, de, ⟨b2, [.int .i64 k, .int .i64 a, .int .i64 bb, .slice rb rs.length rc, .slice db dd.length dc], 33⟩, re, ⟨bR, [.slice base14 b14.length cap14, .bool (l14 || (L.take i).any (· != 0))], 59⟩])
        (fun i => i ≤ L.length) (fun i => L.length - i) 0 (Nat.zero_le _) (less_of ⟨rfl, rfl, rfl, rfl, rfl, trivial⟩ (by simp; rfl)) ?_
      intro i hi
      repeat refine c_seq ?_
      refine c_region ?_
      refine step_pure rfl (pure_lss rfl rfl) ?_
      refine step_nil ?_
      repeat refine c_seq ?_
      refine c_cond rfl (fun h => ?_) (fun h => ?_)
      · have hlt : i < L.length := by have := of_decide_eq_true h; omega
        clear h
        obtain ⟨_, _, be, RR, rfl, rfl, hRR⟩ := slis_form rfl hsl (by omega)
        have hany : (L.take (i + 1)).any (· != 0) = ((L.take i).any (· != 0) || (L.getD i 0 != 0)) := by
          rw [List.take_succ_eq_append_getElem hlt, List.any_append]
          simp [List.getD_eq_getElem?_getD, List.getElem?_eq_getElem hlt]
        have hcell : (row L ++ RR)[i]? = some (.int .u8 (L.getD i 0)) := by rw [List.getElem?_append_left (by rw [row_len]; omega), row_get _ _ hlt]
        generalize (L.take i).any (· != 0) = an at *
        generalize L.getD i 0 = x at *
        refine c_skip ?_
        repeat refine c_seq ?_
        refine c_block ?_
        repeat refine c_seq ?_
        refine c_region ?_
        refine step_pure rfl (pure_ixs (off' := i) rfl rfl rfl rfl rfl (by omega) (by omega) (by show 0 + (i : Int).toNat * 1 = _; omega)) ?_
        refine step_pure rfl (pure_load (i := 0) rfl rfl rfl rfl rfl hcell) ?_
        refine step_pure rfl (pure_assign rfl) ?_
        refine step_nil ?_
        repeat refine c_seq ?_
        refine c_meet [(0, .pointer (some ⟨bR, 0, none⟩)), (2, .pointer (some ⟨b2, 0, none⟩)), (77, .slice (some ⟨be, 0, none⟩) L.length cd), (78, .int .i64 L.length), (79, .int .i64 i)]
          [⟨be, row L ++ RR, 5⟩, de, ⟨b2, [.int .i64 k, .int .i64 a, .int .i64 bb, .slice rb rs.length rc, .slice db dd.length dc], 33⟩, re, ⟨bR, [.slice base14 b14.length cap14, .bool (l14 || (an || (x != 0)))], 59⟩] ?_ ?_
        · repeat refine c_seq ?_
          refine c_region ?_
          refine step_pure rfl (pure_move rfl) ?_
          refine step_pure rfl (pure_move rfl) ?_
          refine step_pure rfl (pure_nilCheck rfl) ?_
          refine step_pure rfl (pure_fieldAddr rfl rfl rfl rfl rfl (by decide)) ?_
          refine step_pure rfl (pure_fieldAddr rfl rfl rfl rfl rfl (by decide)) ?_
          first | refine step_pure rfl (pure_load (i := 0) rfl rfl rfl rfl rfl rfl) ?_ | refine step_pure rfl (pure_load (i := 1) rfl rfl rfl rfl rfl rfl) ?_ | refine step_pure rfl (pure_load (i := 2) rfl rfl rfl rfl rfl rfl) ?_ | refine step_pure rfl (pure_load (i := 3) rfl rfl rfl rfl rfl rfl) ?_ | refine step_pure rfl (pure_load (i := 4) rfl rfl rfl rfl rfl rfl) ?_ | refine step_pure rfl (pure_load (i := 5) rfl rfl rfl rfl rfl rfl) ?_
          refine step_pure rfl (pure_move rfl) ?_
          refine step_split (t := 89) rfl (fun h89 => ?_) (fun h89 => ?_)
          · refine step_pass rfl rfl rfl ?_
            refine step_pass rfl rfl rfl ?_
            refine step_pure rfl (pure_pick_yes rfl rfl) ?_
            refine step_pure rfl (pure_nilCheck rfl) ?_
            refine step_pure rfl (pure_fieldAddr rfl rfl rfl rfl rfl (by decide)) ?_
            refine step_pure rfl (pure_fieldAddr rfl rfl rfl rfl rfl (by decide)) ?_
            refine step_store 4 rfl rfl rfl rfl rfl rfl rfl rfl (by show 1 < 2; decide) rfl ?_
            refine step_nil ?_
            refine less_of ⟨rfl, rfl, rfl, rfl, rfl, trivial⟩ (congrArg (fun y => [Ent.mk be (row L ++ RR) 5, de, ⟨b2, [.int .i64 k, .int .i64 a, .int .i64 bb, .slice rb rs.length rc, .slice db dd.length dc], 33⟩, re, ⟨bR, [.slice base14 b14.length cap14, .bool y], 59⟩]) ?_)
            clear hany eZ hsl hN2 hcell S14' hsd hsr S
            revert h89
            cases l14 <;> cases an <;> simp
          · refine step_pure rfl (pure_move rfl) ?_
            refine step_pure rfl (pure_neq rfl rfl) ?_
            refine step_pure rfl (pure_pick_no rfl rfl) ?_
            refine step_pure rfl (pure_nilCheck rfl) ?_
            refine step_pure rfl (pure_fieldAddr rfl rfl rfl rfl rfl (by decide)) ?_
            refine step_pure rfl (pure_fieldAddr rfl rfl rfl rfl rfl (by decide)) ?_
            refine step_store 4 rfl rfl rfl rfl rfl rfl rfl rfl (by show 1 < 2; decide) rfl ?_
            refine step_nil ?_
            refine less_of ⟨rfl, rfl, rfl, rfl, rfl, trivial⟩ (congrArg (fun y => [Ent.mk be (row L ++ RR) 5, de, ⟨b2, [.int .i64 k, .int .i64 a, .int .i64 bb, .slice rb rs.length rc, .slice db dd.length dc], 33⟩, re, ⟨bR, [.slice base14 b14.length cap14, .bool y], 59⟩]) ?_)
            clear hany eZ hsl hN2 hcell S14' hsd hsr S
            revert h89
            cases l14 <;> cases an <;> simp
        repeat refine c_seq ?_
        refine c_region ?_
        first | refine step_pure rfl (pure_add64 rfl rfl (by omega) (by omega)) ?_ | refine step_pure rfl (pure_add rfl rfl) ?_
        refine step_pure rfl (pure_move rfl) ?_
        refine step_nil ?_
        exact ⟨i + 1, hlt, by omega, less_of ⟨rfl, rfl, rfl, rfl, rfl, trivial⟩ (by rw [hany])⟩
      · have hie : i = L.length := by have := of_decide_eq_false h; omega
        clear h
        rw [hie, List.take_length]
        refine c_exit ⟨(base14, cap14), ?_, ?_⟩
        · dsimp only
          rw [eZ]
          exact S14'
        · rw [eZ]
          exact less_sub ⟨rfl, trivial⟩ (List.Sublist.cons _ (List.Sublist.refl _))
    · rw [if_neg (ne_of_beq_false h)] at eZ
      rw [eZ]
      exact c_skip ⟨(base13, cap13), S13, less_of ⟨rfl, trivial⟩ rfl⟩
  clear S13 eZ
  rintro ⟨base15, cap15⟩ S15
  dsimp only at *
  repeat refine c_seq ?_
  refine c_region ?_
  refine step_pure rfl (pure_load_agg (i := 1) rfl rfl rfl rfl rfl (by show 5 ≤ 5; decide) rfl) ?_
  refine step_store_agg 1 rfl rfl rfl (by intro v hv; simp at hv; rcases hv with rfl | rfl | rfl | rfl | rfl <;> rfl) rfl rfl rfl rfl (by show 5 ≤ 5; decide) (splice_all rfl) ?_
  refine step_nil ?_
  exact c_ret ⟨_, res_cell_agg (i := 1) Try.results31 rfl rfl rfl rfl rfl (by show 5 ≤ 5; decide) rfl, [.slice base15 Z.1.length cap15, .bool Z.2], [de, re], (by repeat (first | exact List.Sublist.refl _ | exact List.nil_sublist _ | apply List.Sublist.cons_cons | apply List.Sublist.cons)), by simp, rb, rc, re, db, dc, de, base15, cap15, rfl, rfl, rfl, hsr, hsd, S15⟩
end Go.Proofs.Ytphpmallnlajjaa
