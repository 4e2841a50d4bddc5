/- What a reader reads: a frame, walked. -/
import Derived.Test.YthieegnhjoehbaaFC
import Derived.Test.YthieegnhjoehbaaVy
import Derived.Laws.StructEq
namespace Go.Proofs.Ythieegnhjoehbaa
open Go.RowKit Go.Vc
set_option linter.unusedVariables false
theorem rowOf_rg : rowOf [Value.int .i64 0, .int .i64 0] (1 * 2) = [.int .i64 0, .int .i64 0] := by kernel_rfl
theorem fill_rg (lo hi : Int) : fillL (fun i => some (i * ty110.size, ty110.size)) (rowOf [.int .i64 0, .int .i64 0] (1 * ty110.size)) [(0, .agg [Value.int .i64 lo, .int .i64 hi].toArray)] = some [.int .i64 lo, .int .i64 hi] := by
 rw [show 1 * ty110.size = 1 * 2 from rfl, rowOf_rg]
 rfl
theorem rgCells_app (a b : List (Int × Int)) : rgCells (a ++ b) = rgCells a ++ rgCells b := List.flatMap_append ..
theorem rdD_len (s : St) (n : Int) : (rdD s n).1.length = dK s.1 n := by
 show (s.1.take (dK s.1 n)).length = _
 rw [List.length_take]
 have := dK_le s.1 n
 omega
abbrev FV (v : Value) (f : Fr) (rb : Option Addr) (rc : Nat) (db : Option Addr) (dc : Nat) : Prop := v = .agg [Value.int .i64 f.kind, .int .i64 f.a, .int .i64 f.b, .slice rb f.rs.length rc, .slice db f.data.length dc].toArray
set_option maxHeartbeats 4000000 in
theorem frame_any (b : List Int) (lost : Bool) (base : Option Addr) (cap bR : Nat) (w0 w : World) (S : Src w0 bR base cap b) (k0 : Keep w0 w [bR])
  (hc : w.heap[bR]? = some (.cells [Value.slice base b.length cap, Value.bool lost].toArray 100 (0, 0))) :
  Wr tb 57 [.pointer (some ⟨bR, 0, none⟩)] w bR 100 (fun v c' m1 => ∃ rb rc er db dc ed base' cap', FV v (rdFrame (b, lost)) rb rc db dc ∧
   c' = [.slice base' (rdZ (b, lost)).1.length cap', .bool (rdZ (b, lost)).2] ∧ m1 = [ed, er] ∧ SlIs ty110 110 er rb (rdFrame (b, lost)).rs.length rc (rgCells (rdFrame (b, lost)).rs) ∧
   SlIs ty5 5 ed db (rdFrame (b, lost)).data.length dc (row (rdFrame (b, lost)).data) ∧ Src w0 bR base' cap' (rdZ (b, lost)).1) := by
 refine wr_of (fn := Try.f57) Try.func57 rfl Try.ntmps57 rfl hc ?_
 have eA : rdA (b, lost) = if (rdN (b, lost)).1 = 1 then (0, (rdN (b, lost)).2) else rdN (rdN (b, lost)).2 := rfl
 have eB : rdB (b, lost) = if wantB (rdN (b, lost)).1 = true then rdN (rdA (b, lost)).2 else (0, (rdA (b, lost)).2) := rfl
 have eR : rdR (b, lost) = if wantR (rdN (b, lost)).1 = true then rdRs (rdN (rdB (b, lost)).2).2 (min (rdN (rdB (b, lost)).2).1 17).toNat else ([], (rdB (b, lost)).2) := rfl
 have eT : rdT (b, lost) = if wantD (rdN (b, lost)).1 = true then rdD (rdN (rdR (b, lost)).2).2 (rdN (rdR (b, lost)).2).1 else ([], (rdR (b, lost)).2) := rfl
 have eZ : rdZ (b, lost) = if (rdN (b, lost)).1 = 0 then ((rdD (rdT (b, lost)).2 (rdA (b, lost)).1).2.1, (rdD (rdT (b, lost)).2 (rdA (b, lost)).1).2.2 || (rdD (rdT (b, lost)).2 (rdA (b, lost)).1).1.any (· != 0)) else (rdT (b, lost)).2 := rfl
 unfold rdFrame
 obtain ⟨base1, cap1, hq1, S1⟩ := S.drop (gS_le b S.bytes)
 have hN := fun w' k hc' => number_at (w' := w') (T := 100) (lost := lost) S (k0.trans k fun _ h _ => h) hc' hq1
 have S1' : Src w0 bR base1 cap1 (rdN (b, lost)).2.1 := S1
 clear S1 hq1
 generalize rdN (b, lost) = N at *
 generalize rdA (b, lost) = A at *
 generalize rdB (b, lost) = B at *
 generalize rdR (b, lost) = R at *
 generalize rdT (b, lost) = D at *
 generalize rdZ (b, lost) = Z at *
 obtain ⟨k, b1, l1⟩ := N
 dsimp only at *
 repeat refine c_seq ?_
 refine c_region ?_
 refine step_hole ?_
 refine step_alloc rfl zero59 (fun b2 => ?_)
 refine step_hole ?_
 refine step_nil ?_
 repeat refine c_seq ?_
 refine c_region ?_
 refine qm rfl rfl ?_
 refine step_pure rfl (pure_nilCheck rfl) ?_
 refine step_pure rfl (pure_fieldAddr rfl rfl rfl rfl rfl (by decide)) ?_
 refine step_wr 3 rfl fun81 rfl rfl (by simp) (fun w' hh kp => hN w' kp (hh.cell (e := ⟨bR, [.slice base b.length cap, .bool lost], 100⟩) (nth_mem (i := 3) rfl) (by simp))) ?_
 rintro v c' m1 ⟨rfl, rfl, rfl⟩
 refine step_pure rfl (pure_fieldAddr rfl rfl rfl rfl rfl (by decide)) ?_
 refine step_store 1 rfl rfl rfl rfl rfl rfl rfl rfl (by show 0 < 5; decide) rfl ?_
 refine step_nil ?_
 repeat refine c_seq ?_
 refine c_region ?_
 refine step_pure rfl (pure_fieldAddr rfl rfl rfl rfl rfl (by decide)) ?_
 refine step_pure rfl (pure_load (i := 1) rfl rfl rfl rfl rfl rfl) ?_
 refine step_gives rfl fun61 rfl (fun w _ _ => wants_any _ w) ?_
 refine qm rfl rfl ?_
 refine qx rfl rfl rfl ?_
 refine qx rfl rfl rfl ?_
 refine qx rfl rfl rfl ?_
 refine qa rfl rfl ?_
 refine qa rfl rfl ?_
 refine qa rfl rfl ?_
 refine step_nil ?_
 repeat refine c_seq ?_
 refine c_region ?_
 refine step_pure rfl (pure_fieldAddr rfl rfl rfl rfl rfl (by decide)) ?_
 refine step_pure rfl (pure_load (i := 1) rfl rfl rfl rfl rfl rfl) ?_
 refine step_pure rfl (pure_neq rfl rfl) ?_
 refine step_nil ?_
 clear hN
 generalize wantB k = wb at *
 generalize wantR k = wr at *
 generalize wantD k = wd at *
 repeat refine c_seq ?_
 refine c_meetx (α := Option Addr × Nat) (fun z => [(0, .pointer (some ⟨bR, 0, none⟩)), (2, .pointer (some ⟨b2, 0, none⟩)), (3, .bool wb), (4, .bool wr), (5, .bool wd)])
  (fun z => [hole, ⟨b2, [.int .i64 k, .int .i64 A.1, .int .i64 0, .slice none 0 0, .slice none 0 0], 59⟩, hole, ⟨bR, [.slice z.1 A.2.1.length z.2, .bool A.2.2], 100⟩])
  (fun z => Src w0 bR z.1 z.2 A.2.1) ?_ ?_
 ·repeat refine c_seq ?_
  refine c_cond rfl (fun h => ?_) (fun h => ?_)
  ·rw [if_neg (by simpa using h)] at eA
   obtain ⟨base2, cap2, hq2, S2⟩ := S1'.drop (gS_le b1 S1'.bytes)
   have hN := fun w' k hc' => number_at (w' := w') (T := 100) (lost := l1) S1' (k0.trans k fun _ h _ => h) hc' hq2
   have S2' : Src w0 bR base2 cap2 (rdN (b1, l1)).2.1 := S2
   rw [← eA] at hN S2'
   repeat refine c_seq ?_
   refine c_region ?_
   refine qm rfl rfl ?_
   refine step_pure rfl (pure_nilCheck rfl) ?_
   refine step_pure rfl (pure_fieldAddr rfl rfl rfl rfl rfl (by decide)) ?_
   refine step_wr 3 rfl fun81 rfl rfl (by simp) (fun w' hh kp => hN w' kp (hh.cell (e := ⟨bR, [.slice base1 b1.length cap1, .bool l1], 100⟩) (nth_mem (i := 3) rfl) (by simp))) ?_
   rintro v c' m1 ⟨rfl, rfl, rfl⟩
   refine step_pure rfl (pure_fieldAddr rfl rfl rfl rfl rfl (by decide)) ?_
   refine step_store 1 rfl rfl rfl rfl rfl rfl rfl rfl (by show 1 < 5; decide) rfl ?_
   refine step_nil ?_
   exact ⟨(base2, cap2), S2', less_of ⟨rfl, rfl, rfl, rfl, rfl, trivial⟩ rfl⟩
  ·rw [if_pos (by simpa using h)] at eA
   rw [eA]
   exact c_skip ⟨(base1, cap1), S1', less_of ⟨rfl, rfl, rfl, rfl, rfl, trivial⟩ rfl⟩
 clear S1' eA
 obtain ⟨a, b3, l3⟩ := A
 rintro ⟨base3, cap3⟩ S3
 dsimp only at *
 repeat refine c_seq ?_
 refine c_region ?_
 refine qm rfl rfl ?_
 refine step_nil ?_
 repeat refine c_seq ?_
 refine c_meetx (α := Option Addr × Nat) (fun z => [(0, .pointer (some ⟨bR, 0, none⟩)), (2, .pointer (some ⟨b2, 0, none⟩)), (4, .bool wr), (5, .bool wd)])
  (fun z => [hole, ⟨b2, [.int .i64 k, .int .i64 a, .int .i64 B.1, .slice none 0 0, .slice none 0 0], 59⟩, hole, ⟨bR, [.slice z.1 B.2.1.length z.2, .bool B.2.2], 100⟩])
  (fun z => Src w0 bR z.1 z.2 B.2.1) ?_ ?_
 ·repeat refine c_seq ?_
  refine c_cond rfl (fun h => ?_) (fun h => ?_)
  ·rw [if_pos h] at eB
   obtain ⟨base4, cap4, hq4, S4⟩ := S3.drop (gS_le b3 S3.bytes)
   have hN := fun w' k hc' => number_at (w' := w') (T := 100) (lost := l3) S3 (k0.trans k fun _ h _ => h) hc' hq4
   have S4' : Src w0 bR base4 cap4 (rdN (b3, l3)).2.1 := S4
   rw [← eB] at hN S4'
   repeat refine c_seq ?_
   refine c_region ?_
   refine qm rfl rfl ?_
   refine step_pure rfl (pure_nilCheck rfl) ?_
   refine step_pure rfl (pure_fieldAddr rfl rfl rfl rfl rfl (by decide)) ?_
   refine step_wr 3 rfl fun81 rfl rfl (by simp) (fun w' hh kp => hN w' kp (hh.cell (e := ⟨bR, [.slice base3 b3.length cap3, .bool l3], 100⟩) (nth_mem (i := 3) rfl) (by simp))) ?_
   rintro v c' m1 ⟨rfl, rfl, rfl⟩
   refine step_pure rfl (pure_fieldAddr rfl rfl rfl rfl rfl (by decide)) ?_
   refine step_store 1 rfl rfl rfl rfl rfl rfl rfl rfl (by show 2 < 5; decide) rfl ?_
   refine step_nil ?_
   exact ⟨(base4, cap4), S4', less_of ⟨rfl, rfl, rfl, rfl, trivial⟩ rfl⟩
  ·rw [if_neg (by rw [h]; decide)] at eB
   rw [eB]
   exact c_skip ⟨(base3, cap3), S3, less_of ⟨rfl, rfl, rfl, rfl, trivial⟩ rfl⟩
 clear S3 eB
 obtain ⟨bb, b5, l5⟩ := B
 rintro ⟨base5, cap5⟩ S5
 dsimp only at *
 repeat refine c_seq ?_
 refine c_region ?_
 refine qm rfl rfl ?_
 refine step_nil ?_
 repeat refine c_seq ?_
 refine c_meetx (α := (Option Addr × Nat) × SlS) (fun z => [(0, .pointer (some ⟨bR, 0, none⟩)), (2, .pointer (some ⟨b2, 0, none⟩)), (5, .bool wd)])
  (fun z => [hole, ⟨b2, [.int .i64 k, .int .i64 a, .int .i64 bb, .slice z.2.base R.1.length z.2.cap, .slice none 0 0], 59⟩, z.2.e, ⟨bR, [.slice z.1.1 R.2.1.length z.1.2, .bool R.2.2], 100⟩])
  (fun z => Src w0 bR z.1.1 z.1.2 R.2.1 ∧ SlIs ty110 110 z.2.e z.2.base R.1.length z.2.cap (rgCells R.1)) ?_ ?_
 ·repeat refine c_seq ?_
  refine c_cond rfl (fun h => ?_) (fun h => ?_)
  ·rw [if_pos h] at eR
   obtain ⟨base6, cap6, hq6, S6⟩ := S5.drop (gS_le b5 S5.bytes)
   have hN := fun w' k hc' => number_at (w' := w') (T := 100) (lost := l5) S5 (k0.trans k fun _ h _ => h) hc' hq6
   have S6' : Src w0 bR base6 cap6 (rdN (b5, l5)).2.1 := S6
   have hm0 : 0 ≤ (rdN (b5, l5)).1 := gN_nonneg b5 S5.bytes
   clear S6 hq6
   generalize rdN (b5, l5) = q at *
   obtain ⟨mm, q⟩ := q
   dsimp only at *
   obtain ⟨c, hcc⟩ : ∃ c : Nat, min mm 17 = c := ⟨(min mm 17).toNat, by omega⟩
   have hc17 : c ≤ 17 := by omega
   rw [hcc, Int.toNat_natCast] at eR
   repeat refine c_seq ?_
   refine c_region ?_
   refine qm rfl rfl ?_
   refine step_pure rfl (pure_nilCheck rfl) ?_
   refine step_pure rfl (pure_fieldAddr rfl rfl rfl rfl rfl (by decide)) ?_
   refine step_wr 3 rfl fun81 rfl rfl (by simp) (fun w' hh kp => hN w' kp (hh.cell (e := ⟨bR, [.slice base5 b5.length cap5, .bool l5], 100⟩) (nth_mem (i := 3) rfl) (by simp))) ?_
   rintro v c' m1 ⟨rfl, rfl, rfl⟩
   refine step_as rfl (pure_min rfl rfl) (show _ = Value.int .i64 c from by rw [hcc]) ?_
   refine qm rfl rfl ?_
   refine step_nil ?_
   clear hN
   repeat refine c_seq ?_
   refine c_block ?_
   repeat refine c_seq ?_
   refine c_loop (α := Nat × SlS × Option Addr × Nat) (fun x => [(0, .pointer (some ⟨bR, 0, none⟩)), (2, .pointer (some ⟨b2, 0, none⟩)), (5, .bool wd), (40, .int .i64 c), (41, .int .i64 x.1)])
    (fun x => [hole, ⟨b2, [.int .i64 k, .int .i64 a, .int .i64 bb, .slice x.2.1.base x.2.1.len x.2.1.cap, .slice none 0 0], 59⟩, x.2.1.e, ⟨bR, [.slice x.2.2.1 (rdRs q x.1).2.1.length x.2.2.2, .bool (rdRs q x.1).2.2], 100⟩])
    (fun x => x.1 ≤ c ∧ x.2.1.len = x.1 ∧ SlIs ty110 110 x.2.1.e x.2.1.base x.2.1.len x.2.1.cap (rgCells (rdRs q x.1).1) ∧ Src w0 bR x.2.2.1 x.2.2.2 (rdRs q x.1).2.1) (fun x => c - x.1) (0, ⟨none, 0, 0, hole⟩, base6, cap6)
    ⟨Nat.zero_le _, rfl, sl_nil _ _ (by decide), S6'⟩ (less_of ⟨rfl, rfl, rfl, rfl, rfl, trivial⟩ rfl) ?_
   rintro ⟨i, ⟨rb, rl, rc, re⟩, base7, cap7⟩ ⟨hi, hrl, hs, S7⟩
   dsimp only at hi hrl hs S7 ⊢
   subst hrl
   have hnx : rdRs q (rl + 1) = ((rdRs q rl).1 ++ [((rdN (rdRs q rl).2).1, (rdN (rdN (rdRs q rl).2).2).1)], (rdN (rdN (rdRs q rl).2).2).2) := rfl
   repeat refine c_seq ?_
   refine c_region ?_
   refine step_pure rfl (pure_lss rfl rfl) ?_
   refine step_nil ?_
   repeat refine c_seq ?_
   refine c_cond rfl (fun h => ?_) (fun h => ?_)
   ·have hlt : rl < c := by have := of_decide_eq_true h; omega
    clear h
    generalize rdRs q rl = q7 at *
    obtain ⟨rs7, b7, l7⟩ := q7
    dsimp only at *
    obtain ⟨base8, cap8, hq8, S8⟩ := S7.drop (gS_le b7 S7.bytes)
    have hN1 := fun w' k hc' => number_at (w' := w') (T := 100) (lost := l7) S7 (k0.trans k fun _ h _ => h) hc' hq8
    have S8' : Src w0 bR base8 cap8 (rdN (b7, l7)).2.1 := S8
    clear S8 hq8
    generalize rdN (b7, l7) = q8 at *
    obtain ⟨lo, b8, l8⟩ := q8
    dsimp only at *
    obtain ⟨base9, cap9, hq9, S9⟩ := S8'.drop (gS_le b8 S8'.bytes)
    have hN2 := fun w' k hc' => number_at (w' := w') (T := 100) (lost := l8) S8' (k0.trans k fun _ h _ => h) hc' hq9
    have S9' : Src w0 bR base9 cap9 (rdN (b8, l8)).2.1 := S9
    clear S9 hq9
    generalize rdN (b8, l8) = q9 at *
    obtain ⟨hi', b9, l9⟩ := q9
    dsimp only at *
    refine c_skip ?_
    repeat refine c_seq ?_
    refine c_block ?_
    repeat refine c_seq ?_
    refine c_region ?_
    refine qm rfl rfl ?_
    refine step_pure rfl (pure_nilCheck rfl) ?_
    refine step_pure rfl (pure_fieldAddr rfl rfl rfl rfl rfl (by decide)) ?_
    refine step_wr 3 rfl fun81 rfl rfl (by simp) (fun w' hh kp => hN1 w' kp (hh.cell (e := ⟨bR, [.slice base7 b7.length cap7, .bool l7], 100⟩) (nth_mem (i := 3) rfl) (by simp))) ?_
    rintro v c' m1 ⟨rfl, rfl, rfl⟩
    refine qa rfl rfl ?_
    refine step_nil ?_
    repeat refine c_seq ?_
    refine d_region2 [1, 11, 17, 25, 33, 41, 53, 57, 69, 76, 81, 92] ([⟨b2, [.int .i64 k, .int .i64 a, .int .i64 bb, .slice rb rl rc, .slice none 0 0], 59⟩]) follows (by kernel_rfl) ?_
    refine d_pure0 rfl rfl rfl (pure_fieldAddr rfl rfl rfl rfl rfl (by decide)) ?_
    refine d_pure1 rfl rfl rfl (pure_load (i := 0) rfl rfl rfl rfl rfl rfl) (by exact (fun w hh => Has.sublist (by repeat (first | exact List.Sublist.refl _ | exact List.nil_sublist _ | apply List.Sublist.cons_cons | apply List.Sublist.cons)) hh)) ?_
    refine qd rfl rfl rfl rfl ?_
    refine qd rfl rfl rfl rfl ?_
    refine d_pure0 rfl rfl rfl (pure_nilCheck rfl) ?_
    refine d_pure0 rfl rfl rfl (pure_fieldAddr rfl rfl rfl rfl rfl (by decide)) ?_
    refine d_wr 3 rfl rfl rfl fun81 rfl rfl (by simp) (fun w' hh kp => hN2 w' kp (hh.cell (e := ⟨bR, [.slice base8 b8.length cap8, .bool l8], 100⟩) (nth_mem (i := 3) rfl) (by simp))) (by rintro v c' m1 ⟨rfl, rfl, rfl⟩; exact fun w hh => Has.sublist (by repeat (first | exact List.Sublist.refl _ | exact List.nil_sublist _ | apply List.Sublist.cons_cons | apply List.Sublist.cons)) hh) rfl ?_
    rintro v c' m1 ⟨rfl, rfl, rfl⟩
    refine d_pure0 rfl rfl rfl (pure_build_struct (pl := [(0, 1), (1, 1)]) rfl zero110 rfl rfl rfl rfl) ?_
    refine d_buildSlice rfl rfl rfl rfl rfl rfl elem110 (by decide) (by decide) (fill_rg lo hi') (by exact fun w hh => Has.sublist (by repeat (first | exact List.Sublist.refl _ | exact List.nil_sublist _ | apply List.Sublist.cons_cons | apply List.Sublist.cons)) hh) rfl (fun b55 => ?_)
    refine d_append 3 rfl rfl rfl rfl rfl hs rfl rfl rfl rfl rfl elem110 rfl (by decide) rfl rfl rfl (src_own (j := 0) (sl_built ty110 110 b55 [.int .i64 lo, .int .i64 hi'] 1 rfl) rfl) (by intro v hv; simp at hv; rcases hv with rfl | rfl <;> rfl) (by omega) (by omega) rfl (fun rb' rc' re' hs' => ?_)
    refine d_pure0 rfl rfl rfl (pure_fieldAddr rfl rfl rfl rfl rfl (by decide)) ?_
    refine d_store 2 rfl rfl rfl rfl rfl rfl rfl rfl rfl rfl (by show 3 < 5; decide) rfl rfl rfl ?_
    refine d_nil ?_
    repeat refine c_seq ?_
    refine c_region ?_
    refine step_pure rfl (pure_add64 rfl rfl (by omega) (by omega)) ?_
    refine qm rfl rfl ?_
    refine step_nil ?_
    refine ⟨(rl + 1, ⟨rb', rl + 1, rc', re'⟩, base9, cap9), ⟨hlt, rfl, ?_, ?_⟩, by dsimp only; omega, ?_⟩
    ·dsimp only
     rw [hnx, rgCells_app]
     exact hs'
    ·dsimp only
     rw [hnx]
     exact S9'
    ·rw [hnx]
     exact less_sub ⟨rfl, rfl, rfl, rfl, rfl, trivial⟩ (List.Sublist.cons _ (List.Sublist.refl _))
   ·have hie : rl = c := by have := of_decide_eq_false h; omega
    subst hie
    have hll := rdRs_len q rl
    rw [← eR] at hs S7 hll ⊢
    refine c_exit ⟨((base7, cap7), ⟨rb, rl, rc, re⟩), ⟨S7, by dsimp only; rw [hll]; exact hs⟩, less_of ⟨rfl, rfl, rfl, trivial⟩ (by dsimp only; rw [hll])⟩
  ·rw [if_neg (by rw [h]; decide)] at eR
   rw [eR]
   exact c_skip ⟨((base5, cap5), ⟨none, 0, 0, hole⟩), ⟨S5, sl_nil _ _ (by decide)⟩, less_of ⟨rfl, rfl, rfl, trivial⟩ rfl⟩
 clear S5 eR
 obtain ⟨rs, b10, l10⟩ := R
 rintro ⟨⟨base10, cap10⟩, ⟨rb, rl0, rc, re⟩⟩ ⟨S10, hsr⟩
 dsimp only at *
 clear rl0
 repeat refine c_seq ?_
 refine c_region ?_
 refine qm rfl rfl ?_
 refine step_nil ?_
 repeat refine c_seq ?_
 refine c_meetx (α := (Option Addr × Nat) × SlS) (fun z => [(0, .pointer (some ⟨bR, 0, none⟩)), (2, .pointer (some ⟨b2, 0, none⟩))])
  (fun z => [z.2.e, ⟨b2, [.int .i64 k, .int .i64 a, .int .i64 bb, .slice rb rs.length rc, .slice z.2.base D.1.length z.2.cap], 59⟩, re, ⟨bR, [.slice z.1.1 D.2.1.length z.1.2, .bool D.2.2], 100⟩])
  (fun z => Src w0 bR z.1.1 z.1.2 D.2.1 ∧ SlIs ty5 5 z.2.e z.2.base D.1.length z.2.cap (row D.1)) ?_ ?_
 ·repeat refine c_seq ?_
  refine c_cond rfl (fun h => ?_) (fun h => ?_)
  ·rw [if_pos h] at eT
   obtain ⟨base11, cap11, hq11, S11⟩ := S10.drop (gS_le b10 S10.bytes)
   have hN1 := fun w' k hc' => number_at (w' := w') (T := 100) (lost := l10) S10 (k0.trans k fun _ h _ => h) hc' hq11
   have S11' : Src w0 bR base11 cap11 (rdN (b10, l10)).2.1 := S11
   clear S11 hq11
   generalize rdN (b10, l10) = q11 at *
   obtain ⟨nn, b11, l11⟩ := q11
   dsimp only at *
   obtain ⟨base12, cap12, hq12, S12⟩ := S11'.drop (dK_le b11 nn)
   have hN2 := fun w' k hc' => data_at (w' := w') (T := 100) (lost := l11) S11' (k0.trans k fun _ h _ => h) hc' hq12
   have S12' : Src w0 bR base12 cap12 (rdD (b11, l11) nn).2.1 := S12
   have hdl := rdD_len (b11, l11) nn
   clear S12 hq12
   rw [← eT] at hN2 S12' hdl
   dsimp only at hdl
   rw [← hdl] at hN2
   repeat refine c_seq ?_
   refine d_region2 [1, 9, 17, 25, 33, 41, 52, 60, 65, 76] ([]) follows (by kernel_rfl) ?_
   refine qd rfl rfl rfl rfl ?_
   refine d_pure0 rfl rfl rfl (pure_nilCheck rfl) ?_
   refine d_pure0 rfl rfl rfl (pure_fieldAddr rfl rfl rfl rfl rfl (by decide)) ?_
   refine qd rfl rfl rfl rfl ?_
   refine d_pure0 rfl rfl rfl (pure_nilCheck rfl) ?_
   refine d_pure0 rfl rfl rfl (pure_fieldAddr rfl rfl rfl rfl rfl (by decide)) ?_
   refine d_wr 3 rfl rfl rfl fun81 rfl rfl (by simp) (fun w' hh kp => hN1 w' kp (hh.cell (e := ⟨bR, [.slice base10 b10.length cap10, .bool l10], 100⟩) (nth_mem (i := 3) rfl) (by simp))) (fun _ _ _ _ _ _ => trivial) rfl ?_
   rintro v c' m1 ⟨rfl, rfl, rfl⟩
   refine d_wr 3 rfl rfl rfl fun82 rfl rfl (by simp) (fun w' hh kp => hN2 w' kp (hh.cell (e := ⟨bR, [.slice base11 b11.length cap11, .bool l11], 100⟩) (nth_mem (i := 3) rfl) (by simp))) (fun _ _ _ _ _ _ => trivial) rfl ?_
   rintro v c' m1 ⟨bd, cd, ed, rfl, rfl, rfl, hsd⟩
   refine d_pure0 rfl rfl rfl (pure_fieldAddr rfl rfl rfl rfl rfl (by decide)) ?_
   refine d_store 2 rfl rfl rfl rfl rfl rfl rfl rfl rfl rfl (by show 4 < 5; decide) rfl rfl rfl ?_
   refine d_nil ?_
   exact ⟨((base12, cap12), ⟨bd, 0, cd, ed⟩), ⟨S12', hsd⟩, less_sub ⟨rfl, rfl, trivial⟩ (List.Sublist.cons_cons _ (List.Sublist.cons _ (List.Sublist.refl _)))⟩
  ·rw [if_neg (by rw [h]; decide)] at eT
   rw [eT]
   exact c_skip ⟨((base10, cap10), ⟨none, 0, 0, hole⟩), ⟨S10, sl_nil _ _ (by decide)⟩, less_of ⟨rfl, rfl, trivial⟩ rfl⟩
 clear S10 eT
 obtain ⟨dd, b13, l13⟩ := D
 rintro ⟨⟨base13, cap13⟩, ⟨db, dl0, dc, de⟩⟩ ⟨S13, hsd⟩
 dsimp only at *
 clear dl0
 repeat refine c_seq ?_
 refine c_region ?_
 refine step_pure rfl (pure_fieldAddr rfl rfl rfl rfl rfl (by decide)) ?_
 refine step_pure rfl (pure_load (i := 1) rfl rfl rfl rfl rfl rfl) ?_
 refine step_pure rfl (pure_eql rfl rfl) ?_
 refine step_nil ?_
 repeat refine c_seq ?_
 refine c_meetx (α := Option Addr × Nat) (fun z => [(2, .pointer (some ⟨b2, 0, none⟩))])
  (fun z => [de, ⟨b2, [.int .i64 k, .int .i64 a, .int .i64 bb, .slice rb rs.length rc, .slice db dd.length dc], 59⟩, re, ⟨bR, [.slice z.1 Z.1.length z.2, .bool Z.2], 100⟩])
  (fun z => Src w0 bR z.1 z.2 Z.1) ?_ ?_
 ·repeat refine c_seq ?_
  refine c_cond rfl (fun h => ?_) (fun h => ?_)
  ·rw [if_pos (eq_of_beq h)] at eZ
   clear h
   obtain ⟨base14, cap14, hq14, S14⟩ := S13.drop (dK_le b13 a)
   have hN2 := fun w' k hc' => data_at (w' := w') (T := 100) (lost := l13) S13 (k0.trans k fun _ h _ => h) hc' hq14
   have S14' : Src w0 bR base14 cap14 (rdD (b13, l13) a).2.1 := S14
   have hdl := rdD_len (b13, l13) a
   clear S14 hq14
   dsimp only at hdl
   rw [← hdl] at hN2
   have hLb : (rdD (b13, l13) a).1.length ≤ 70368744177664 := by
    rw [hdl]
    exact Nat.le_trans (dK_le b13 a) S13.le
   generalize rdD (b13, l13) a = q14 at *
   obtain ⟨L, b14, l14⟩ := q14
   dsimp only at *
   repeat refine c_seq ?_
   refine d_region2 [1, 9, 17, 25, 35, 57, 44, 49] ([⟨b2, [.int .i64 k, .int .i64 a, .int .i64 bb, .slice rb rs.length rc, .slice db dd.length dc], 59⟩]) follows (by kernel_rfl) ?_
   refine qd rfl rfl rfl rfl ?_
   refine d_pure0 rfl rfl rfl (pure_nilCheck rfl) ?_
   refine d_pure0 rfl rfl rfl (pure_fieldAddr rfl rfl rfl rfl rfl (by decide)) ?_
   refine d_pure0 rfl rfl rfl (pure_fieldAddr rfl rfl rfl rfl rfl (by decide)) ?_
   refine d_pure1 rfl rfl rfl (pure_load (i := 0) rfl rfl rfl rfl rfl rfl) (by exact (fun w hh => Has.sublist (by repeat (first | exact List.Sublist.refl _ | exact List.nil_sublist _ | apply List.Sublist.cons_cons | apply List.Sublist.cons)) hh)) ?_
   refine qd rfl rfl rfl rfl ?_
   refine d_wr 3 rfl rfl rfl fun82 rfl rfl (by simp) (fun w' hh kp => hN2 w' kp (hh.cell (e := ⟨bR, [.slice base13 b13.length cap13, .bool l13], 100⟩) (nth_mem (i := 3) rfl) (by simp))) (by rintro v c' m1 ⟨bd, cd, ed, rfl, rfl, rfl, hsd⟩; exact fun w hh => Has.sublist (by repeat (first | exact List.Sublist.refl _ | exact List.nil_sublist _ | apply List.Sublist.cons_cons | apply List.Sublist.cons)) hh) rfl ?_
   rintro v c' m1 ⟨bd, cd, ed, rfl, rfl, rfl, hsl⟩
   refine d_pure0 rfl rfl rfl (pure_len_slice rfl rfl rfl) ?_
   refine d_nil ?_
   repeat refine c_seq ?_
   refine c_block ?_
   repeat refine c_seq ?_
   refine c_loop (α := Nat) (fun i => [(0, .pointer (some ⟨bR, 0, none⟩)), (2, .pointer (some ⟨b2, 0, none⟩)), (77, .slice bd L.length cd), (78, .int .i64 L.length), (79, .int .i64 i)])
    (fun i => [ed, de, ⟨b2, [.int .i64 k, .int .i64 a, .int .i64 bb, .slice rb rs.length rc, .slice db dd.length dc], 59⟩, re, ⟨bR, [.slice base14 b14.length cap14, .bool (l14 || (L.take i).any (· != 0))], 100⟩])
    (fun i => i ≤ L.length) (fun i => L.length - i) 0 (Nat.zero_le _) (less_of ⟨rfl, rfl, rfl, rfl, rfl, trivial⟩ (by simp; rfl)) ?_
   intro i hi
   repeat refine c_seq ?_
   refine c_region ?_
   refine step_pure rfl (pure_lss rfl rfl) ?_
   refine step_nil ?_
   repeat refine c_seq ?_
   refine c_cond rfl (fun h => ?_) (fun h => ?_)
   ·have hlt : i < L.length := by have := of_decide_eq_true h; omega
    clear h
    obtain ⟨_, _, be, RR, rfl, rfl, hRR⟩ := slis_form rfl hsl (by omega)
    have hany : (L.take (i + 1)).any (· != 0) = ((L.take i).any (· != 0) || (L.getD i 0 != 0)) := by
     rw [List.take_succ_eq_append_getElem hlt, List.any_append]
     simp [List.getD_eq_getElem?_getD, List.getElem?_eq_getElem hlt]
    have hcell : (row L ++ RR)[i]? = some (.int .u8 (L.getD i 0)) := by rw [List.getElem?_append_left (by rw [row_len]; omega), row_get _ _ hlt]
    generalize (L.take i).any (· != 0) = an at *
    generalize L.getD i 0 = x at *
    refine c_skip ?_
    repeat refine c_seq ?_
    refine c_block ?_
    repeat refine c_seq ?_
    refine c_region ?_
    refine step_pure rfl (pure_ixs (off' := i) rfl rfl rfl rfl rfl (by omega) (by omega) (by show 0 + (i : Int).toNat * 1 = _; omega)) ?_
    refine step_pure rfl (pure_load (i := 0) rfl rfl rfl rfl rfl hcell) ?_
    refine qa rfl rfl ?_
    refine step_nil ?_
    repeat refine c_seq ?_
    refine c_meet [(0, .pointer (some ⟨bR, 0, none⟩)), (2, .pointer (some ⟨b2, 0, none⟩)), (77, .slice (some ⟨be, 0, none⟩) L.length cd), (78, .int .i64 L.length), (79, .int .i64 i)]
     [⟨be, row L ++ RR, 5⟩, de, ⟨b2, [.int .i64 k, .int .i64 a, .int .i64 bb, .slice rb rs.length rc, .slice db dd.length dc], 59⟩, re, ⟨bR, [.slice base14 b14.length cap14, .bool (l14 || (an || (x != 0)))], 100⟩] ?_ ?_
    ·repeat refine c_seq ?_
     refine c_region ?_
     refine qm rfl rfl ?_
     refine qm rfl rfl ?_
     refine step_pure rfl (pure_nilCheck rfl) ?_
     refine step_pure rfl (pure_fieldAddr rfl rfl rfl rfl rfl (by decide)) ?_
     refine step_pure rfl (pure_fieldAddr rfl rfl rfl rfl rfl (by decide)) ?_
     refine step_pure rfl (pure_load (i := 4) rfl rfl rfl rfl rfl rfl) ?_
     refine qm rfl rfl ?_
     refine step_split (t := 89) rfl (fun h89 => ?_) (fun h89 => ?_)
     ·refine qp rfl rfl rfl ?_
      refine qp rfl rfl rfl ?_
      refine step_pure rfl (pure_pick_yes rfl rfl) ?_
      refine step_pure rfl (pure_nilCheck rfl) ?_
      refine step_pure rfl (pure_fieldAddr rfl rfl rfl rfl rfl (by decide)) ?_
      refine step_pure rfl (pure_fieldAddr rfl rfl rfl rfl rfl (by decide)) ?_
      refine step_store 4 rfl rfl rfl rfl rfl rfl rfl rfl (by show 1 < 2; decide) rfl ?_
      refine step_nil ?_
      refine less_of ⟨rfl, rfl, rfl, rfl, rfl, trivial⟩ (congrArg (fun y => [Ent.mk be (row L ++ RR) 5, de, ⟨b2, [.int .i64 k, .int .i64 a, .int .i64 bb, .slice rb rs.length rc, .slice db dd.length dc], 59⟩, re, ⟨bR, [.slice base14 b14.length cap14, .bool y], 100⟩]) ?_)
      clear hany eZ hsl hN2 hcell S14' hsd hsr S
      revert h89
      cases l14 <;> cases an <;> simp
     ·refine qm rfl rfl ?_
      refine step_pure rfl (pure_neq rfl rfl) ?_
      refine step_pure rfl (pure_pick_no rfl rfl) ?_
      refine step_pure rfl (pure_nilCheck rfl) ?_
      refine step_pure rfl (pure_fieldAddr rfl rfl rfl rfl rfl (by decide)) ?_
      refine step_pure rfl (pure_fieldAddr rfl rfl rfl rfl rfl (by decide)) ?_
      refine step_store 4 rfl rfl rfl rfl rfl rfl rfl rfl (by show 1 < 2; decide) rfl ?_
      refine step_nil ?_
      refine less_of ⟨rfl, rfl, rfl, rfl, rfl, trivial⟩ (congrArg (fun y => [Ent.mk be (row L ++ RR) 5, de, ⟨b2, [.int .i64 k, .int .i64 a, .int .i64 bb, .slice rb rs.length rc, .slice db dd.length dc], 59⟩, re, ⟨bR, [.slice base14 b14.length cap14, .bool y], 100⟩]) ?_)
      clear hany eZ hsl hN2 hcell S14' hsd hsr S
      revert h89
      cases l14 <;> cases an <;> simp
    repeat refine c_seq ?_
    refine c_region ?_
    refine step_pure rfl (pure_add64 rfl rfl (by omega) (by omega)) ?_
    refine qm rfl rfl ?_
    refine step_nil ?_
    exact ⟨i + 1, hlt, by omega, less_of ⟨rfl, rfl, rfl, rfl, rfl, trivial⟩ (by rw [hany])⟩
   ·have hie : i = L.length := by have := of_decide_eq_false h; omega
    clear h
    rw [hie, List.take_length]
    refine c_exit ⟨(base14, cap14), ?_, ?_⟩
    ·dsimp only
     rw [eZ]
     exact S14'
    ·rw [eZ]
     exact less_sub ⟨rfl, trivial⟩ (List.Sublist.cons _ (List.Sublist.refl _))
  ·rw [if_neg (ne_of_beq_false h)] at eZ
   rw [eZ]
   exact c_skip ⟨(base13, cap13), S13, less_of ⟨rfl, trivial⟩ rfl⟩
 clear S13 eZ
 rintro ⟨base15, cap15⟩ S15
 dsimp only at *
 repeat refine c_seq ?_
 refine c_region ?_
 refine step_pure rfl (pure_load_agg (i := 1) rfl rfl rfl rfl rfl (by show 5 ≤ 5; decide) rfl) ?_
 refine step_store_agg 1 rfl rfl rfl (by intro v hv; simp at hv; rcases hv with rfl | rfl | rfl | rfl | rfl <;> rfl) rfl rfl rfl rfl (by show 5 ≤ 5; decide) (splice_all rfl) ?_
 refine step_nil ?_
 exact c_ret ⟨_, res_cell_agg (i := 1) Try.results57 rfl rfl rfl rfl rfl (by show 5 ≤ 5; decide) rfl, [.slice base15 Z.1.length cap15, .bool Z.2], [de, re], (by repeat (first | exact List.Sublist.refl _ | exact List.nil_sublist _ | apply List.Sublist.cons_cons | apply List.Sublist.cons)), by simp, rb, rc, re, db, dc, de, base15, cap15, rfl, rfl, rfl, hsr, hsd, S15⟩
end Go.Proofs.Ythieegnhjoehbaa
/- Frames read: Read, walked. -/
namespace Go.Proofs.Ythieegnhjoehbaa
open Go.RowKit Go.Vc
set_option linter.unusedVariables false
def rdGo : Nat → List Int → List Fr → Option (List Fr)
 | 0, _, _ => none
 | k + 1, b, l => if b.length = 0 then some l else if ((rdZ (b, false)).2 || (!fok (rdFrame (b, false)) || ((l.length : Int) == 16))) = true then none else rdGo k (rdZ (b, false)).1 (l ++ [rdFrame (b, false)])
def rdAll (b : List Int) : Option (List Fr) := rdGo 17 b []
/-! no more than there is -/
theorem rdN_le (s : St) : (rdN s).2.1.length ≤ s.1.length := by
 show (s.1.drop _).length ≤ _
 rw [List.length_drop]; omega
theorem rdD_le (s : St) (n : Int) : (rdD s n).2.1.length ≤ s.1.length := by
 show (s.1.drop _).length ≤ _
 rw [List.length_drop]; omega
theorem rdRs_le (s : St) (k : Nat) : (rdRs s k).2.1.length ≤ s.1.length := by
 induction k with
 | zero => exact Nat.le_refl _
 | succ k ih => exact Nat.le_trans (rdN_le _) (Nat.le_trans (rdN_le _) ih)
theorem rdA_le (s : St) : (rdA s).2.1.length ≤ s.1.length := by
 unfold rdA
 split
 ·exact rdN_le s
 ·exact Nat.le_trans (rdN_le _) (rdN_le s)
theorem rdB_le (s : St) : (rdB s).2.1.length ≤ s.1.length := by
 unfold rdB
 split
 ·exact Nat.le_trans (rdN_le _) (rdA_le s)
 ·exact rdA_le s
theorem rdR_le (s : St) : (rdR s).2.1.length ≤ s.1.length := by
 unfold rdR
 split
 ·exact Nat.le_trans (rdRs_le _ _) (Nat.le_trans (rdN_le _) (rdB_le s))
 ·exact rdB_le s
theorem rdT_le (s : St) : (rdT s).1.length ≤ s.1.length := by
 unfold rdT
 split
 ·rw [rdD_len]
  exact Nat.le_trans (dK_le _ _) (Nat.le_trans (rdN_le _) (rdR_le s))
 ·exact Nat.zero_le _
/-! frames that were read: each with its blocks -/
structure FrX where
 f : Fr
 rb : Option Addr
 rc : Nat
 db : Option Addr
 dc : Nat
 er : Ent
 ed : Ent
def FrX.cells (x : FrX) : List Value := [.int .i64 x.f.kind, .int .i64 x.f.a, .int .i64 x.f.b, .slice x.rb x.f.rs.length x.rc, .slice x.db x.f.data.length x.dc]
structure FrX.Ok (x : FrX) : Prop where
 rs : SlIs ty110 110 x.er x.rb x.f.rs.length x.rc (rgCells x.f.rs)
 data : SlIs ty5 5 x.ed x.db x.f.data.length x.dc (row x.f.data)
def ents (L : List FrX) : Mem := L.reverse.flatMap fun x => [x.ed, x.er]
theorem ents_snoc (L : List FrX) (x : FrX) : ents (L ++ [x]) = x.ed :: x.er :: ents L := by
 unfold ents
 rw [List.reverse_append, List.flatMap_append]
 rfl
theorem cells_snoc (L : List FrX) (x : FrX) : (L ++ [x]).flatMap FrX.cells = L.flatMap FrX.cells ++ x.cells := by
 rw [List.flatMap_append]
 simp
theorem rowOf_fr : rowOf [Value.int .i64 0, .int .i64 0, .int .i64 0, .slice none 0 0, .slice none 0 0] (1 * 5) = [Value.int .i64 0, .int .i64 0, .int .i64 0, .slice none 0 0, .slice none 0 0] := by kernel_rfl
theorem fill_fr (x1 x2 x3 x4 x5 : Value) : fillL (fun i => some (i * ty59.size, ty59.size)) (rowOf [Value.int .i64 0, .int .i64 0, .int .i64 0, .slice none 0 0, .slice none 0 0] (1 * ty59.size)) [(0, .agg [x1, x2, x3, x4, x5].toArray)] = some [x1, x2, x3, x4, x5] := by
 rw [show 1 * ty59.size = 1 * 5 from rfl, rowOf_fr]
 rfl
structure RdX where
 b : List Int
 base : Option Addr
 cap : Nat
 L : List FrX
 sb : Option Addr
 sc : Nat
 se : Ent
set_option maxHeartbeats 4000000 in
theorem read_any (b : List Int) (base : Option Addr) (cap : Nat) (w : World) (hv : SlV w (.slice base b.length cap) (row b)) (hb : Bytes b) (hle : b.length ≤ 70368744177664) :
  Makes tb 39 [.slice base b.length cap] w fun u m' => ∃ base' cap' es L, u = .tuple #[.slice base' L.length cap', .int .i64 (if (rdAll b).isSome = true then 0 else 20)] ∧ m' = es :: ents L ∧
   L.map FrX.f = (rdAll b).getD [] ∧ (∀ x ∈ L, x.Ok) ∧ SlIs ty59 59 es base' L.length cap' (L.flatMap FrX.cells) := by
 refine makes_of (fn := Try.f39) Try.func39 rfl Try.ntmps39 rfl ?_
 repeat refine c_seq ?_
 refine c_region ?_
 refine qa rfl rfl ?_
 refine step_hole ?_
 refine qa rfl rfl ?_
 refine step_nil ?_
 repeat refine c_seq ?_
 refine c_region ?_
 refine qm rfl rfl ?_
 refine step_pure rfl (pure_build_struct (pl := [(0, 1), (1, 1)]) rfl zero98 rfl rfl rfl rfl) ?_
 refine step_pure rfl (pure_build_struct (pl := [(0, 2)]) rfl zero100 rfl rfl rfl rfl) ?_
 refine step_box_agg rfl rfl (fun b9 => ?_)
 refine id ?_
 refine qa rfl rfl ?_
 refine step_nil ?_
 refine c_own 0 rfl (List.cons_ne_nil _ _) fun hown => ?_
 have S0 : b ≠ [] → Src w b9 base cap b := fun hne => ⟨hv, hb, hle, fun a ha => by
  have h1 := slv_lt hv (by intro h; exact hne (List.eq_nil_of_length_eq_zero (by rw [← row_len, h]; rfl))) a ha
  rcases hown with h2 | h2
  ·have h2 : w.heap.size ≤ b9 := h2
   omega
  ·cases h2⟩
 repeat refine c_seq ?_
 refine c_block ?_
 repeat refine c_seq ?_
 refine c_loop (α := RdX) (fun x => [(2, .slice x.sb x.L.length x.sc), (4, .pointer (some ⟨b9, 0, none⟩))]) (fun x => x.se :: ⟨b9, [.slice x.base x.b.length x.cap, .bool false], 100⟩ :: ents x.L)
  (fun x => x.L.length ≤ 16 ∧ rdGo (17 - x.L.length) x.b (x.L.map FrX.f) = rdAll b ∧ (x.b ≠ [] → Src w b9 x.base x.cap x.b) ∧ (∀ y ∈ x.L, y.Ok) ∧ SlIs ty59 59 x.se x.sb x.L.length x.sc (x.L.flatMap FrX.cells))
  (fun x => 17 - x.L.length) ⟨b, base, cap, [], none, 0, hole⟩ ⟨Nat.zero_le _, rfl, S0, by simp, sl_nil _ _ (by decide)⟩ (less_perm ⟨rfl, rfl, trivial⟩ (List.Sublist.refl _) (List.Perm.swap ..)) ?_
 clear S0 hown
 rintro ⟨b1, base, cap, L, sb, sc, se⟩ ⟨hL, hgo, S, hall, hs⟩
 dsimp only at hL hgo S hall hs ⊢
 rw [← hgo]
 clear hgo
 obtain ⟨k, hk⟩ : ∃ k, 17 - L.length = k + 1 := ⟨16 - L.length, by omega⟩
 have hgo : rdGo (k + 1) b1 (L.map FrX.f) = if b1.length = 0 then some (L.map FrX.f) else if ((rdZ (b1, false)).2 || (!fok (rdFrame (b1, false)) || (((L.map FrX.f).length : Int) == 16))) = true then none else rdGo k (rdZ (b1, false)).1 (L.map FrX.f ++ [rdFrame (b1, false)]) := rfl
 rw [hk, hgo, List.length_map]
 clear hgo
 repeat refine c_seq ?_
 refine c_region ?_
 refine qm rfl rfl ?_
 refine step_pure rfl (pure_nilCheck rfl) ?_
 refine step_pure rfl (pure_fieldAddr rfl rfl rfl rfl rfl (by decide)) ?_
 refine step_pure rfl (pure_fieldAddr rfl rfl rfl rfl rfl (by decide)) ?_
 refine step_pure rfl (pure_load (i := 1) rfl rfl rfl rfl rfl rfl) ?_
 refine step_pure rfl (pure_len_slice rfl rfl rfl) ?_
 refine step_pure rfl (pure_gtr rfl rfl) ?_
 refine step_nil ?_
 repeat refine c_seq ?_
 refine c_cond rfl (fun h => ?_) (fun h => ?_)
 ·have h0 : b1.length ≠ 0 := by have := of_decide_eq_true h; omega
  clear h
  rw [if_neg h0]
  have S := S (by intro h; exact h0 (by rw [h]; rfl))
  refine c_skip ?_
  repeat refine c_seq ?_
  refine c_block ?_
  repeat refine c_seq ?_
  refine c_region ?_
  refine qm rfl rfl ?_
  refine step_wr 1 rfl fun57 rfl rfl (by simp) (fun w' hh kp => frame_any b1 false base cap b9 w w' S (kp.mono (by simp)) (hh.cell (e := ⟨b9, [.slice base b1.length cap, .bool false], 100⟩) (nth_mem (i := 1) rfl) (by simp))) ?_
  rintro v c' m1 ⟨rb, rc, er, db, dc, ed, base', cap', rfl, rfl, rfl, hsr, hsd, S'⟩
  refine step_alloc rfl zero59 (fun b5 => ?_)
  refine id ?_
  refine step_store_agg 0 rfl rfl rfl (by intro v hv; simp at hv; rcases hv with rfl | rfl | rfl | rfl | rfl <;> rfl) rfl rfl rfl rfl (by show 5 ≤ 5; decide) (splice_all rfl) ?_
  refine step_nil ?_
  have hdl := Nat.le_trans (rdT_le (b1, false)) S.le
  have hdf : (rdT (b1, false)).1 = (rdFrame (b1, false)).data := rfl
  rw [hdf] at hdl
  clear hdf
  generalize rdZ (b1, false) = Z at *
  generalize rdFrame (b1, false) = f at *
  have hck := fun w' (hh : Has w' (⟨b5, [.int .i64 f.kind, .int .i64 f.a, .int .i64 f.b, .slice rb f.rs.length rc, .slice db f.data.length dc], 59⟩ :: ed :: er :: se :: ⟨b9, [.slice base' Z.1.length cap', .bool Z.2], 100⟩ :: ents L)) (kp : Keep w w' []) =>
   check_any f [.int .i64 f.kind, .int .i64 f.a, .int .i64 f.b, .slice rb f.rs.length rc, .slice db f.data.length dc] w' ⟨_, _, rfl, slis_now (E := ⟨w, [], []⟩) (j := 2) hsr rfl w' hh kp, slis_now (E := ⟨w, [], []⟩) (j := 1) hsd rfl w' hh kp⟩ (by omega)
  have hx : FrX.Ok ⟨f, rb, rc, db, dc, er, ed⟩ := ⟨hsr, hsd⟩
  repeat refine c_seq ?_
  repeat refine c_seq ?_
  refine c_meet [(2, .slice sb L.length sc), (4, .pointer (some ⟨b9, 0, none⟩)), (5, .pointer (some ⟨b5, 0, none⟩)), (33, .bool (Z.2 || (!fok f || ((L.length : Int) == 16))))]
   (⟨b5, [.int .i64 f.kind, .int .i64 f.a, .int .i64 f.b, .slice rb f.rs.length rc, .slice db f.data.length dc], 59⟩ :: ed :: er :: se :: ⟨b9, [.slice base' Z.1.length cap', .bool Z.2], 100⟩ :: ents L) ?_ ?_
  ·generalize fok f = ck at *
   repeat refine c_seq ?_
   refine c_region ?_
   refine qm rfl rfl ?_
   refine step_pure rfl (pure_nilCheck rfl) ?_
   refine step_pure rfl (pure_fieldAddr rfl rfl rfl rfl rfl (by decide)) ?_
   refine step_pure rfl (pure_fieldAddr rfl rfl rfl rfl rfl (by decide)) ?_
   refine step_pure rfl (pure_load (i := 4) rfl rfl rfl rfl rfl rfl) ?_
   refine qm rfl rfl ?_
   refine step_split (t := 24) rfl (fun h24 => ?_) (fun h24 => ?_)
   ·refine qp rfl rfl rfl ?_
    refine qp rfl rfl rfl ?_
    refine qp rfl rfl rfl ?_
    refine step_pure rfl (pure_pick_yes rfl rfl) ?_
    refine qm rfl rfl ?_
    refine qp rfl rfl rfl ?_
    refine qp rfl rfl rfl ?_
    refine qp rfl rfl rfl ?_
    refine step_pure rfl (pure_pick_yes rfl rfl) ?_
    refine step_nil ?_
    refine less_of ⟨rfl, rfl, rfl, ?_, trivial⟩ rfl
    refine congrArg some (congrArg Value.bool ?_)
    clear hck hx
    simp_all
   ·refine step_pure rfl (pure_load_agg (i := 0) rfl rfl rfl rfl rfl (by show 5 ≤ 5; decide) rfl) ?_
    refine step_gives rfl fun43 rfl (fun w' hh kp => hck w' hh kp) ?_
    refine step_pure rfl (pure_neq rfl rfl) ?_
    refine step_pure rfl (pure_pick_no rfl rfl) ?_
    refine qm rfl rfl ?_
    refine step_split (t := 29) rfl (fun h29 => ?_) (fun h29 => ?_)
    ·refine qp rfl rfl rfl ?_
     refine qp rfl rfl rfl ?_
     refine qp rfl rfl rfl ?_
     refine step_pure rfl (pure_pick_yes rfl rfl) ?_
     refine step_nil ?_
     refine less_of ⟨rfl, rfl, rfl, ?_, trivial⟩ rfl
     refine congrArg some (congrArg Value.bool ?_)
     clear hck hx
     simp_all
    ·refine qm rfl rfl ?_
     refine step_pure rfl (pure_len_slice rfl rfl rfl) ?_
     refine step_pure rfl (pure_eql rfl rfl) ?_
     refine step_pure rfl (pure_pick_no rfl rfl) ?_
     refine step_nil ?_
     refine less_of ⟨rfl, rfl, rfl, ?_, trivial⟩ rfl
     refine congrArg some (congrArg Value.bool ?_)
     clear hck hx
     simp_all
  clear hck
  have h16 : (Z.2 || (!fok f || ((L.length : Int) == 16))) = false → L.length ≠ 16 ∧ Z.2 = false := by
   intro h
   simp at h
   exact ⟨by omega, h.1⟩
  generalize (Z.2 || (!fok f || ((L.length : Int) == 16))) = bad at *
  by_cases hbad : bad = true
  ·rw [if_pos hbad, hbad]
   repeat refine c_seq ?_
   refine c_cond_yes rfl rfl ?_
   repeat refine c_seq ?_
   refine c_region ?_
   refine qa rfl rfl ?_
   refine step_hole ?_
   refine qa rfl rfl ?_
   refine step_nil ?_
   exact c_ret ⟨_, res_tmp2 Try.results39 rfl rfl, [hole], List.Sublist.cons_cons _ (List.nil_sublist _), none, 0, hole, [], rfl, rfl, rfl, by simp, sl_nil _ _ (by decide)⟩
  ·have hbad : bad = false := by simpa using hbad
   obtain ⟨h16, hz⟩ := h16 hbad
   rw [hbad, if_neg (by decide), hz]
   repeat refine c_seq ?_
   refine c_cond_no rfl rfl ?_
   refine c_skip ?_
   repeat refine c_seq ?_
   refine c_region ?_
   refine qm rfl rfl ?_
   refine step_pure rfl (pure_load_agg (i := 0) rfl rfl rfl rfl rfl (by show 5 ≤ 5; decide) rfl) ?_
   refine step_buildSlice rfl rfl rfl rfl elem59 (by decide) (by decide) (fill_fr _ _ _ _ _) (fun b36 => ?_)
   refine step_append 4 rfl rfl hs rfl rfl rfl rfl rfl elem59 rfl (by decide) rfl rfl rfl (src_own (j := 0) (sl_built ty59 59 b36 [.int .i64 f.kind, .int .i64 f.a, .int .i64 f.b, .slice rb f.rs.length rc, .slice db f.data.length dc] 1 rfl) rfl) (by intro v hv; simp at hv; rcases hv with rfl | rfl | rfl | rfl | rfl <;> rfl) (by omega) (by omega) (fun sb' sc' se' hs' => ?_)
   refine qa rfl rfl ?_
   refine step_nil ?_
   refine ⟨⟨Z.1, base', cap', L ++ [⟨f, rb, rc, db, dc, er, ed⟩], sb', sc', se'⟩, ⟨?_, ?_, fun _ => S', ?_, ?_⟩, ?_, ?_⟩
   ·dsimp only
    rw [List.length_append, List.length_singleton]
    omega
   ·dsimp only
    rw [List.length_append, List.length_singleton, List.map_append]
    rw [show 17 - (L.length + 1) = k by omega]
    rfl
   ·intro y hy
    rcases List.mem_append.1 hy with hy | hy
    ·exact hall y hy
    ·rw [List.mem_singleton.1 hy]
     exact hx
   ·dsimp only
    rw [List.length_append, List.length_singleton, cells_snoc]
    exact hs'
   ·dsimp only
    rw [List.length_append, List.length_singleton]
    omega
   ·dsimp only
    rw [List.length_append, List.length_singleton, ents_snoc]
    exact less_perm ⟨rfl, rfl, trivial⟩ (m1 := ed :: er :: se' :: ⟨b9, [.slice base' Z.1.length cap', .bool false], 100⟩ :: ents L) (by repeat (first | exact List.Sublist.refl _ | exact List.nil_sublist _ | apply List.Sublist.cons_cons | apply List.Sublist.cons)) (List.Perm.append_right (ents L) (List.perm_append_comm (l₁ := [ed, er]) (l₂ := [se', ⟨b9, [.slice base' Z.1.length cap', .bool false], 100⟩])))
 ·have h0 : b1.length = 0 := by have := of_decide_eq_false h; omega
  rw [if_pos h0]
  refine c_exit ?_
  repeat refine c_seq ?_
  refine c_region ?_
  refine qm rfl rfl ?_
  refine qa rfl rfl ?_
  refine qa rfl rfl ?_
  refine step_nil ?_
  exact c_ret ⟨_, res_tmp2 Try.results39 rfl rfl, se :: ents L, (by repeat (first | exact List.Sublist.refl _ | exact List.nil_sublist _ | apply List.Sublist.cons_cons | apply List.Sublist.cons)), sb, sc, se, L, rfl, rfl, rfl, hall, hs⟩
end Go.Proofs.Ythieegnhjoehbaa
/- The document's Same and All, walked. -/
namespace Go.Proofs.Ythieegnhjoehbaa
open Go.RowKit Go.Vc
set_option linter.unusedVariables false
set_option linter.unusedSimpArgs false
/-! ranges, compared -/
theorem guardRg : tb.P.eqGuardType tb.P.depth 110 = false := by kernel_rfl
theorem stoodRg : tb.P.stoodInHeld 110 = false := by kernel_rfl
theorem underRg : tb.P.underlying 110 = some (.struct (tb.P.fieldsOf 110)) := by kernel_rfl
theorem fieldsRg : (tb.P.fieldsOf 110).toList.map (fun f => (f.name, f.type, f.offset)) = [("Low", 3, 0), ("High", 3, 1)] := by kernel_rfl
theorem run_eq_rg (d : Nat) (a b p q : Int) (w : World) : (Op.equalIn (d + 2) 110 (.agg [Value.int .i64 a, .int .i64 b].toArray) (.agg [Value.int .i64 p, .int .i64 q].toArray)).run tb.P w = .ok (a == p && b == q) w := by
 rw [run_equalIn_struct w (d + 1) _ _ _ underRg stoodRg]
 have hf := fieldsRg
 generalize (tb.P.fieldsOf 110).toList = fs at hf
 obtain ⟨f1, f2, rfl⟩ : ∃ f1 f2, fs = [f1, f2] := by
  have hl := congrArg List.length hf
  match fs, hl with
  | [f1, f2], _ => exact ⟨f1, f2, rfl⟩
 simp only [List.map_cons, List.map_nil, List.cons.injEq, Prod.mk.injEq, and_true] at hf
 obtain ⟨⟨n1, t1, o1⟩, n2, t2, o2⟩ := hf
 have hi : tb.ty 3 = some ty3 := rfl
 simp only [Op.eqFields, n1, n2, t1, t2, o1, o2, Sem.run_bind, Sem.run_ite, run_part hi rfl (cs := [Value.int .i64 a, .int .i64 b].toArray) (off := 0) (v := .int .i64 a) rfl, run_part hi rfl (cs := [Value.int .i64 a, .int .i64 b].toArray) (off := 1) (v := .int .i64 b) rfl,
  run_part hi rfl (cs := [Value.int .i64 p, .int .i64 q].toArray) (off := 0) (v := .int .i64 p) rfl, run_part hi rfl (cs := [Value.int .i64 p, .int .i64 q].toArray) (off := 1) (v := .int .i64 q) rfl, Result.andThen_ok, run_eq_int hi rfl]
 cases a == p <;> cases b == q <;> simp
theorem pure_neq_rg {E : Env} {rs : Rs} {m : Mem} {dst : Option Tmp} {ty : TypeId} {pos : String} {aft : Array Edge} {gd : Option (Nat × Bool)} {x y : Operand} {U : TypeId} {a b p q : Int}
  (hx : ev rs x = some (.agg [Value.int .i64 a, .int .i64 b].toArray)) (hy : ev rs y = some (.agg [Value.int .i64 p, .int .i64 q].toArray)) :
  Pure tb E rs m ⟨dst, .binOp .neq 110 x y U, ty, pos, aft, gd⟩ (.bool (!(a == p && b == q))) := by
 refine ⟨fun a' w hr hh hk => ?_⟩
 have key := run_eq_rg 9998 a b p q w
 simp [execOp, ev_ok hr hx, ev_ok hr hy, eqGuard, binOp, guardRg, Op.equal, Op.maxDepth, key]
def sameB (f g : Fr) : Bool := decide (f.kind = g.kind ∧ f.a = g.a ∧ f.b = g.b ∧ str f.data = str g.data ∧ f.rs = g.rs)
theorem str_list (a b : ByteArray) : a.toList = b.toList ↔ a = b :=
 ⟨fun h => by
  rw [ByteArray.toList_eq, ByteArray.toList_eq] at h
  obtain ⟨⟨x⟩⟩ := a
  obtain ⟨⟨y⟩⟩ := b
  have : x = y := h
  rw [this], fun h => h ▸ rfl⟩
theorem str_inj {a b : List Int} (ha : Bytes a) (hb : Bytes b) : str a = str b → a = b := by
 intro h
 have key : ∀ (ns : List Int) (acc : ByteArray), (ns.foldl (fun r n => r.push (UInt8.ofNat n.toNat)) acc).data.toList = acc.data.toList ++ ns.map fun n => UInt8.ofNat n.toNat := by
  intro ns
  induction ns with
  | nil => intro acc; simp
  | cons n ns ih =>
   intro acc
   rw [List.foldl_cons, ih]
   simp [ByteArray.push]
 have h2 := congrArg (fun x : ByteArray => x.data.toList) h
 simp only [str, key] at h2
 have h3 : a.map (fun n => UInt8.ofNat n.toNat) = b.map fun n => UInt8.ofNat n.toNat := List.append_cancel_left h2
 clear key h h2
 induction a generalizing b with
 | nil =>
  cases b with
  | nil => rfl
  | cons y b => cases h3
 | cons x a ih =>
  cases b with
  | nil => cases h3
  | cons y b =>
   simp only [List.map_cons, List.cons.injEq] at h3
   have hx := ha x (.head _)
   have hy := hb y (.head _)
   have e : x = y := by
    have := congrArg UInt8.toNat h3.1
    simp at this
    omega
   rw [e, ih (fun z hz => ha z (.tail _ hz)) (fun z hz => hb z (.tail _ hz)) h3.2]
theorem sameB_iff {f g : Fr} (hf : Bytes f.data) (hg : Bytes g.data) : sameB f g = true ↔ f = g := by
 unfold sameB
 rw [decide_eq_true_eq]
 constructor
 ·rintro ⟨h1, h2, h3, h4, h5⟩
  obtain ⟨a1, a2, a3, a4, a5⟩ := f
  obtain ⟨b1, b2, b3, b4, b5⟩ := g
  have := str_inj hf hg h4
  simp_all
 ·rintro rfl
  exact ⟨rfl, rfl, rfl, rfl, rfl⟩
set_option maxHeartbeats 4000000 in
theorem same_any (f g : Fr) (cs ds : List Value) (w : World) (hf : FrC (fun p x => w.cell? p = some x) f cs) (hg : FrC (fun p x => w.cell? p = some x) g ds) (hrl : f.rs.length ≤ 140737488355328) :
  Gives tb 60 [.agg cs.toArray, .agg ds.toArray] w (.bool (sameB f g)) := by
 obtain ⟨rv, dv, rfl, hr, hd⟩ := hf
 obtain ⟨rv2, dv2, rfl, hr2, hd2⟩ := hg
 obtain ⟨rb, rc, rfl, -, -, -⟩ := id hr
 obtain ⟨db, dc, rfl, -, -, -⟩ := id hd
 obtain ⟨rb2, rc2, rfl, -, -, -⟩ := id hr2
 obtain ⟨db2, dc2, rfl, -, -, -⟩ := id hd2
 have hd := hd.slv
 have hd2 := hd2.slv
 refine gives_of (fn := Try.f60) Try.func60 rfl Try.ntmps60 rfl ?_
 repeat refine c_seq ?_
 refine c_region ?_
 refine step_box_agg rfl rfl (fun b2 => ?_)
 refine step_box_agg rfl rfl (fun b3 => ?_)
 refine qa rfl rfl ?_
 refine step_nil ?_
 repeat refine c_seq ?_
 repeat refine c_seq ?_
 refine c_meet [(2, .pointer (some ⟨b2, 0, none⟩)), (3, .pointer (some ⟨b3, 0, none⟩)), (42, .bool (!decide (f.kind = g.kind ∧ f.a = g.a ∧ f.b = g.b ∧ str f.data = str g.data ∧ f.rs.length = g.rs.length)))]
  [⟨b3, [.int .i64 g.kind, .int .i64 g.a, .int .i64 g.b, .slice rb2 g.rs.length rc2, .slice db2 g.data.length dc2], 59⟩, ⟨b2, [.int .i64 f.kind, .int .i64 f.a, .int .i64 f.b, .slice rb f.rs.length rc, .slice db f.data.length dc], 59⟩] ?_ ?_
 ·repeat refine c_seq ?_
  refine c_region ?_
  refine step_pure rfl (pure_fieldAddr rfl rfl rfl rfl rfl (by decide)) ?_
  refine step_pure rfl (pure_load (i := 1) rfl rfl rfl rfl rfl rfl) ?_
  refine step_pure rfl (pure_fieldAddr rfl rfl rfl rfl rfl (by decide)) ?_
  refine step_pure rfl (pure_load (i := 0) rfl rfl rfl rfl rfl rfl) ?_
  refine step_pure rfl (pure_neq rfl rfl) ?_
  refine qm rfl rfl ?_
  refine step_split (t := 11) rfl (fun h11 => ?_) (fun h11 => ?_)
  ·refine qp rfl rfl rfl ?_
   refine qp rfl rfl rfl ?_
   refine qp rfl rfl rfl ?_
   refine qp rfl rfl rfl ?_
   refine qp rfl rfl rfl ?_
   refine step_pure rfl (pure_pick_yes rfl rfl) ?_
   refine qm rfl rfl ?_
   refine qp rfl rfl rfl ?_
   refine qp rfl rfl rfl ?_
   refine qp rfl rfl rfl ?_
   refine qp rfl rfl rfl ?_
   refine qp rfl rfl rfl ?_
   refine step_pure rfl (pure_pick_yes rfl rfl) ?_
   refine qm rfl rfl ?_
   refine qp rfl rfl rfl ?_
   refine qp rfl rfl rfl ?_
   refine qp rfl rfl rfl ?_
   refine qp rfl rfl rfl ?_
   refine qp rfl rfl rfl ?_
   refine qp rfl rfl rfl ?_
   refine qp rfl rfl rfl ?_
   refine step_pure rfl (pure_pick_yes rfl rfl) ?_
   refine qm rfl rfl ?_
   refine qp rfl rfl rfl ?_
   refine qp rfl rfl rfl ?_
   refine qp rfl rfl rfl ?_
   refine qp rfl rfl rfl ?_
   refine qp rfl rfl rfl ?_
   refine qp rfl rfl rfl ?_
   refine qp rfl rfl rfl ?_
   refine step_pure rfl (pure_pick_yes rfl rfl) ?_
   refine step_nil ?_
   refine less_of ⟨rfl, rfl, ?_, trivial⟩ rfl
   refine congrArg some (congrArg Value.bool ?_)
   clear hd hd2 hr hr2
   rw [Bool.eq_iff_iff]
   simp_all [str_list] <;> omega
  ·refine step_pure rfl (pure_fieldAddr rfl rfl rfl rfl rfl (by decide)) ?_
   refine step_pure rfl (pure_load (i := 1) rfl rfl rfl rfl rfl rfl) ?_
   refine step_pure rfl (pure_fieldAddr rfl rfl rfl rfl rfl (by decide)) ?_
   refine step_pure rfl (pure_load (i := 0) rfl rfl rfl rfl rfl rfl) ?_
   refine step_pure rfl (pure_neq rfl rfl) ?_
   refine step_pure rfl (pure_pick_no rfl rfl) ?_
   refine qm rfl rfl ?_
   refine step_split (t := 18) rfl (fun h18 => ?_) (fun h18 => ?_)
   ·refine qp rfl rfl rfl ?_
    refine qp rfl rfl rfl ?_
    refine qp rfl rfl rfl ?_
    refine qp rfl rfl rfl ?_
    refine qp rfl rfl rfl ?_
    refine step_pure rfl (pure_pick_yes rfl rfl) ?_
    refine qm rfl rfl ?_
    refine qp rfl rfl rfl ?_
    refine qp rfl rfl rfl ?_
    refine qp rfl rfl rfl ?_
    refine qp rfl rfl rfl ?_
    refine qp rfl rfl rfl ?_
    refine qp rfl rfl rfl ?_
    refine qp rfl rfl rfl ?_
    refine step_pure rfl (pure_pick_yes rfl rfl) ?_
    refine qm rfl rfl ?_
    refine qp rfl rfl rfl ?_
    refine qp rfl rfl rfl ?_
    refine qp rfl rfl rfl ?_
    refine qp rfl rfl rfl ?_
    refine qp rfl rfl rfl ?_
    refine qp rfl rfl rfl ?_
    refine qp rfl rfl rfl ?_
    refine step_pure rfl (pure_pick_yes rfl rfl) ?_
    refine step_nil ?_
    refine less_of ⟨rfl, rfl, ?_, trivial⟩ rfl
    refine congrArg some (congrArg Value.bool ?_)
    clear hd hd2 hr hr2
    rw [Bool.eq_iff_iff]
    simp_all [str_list] <;> omega
   ·refine step_pure rfl (pure_fieldAddr rfl rfl rfl rfl rfl (by decide)) ?_
    refine step_pure rfl (pure_load (i := 1) rfl rfl rfl rfl rfl rfl) ?_
    refine step_pure rfl (pure_fieldAddr rfl rfl rfl rfl rfl (by decide)) ?_
    refine step_pure rfl (pure_load (i := 0) rfl rfl rfl rfl rfl rfl) ?_
    refine step_pure rfl (pure_neq rfl rfl) ?_
    refine step_pure rfl (pure_pick_no rfl rfl) ?_
    refine qm rfl rfl ?_
    refine step_split (t := 25) rfl (fun h25 => ?_) (fun h25 => ?_)
    ·refine qp rfl rfl rfl ?_
     refine qp rfl rfl rfl ?_
     refine qp rfl rfl rfl ?_
     refine qp rfl rfl rfl ?_
     refine qp rfl rfl rfl ?_
     refine qp rfl rfl rfl ?_
     refine qp rfl rfl rfl ?_
     refine step_pure rfl (pure_pick_yes rfl rfl) ?_
     refine qm rfl rfl ?_
     refine qp rfl rfl rfl ?_
     refine qp rfl rfl rfl ?_
     refine qp rfl rfl rfl ?_
     refine qp rfl rfl rfl ?_
     refine qp rfl rfl rfl ?_
     refine qp rfl rfl rfl ?_
     refine qp rfl rfl rfl ?_
     refine step_pure rfl (pure_pick_yes rfl rfl) ?_
     refine step_nil ?_
     refine less_of ⟨rfl, rfl, ?_, trivial⟩ rfl
     refine congrArg some (congrArg Value.bool ?_)
     clear hd hd2 hr hr2
     rw [Bool.eq_iff_iff]
     simp_all [str_list] <;> omega
    ·refine step_pure rfl (pure_fieldAddr rfl rfl rfl rfl rfl (by decide)) ?_
     refine step_pure rfl (pure_load (i := 1) rfl rfl rfl rfl rfl rfl) ?_
     refine step_pure rfl (pure_slv_string rfl rfl rfl rfl rfl rfl rfl hd (fun _ _ _ _ => List.not_mem_nil)) ?_
     refine step_pure rfl (pure_fieldAddr rfl rfl rfl rfl rfl (by decide)) ?_
     refine step_pure rfl (pure_load (i := 0) rfl rfl rfl rfl rfl rfl) ?_
     refine step_pure rfl (pure_slv_string rfl rfl rfl rfl rfl rfl rfl hd2 (fun _ _ _ _ => List.not_mem_nil)) ?_
     refine step_pure rfl (pure_str_neq rfl rfl) ?_
     refine step_pure rfl (pure_pick_no rfl rfl) ?_
     refine qm rfl rfl ?_
     refine step_split (t := 34) rfl (fun h34 => ?_) (fun h34 => ?_)
     ·refine qp rfl rfl rfl ?_
      refine qp rfl rfl rfl ?_
      refine qp rfl rfl rfl ?_
      refine qp rfl rfl rfl ?_
      refine qp rfl rfl rfl ?_
      refine qp rfl rfl rfl ?_
      refine qp rfl rfl rfl ?_
      refine step_pure rfl (pure_pick_yes rfl rfl) ?_
      refine step_nil ?_
      refine less_of ⟨rfl, rfl, ?_, trivial⟩ rfl
      refine congrArg some (congrArg Value.bool ?_)
      clear hd hd2 hr hr2
      rw [Bool.eq_iff_iff]
      simp_all [str_list] <;> omega
     ·refine step_pure rfl (pure_fieldAddr rfl rfl rfl rfl rfl (by decide)) ?_
      refine step_pure rfl (pure_load (i := 1) rfl rfl rfl rfl rfl rfl) ?_
      refine step_pure rfl (pure_len_slice rfl rfl rfl) ?_
      refine step_pure rfl (pure_fieldAddr rfl rfl rfl rfl rfl (by decide)) ?_
      refine step_pure rfl (pure_load (i := 0) rfl rfl rfl rfl rfl rfl) ?_
      refine step_pure rfl (pure_len_slice rfl rfl rfl) ?_
      refine step_pure rfl (pure_neq rfl rfl) ?_
      refine step_pure rfl (pure_pick_no rfl rfl) ?_
      refine step_nil ?_
      refine less_of ⟨rfl, rfl, ?_, trivial⟩ rfl
      refine congrArg some (congrArg Value.bool ?_)
      clear hd hd2 hr hr2
      rw [Bool.eq_iff_iff]
      simp_all [str_list] <;> omega
 repeat refine c_seq ?_
 refine c_cond rfl (fun h => ?_) (fun h => ?_)
 ·rw [show sameB f g = false by
   unfold sameB
   rw [decide_eq_false_iff_not]
   rintro ⟨h1, h2, h3, h4, h5⟩
   simp [h1, h2, h3, h4, h5] at h]
  repeat refine c_seq ?_
  refine c_region ?_
  refine qa rfl rfl ?_
  refine step_nil ?_
  exact c_ret ⟨_, res_tmp Try.results60 rfl, rfl⟩
 ·obtain ⟨h1, h2, h3, h4, h5⟩ : f.kind = g.kind ∧ f.a = g.a ∧ f.b = g.b ∧ str f.data = str g.data ∧ f.rs.length = g.rs.length := by simpa using h
  have hsame : sameB f g = decide (f.rs = g.rs) := by
   unfold sameB
   simp [h1, h2, h3, h4]
  clear h
  refine c_skip ?_
  repeat refine c_seq ?_
  refine c_region ?_
  refine qa rfl rfl ?_
  refine step_nil ?_
  repeat refine c_seq ?_
  refine c_block ?_
  repeat refine c_seq ?_
  refine c_loop (α := Nat) (fun i => [(2, .pointer (some ⟨b2, 0, none⟩)), (3, .pointer (some ⟨b3, 0, none⟩)), (5, .int .i64 i)])
   (fun _ => [⟨b3, [.int .i64 g.kind, .int .i64 g.a, .int .i64 g.b, .slice rb2 g.rs.length rc2, .slice db2 g.data.length dc2], 59⟩, ⟨b2, [.int .i64 f.kind, .int .i64 f.a, .int .i64 f.b, .slice rb f.rs.length rc, .slice db f.data.length dc], 59⟩])
   (fun i => i ≤ f.rs.length ∧ f.rs.take i = g.rs.take i) (fun i => f.rs.length - i) 0 ⟨Nat.zero_le _, rfl⟩ (less_of ⟨rfl, rfl, rfl, trivial⟩ rfl) ?_
  rintro i ⟨hi, htk⟩
  repeat refine c_seq ?_
  refine c_region ?_
  refine qm rfl rfl ?_
  refine step_pure rfl (pure_fieldAddr rfl rfl rfl rfl rfl (by decide)) ?_
  refine step_pure rfl (pure_load (i := 1) rfl rfl rfl rfl rfl rfl) ?_
  refine step_pure rfl (pure_len_slice rfl rfl rfl) ?_
  refine step_pure rfl (pure_lss rfl rfl) ?_
  refine step_nil ?_
  repeat refine c_seq ?_
  refine c_cond rfl (fun h => ?_) (fun h => ?_)
  ·have hlt : i < f.rs.length := by have := of_decide_eq_true h; omega
   clear h
   have hlt2 : i < g.rs.length := by omega
   refine c_skip ?_
   repeat refine c_seq ?_
   refine c_block ?_
   obtain ⟨p, cap1, hq, hp⟩ := hr.at (by decide) hlt
   cases hq
   obtain ⟨p2, cap2, hq, hp2⟩ := hr2.at (by decide) hlt2
   cases hq
   have hc1 : ∀ j v, [Value.int .i64 (f.rs.getD i (0, 0)).1, .int .i64 (f.rs.getD i (0, 0)).2][j]? = some v → Cel ⟨w, [], []⟩ ((p.add (i * 2)).add j) v := by
    intro j v hj
    have k := rgCells_at f.rs i hlt
    rcases j with _ | _ | j
    ·cases hj; exact ⟨hp 0 _ k.1, List.not_mem_nil⟩
    ·cases hj; exact ⟨hp 1 _ k.2, List.not_mem_nil⟩
    ·cases hj
   have hc2 : ∀ j v, [Value.int .i64 (g.rs.getD i (0, 0)).1, .int .i64 (g.rs.getD i (0, 0)).2][j]? = some v → Cel ⟨w, [], []⟩ ((p2.add (i * 2)).add j) v := by
    intro j v hj
    have k := rgCells_at g.rs i hlt2
    rcases j with _ | _ | j
    ·cases hj; exact ⟨hp2 0 _ k.1, List.not_mem_nil⟩
    ·cases hj; exact ⟨hp2 1 _ k.2, List.not_mem_nil⟩
    ·cases hj
   have hg1 : f.rs.getD i (0, 0) = f.rs[i] := by rw [List.getD_eq_getElem?_getD, List.getElem?_eq_getElem hlt]; rfl
   have hg2 : g.rs.getD i (0, 0) = g.rs[i] := by rw [List.getD_eq_getElem?_getD, List.getElem?_eq_getElem hlt2]; rfl
   rw [hg1] at hc1
   rw [hg2] at hc2
   clear hg1 hg2 hp hp2
   have hstep : f.rs[i] = g.rs[i] → f.rs.take (i + 1) = g.rs.take (i + 1) := by
    intro h
    rw [List.take_succ_eq_append_getElem hlt, List.take_succ_eq_append_getElem hlt2, htk, h]
   have hno : f.rs[i] ≠ g.rs[i] → f.rs ≠ g.rs := by
    intro h h2
    apply h
    simp only [h2]
   generalize f.rs[i] = x at *
   generalize g.rs[i] = y at *
   obtain ⟨x1, x2⟩ := x
   obtain ⟨y1, y2⟩ := y
   repeat refine c_seq ?_
   refine d_region2 [1, 11, 17, 25, 35, 41, 51, 57, 65, 75, 81] ([⟨b3, [.int .i64 g.kind, .int .i64 g.a, .int .i64 g.b, .slice (some p2) g.rs.length rc2, .slice db2 g.data.length dc2], 59⟩, ⟨b2, [.int .i64 f.kind, .int .i64 f.a, .int .i64 f.b, .slice (some p) f.rs.length rc, .slice db f.data.length dc], 59⟩]) follows (by kernel_rfl) ?_
   refine d_pure0 rfl rfl rfl (pure_fieldAddr rfl rfl rfl rfl rfl (by decide)) ?_
   refine d_pure1 rfl rfl rfl (pure_load (i := 1) rfl rfl rfl rfl rfl rfl) (by exact SubMem.refl _) ?_
   refine qd rfl rfl rfl rfl ?_
   refine d_as0 rfl rfl rfl (pure_indexAddr_at rfl rfl rfl rfl rfl (by omega) (by omega)) (show _ = Value.pointer (some (p.add (i * 2))) from by show Value.pointer (some (p.add ((i : Int).toNat * 2))) = _; rw [Int.toNat_natCast]) ?_
   refine d_pure1 rfl rfl rfl (pure_cel_agg rfl rfl rfl rfl hc1) (by exact SubMem.refl _) ?_
   refine d_pure0 rfl rfl rfl (pure_fieldAddr rfl rfl rfl rfl rfl (by decide)) ?_
   refine d_pure1 rfl rfl rfl (pure_load (i := 0) rfl rfl rfl rfl rfl rfl) (by exact SubMem.refl _) ?_
   refine qd rfl rfl rfl rfl ?_
   refine d_as0 rfl rfl rfl (pure_indexAddr_at rfl rfl rfl rfl rfl (by omega) (by omega)) (show _ = Value.pointer (some (p2.add (i * 2))) from by show Value.pointer (some (p2.add ((i : Int).toNat * 2))) = _; rw [Int.toNat_natCast]) ?_
   refine d_pure1 rfl rfl rfl (pure_cel_agg rfl rfl rfl rfl hc2) (by exact SubMem.refl _) ?_
   refine d_pure0 rfl rfl rfl (pure_neq_rg rfl rfl) ?_
   refine d_nil ?_
   repeat refine c_seq ?_
   refine c_cond rfl (fun h => ?_) (fun h => ?_)
   ·rw [hsame, decide_eq_false (hno (by intro h2; cases h2; simp at h))]
    repeat refine c_seq ?_
    refine c_region ?_
    refine qa rfl rfl ?_
    refine step_nil ?_
    exact c_ret ⟨_, res_tmp Try.results60 rfl, rfl⟩
   ·have hxy : (x1, x2) = (y1, y2) := by
     simp at h
     rw [h.1, h.2]
    refine c_skip ?_
    repeat refine c_seq ?_
    refine c_region ?_
    refine qm rfl rfl ?_
    refine step_pure rfl (pure_add64 rfl rfl (by omega) (by omega)) ?_
    refine qa rfl rfl ?_
    refine step_nil ?_
    exact ⟨i + 1, ⟨hlt, hstep hxy⟩, by omega, less_of ⟨rfl, rfl, rfl, trivial⟩ rfl⟩
  ·have hie : i = f.rs.length := by have := of_decide_eq_false h; omega
   have hfg : f.rs = g.rs := by rw [hie, List.take_length, h5, List.take_length] at htk; exact htk
   rw [hsame, decide_eq_true hfg]
   refine c_exit ?_
   repeat refine c_seq ?_
   refine c_region ?_
   refine qa rfl rfl ?_
   refine step_nil ?_
   exact c_ret ⟨_, res_tmp Try.results60 rfl, rfl⟩
/-! all -/
def allB (fs gs : List Fr) : Bool := decide (fs.length = gs.length) && (fs.zip gs).all fun p => sameB p.1 p.2
set_option maxHeartbeats 4000000 in
theorem all_any (fs gs : List Fr) (v u : Value) (w : World) (hv : FrsC (fun p x => w.cell? p = some x) v fs) (hu : FrsC (fun p x => w.cell? p = some x) u gs) (hrl : ∀ f ∈ fs, f.rs.length ≤ 140737488355328) (hfl : fs.length ≤ 140737488355328) :
  Gives tb 42 [v, u] w (.bool (allB fs gs)) := by
 obtain ⟨base1, cap1, rfl, hcap1⟩ := hv.slice
 obtain ⟨base2, cap2, rfl, hcap2⟩ := hu.slice
 refine gives_of (fn := Try.f42) Try.func42 rfl Try.ntmps42 rfl ?_
 repeat refine c_seq ?_
 refine c_region ?_
 refine qa rfl rfl ?_
 refine step_nil ?_
 repeat refine c_seq ?_
 refine c_region ?_
 refine qm rfl rfl ?_
 refine step_pure rfl (pure_len_slice rfl rfl rfl) ?_
 refine qm rfl rfl ?_
 refine step_pure rfl (pure_len_slice rfl rfl rfl) ?_
 refine step_pure rfl (pure_neq rfl rfl) ?_
 refine step_nil ?_
 repeat refine c_seq ?_
 refine c_cond rfl (fun h => ?_) (fun h => ?_)
 ·have hne : fs.length ≠ gs.length := by
   intro h2
   simp [h2] at h
  rw [show allB fs gs = false by unfold allB; rw [decide_eq_false hne, Bool.false_and]]
  repeat refine c_seq ?_
  refine c_region ?_
  refine qa rfl rfl ?_
  refine step_nil ?_
  exact c_ret ⟨_, res_tmp Try.results42 rfl, rfl⟩
 ·have heq : fs.length = gs.length := by
   simp at h
   omega
  clear h
  refine c_skip ?_
  repeat refine c_seq ?_
  refine c_region ?_
  refine qa rfl rfl ?_
  refine step_nil ?_
  repeat refine c_seq ?_
  refine c_block ?_
  repeat refine c_seq ?_
  refine c_loop (α := Nat) (fun i => [(0, .slice base1 fs.length cap1), (1, .slice base2 gs.length cap2), (5, .int .i64 i)]) (fun _ => [])
   (fun i => i ≤ fs.length ∧ ∀ j, j < i → ∀ f g, fs[j]? = some f → gs[j]? = some g → sameB f g = true) (fun i => fs.length - i) 0 ⟨Nat.zero_le _, by omega⟩ (less_sub ⟨rfl, rfl, rfl, trivial⟩ (List.nil_sublist _)) ?_
  rintro i ⟨hi, hall⟩
  repeat refine c_seq ?_
  refine c_region ?_
  refine qm rfl rfl ?_
  refine qm rfl rfl ?_
  refine step_pure rfl (pure_len_slice rfl rfl rfl) ?_
  refine step_pure rfl (pure_lss rfl rfl) ?_
  refine step_nil ?_
  repeat refine c_seq ?_
  refine c_cond rfl (fun h => ?_) (fun h => ?_)
  ·have hlt : i < fs.length := by have := of_decide_eq_true h; omega
   clear h
   have hlt2 : i < gs.length := by omega
   refine c_skip ?_
   repeat refine c_seq ?_
   refine c_block ?_
   obtain ⟨p1, cp, cs, hq, hfc, hp⟩ := hv.at hlt
   cases hq
   obtain ⟨p2, cp, ds, hq, hgc, hp2⟩ := hu.at hlt2
   cases hq
   have hcells : ∀ j x, cs[j]? = some x → Cel ⟨w, [], []⟩ ((p1.add (i * 5)).add j) x := fun j x hx => ⟨hp j x hx, List.not_mem_nil⟩
   have hcells2 : ∀ j x, ds[j]? = some x → Cel ⟨w, [], []⟩ ((p2.add (i * 5)).add j) x := fun j x hx => ⟨hp2 j x hx, List.not_mem_nil⟩
   have hsm := fun w' (kp : Keep w w' []) => same_any _ _ cs ds w' (hfc.mono fun p x hp => cell_keep hp kp List.not_mem_nil) (hgc.mono fun p x hp => cell_keep hp kp List.not_mem_nil) (hrl _ (List.getElem_mem hlt))
   have h5 := hfc.five
   have h52 := hgc.five
   repeat refine c_seq ?_
   refine d_region2 [1, 9, 17, 27, 33, 41, 49, 59, 67, 73] ([]) follows (by kernel_rfl) ?_
   refine qd rfl rfl rfl rfl ?_
   refine qd rfl rfl rfl rfl ?_
   refine d_as0 rfl rfl rfl (pure_indexAddr_at rfl rfl rfl rfl rfl (by omega) (by omega)) (show _ = Value.pointer (some (p1.add (i * 5))) from by show Value.pointer (some (p1.add ((i : Int).toNat * 5))) = _; rw [Int.toNat_natCast]) ?_
   refine d_pure1 rfl rfl rfl (pure_cel_agg rfl rfl rfl h5 hcells) (by exact SubMem.refl _) ?_
   refine qd rfl rfl rfl rfl ?_
   refine qd rfl rfl rfl rfl ?_
   refine d_as0 rfl rfl rfl (pure_indexAddr_at rfl rfl rfl rfl rfl (by omega) (by omega)) (show _ = Value.pointer (some (p2.add (i * 5))) from by show Value.pointer (some (p2.add ((i : Int).toNat * 5))) = _; rw [Int.toNat_natCast]) ?_
   refine d_pure1 rfl rfl rfl (pure_cel_agg rfl rfl rfl h52 hcells2) (by exact SubMem.refl _) ?_
   refine d_gives rfl rfl rfl fun60 rfl (fun w' _ kp => hsm w' kp) (by exact SubMem.refl _) ?_
   refine d_pure0 rfl rfl rfl (pure_assign rfl) ?_
   refine d_nil ?_
   repeat refine c_seq ?_
   refine c_region ?_
   refine qm rfl rfl ?_
   refine step_pure rfl (pure_not rfl) ?_
   refine step_nil ?_
   repeat refine c_seq ?_
   refine c_cond rfl (fun h => ?_) (fun h => ?_)
   ·have hz : sameB fs[i] gs[i] = false := by simpa using h
    rw [show allB fs gs = false by
     unfold allB
     rw [Bool.and_eq_false_iff]
     right
     rw [List.all_eq_false]
     exact ⟨(fs[i], gs[i]), List.mem_iff_getElem.2 ⟨i, by rw [List.length_zip]; omega, by rw [List.getElem_zip]⟩, by simp [hz]⟩]
    repeat refine c_seq ?_
    refine c_region ?_
    refine qa rfl rfl ?_
    refine step_nil ?_
    exact c_ret ⟨_, res_tmp Try.results42 rfl, rfl⟩
   ·have hz : sameB fs[i] gs[i] = true := by simpa using h
    refine c_skip ?_
    repeat refine c_seq ?_
    refine c_region ?_
    refine qm rfl rfl ?_
    refine step_pure rfl (pure_add64 rfl rfl (by omega) (by omega)) ?_
    refine qa rfl rfl ?_
    refine step_nil ?_
    refine ⟨i + 1, ⟨hlt, fun j hj f g hf hg => ?_⟩, by omega, less_sub ⟨rfl, rfl, rfl, trivial⟩ (List.nil_sublist _)⟩
    by_cases hji : j = i
    ·subst hji
     rw [List.getElem?_eq_getElem hlt] at hf
     rw [List.getElem?_eq_getElem hlt2] at hg
     cases hf
     cases hg
     exact hz
    ·exact hall j (by omega) f g hf hg
  ·have hie : i = fs.length := by have := of_decide_eq_false h; omega
   rw [show allB fs gs = true by
    unfold allB
    rw [Bool.and_eq_true, List.all_eq_true]
    refine ⟨by simpa using heq, fun p hp => ?_⟩
    obtain ⟨j, hj, rfl⟩ := List.mem_iff_getElem.1 hp
    rw [List.length_zip] at hj
    rw [List.getElem_zip]
    exact hall j (by omega) _ _ (List.getElem?_eq_getElem (by omega)) (List.getElem?_eq_getElem (by omega))]
   refine c_exit ?_
   repeat refine c_seq ?_
   refine c_region ?_
   refine qa rfl rfl ?_
   refine step_nil ?_
   exact c_ret ⟨_, res_tmp Try.results42 rfl, rfl⟩
theorem allB_iff : ∀ {fs gs : List Fr}, (∀ f ∈ fs, Bytes f.data) → (∀ g ∈ gs, Bytes g.data) → (allB fs gs = true ↔ fs = gs)
 | [], [], _, _ => by simp [allB]
 | [], g :: gs, _, _ => by simp [allB]
 | f :: fs, [], _, _ => by simp [allB]
 | f :: fs, g :: gs, h1, h2 => by
  have ih := allB_iff (fs := fs) (gs := gs) (fun x hx => h1 x (.tail _ hx)) (fun x hx => h2 x (.tail _ hx))
  have hs := sameB_iff (h1 f (.head _)) (h2 g (.head _))
  unfold allB at ih ⊢
  simp only [List.zip_cons_cons, List.all_cons, List.length_cons, Nat.add_right_cancel_iff, List.cons.injEq, Bool.and_eq_true, decide_eq_true_eq] at ih ⊢
  rw [hs, ← ih]
  constructor
  ·rintro ⟨a, b, c⟩; exact ⟨b, a, c⟩
  ·rintro ⟨b, a, c⟩; exact ⟨a, b, c⟩
end Go.Proofs.Ythieegnhjoehbaa
