/- Sum of a text; the document's padding: walked. -/
import Derived.Test.YthieegnhjoehbaaS4
namespace Go.Proofs.Ythieegnhjoehbaa
open Go.RowKit Go.Vc
set_option linter.unusedVariables false
theorem cs_ne {C : Addr → Value → Prop} {t : List Int} {cs : List Value} (h : HsC C t cs) : cs ≠ [] := by
 intro h0
 have := (hsC_one h).1
 rw [h0] at this
 cases this
theorem shaSum_any (B : List Int) (v : Value) (w : World) (hv : SlC (At w) 1 v B.length (row B)) (hb : Bytes B) (hle : B.length ≤ 900000) : Gives tb 64 [v] w (.agg (row (shaF B)).toArray) := by
 replace hv : SlC (Cz (fun _ => True) ⟨w, [], []⟩) 1 v B.length (row B) := hv.mono (fun p x h => ⟨⟨h, by simp⟩, trivial⟩)
 have hsl := shaF_len B
 obtain ⟨base, cap, rfl, hcap⟩ := slc_str hv
 refine gives_ofk (fn := Try.f64) Try.func64 rfl Try.ntmps64 rfl (fun on => ?_)
 repeat refine s_seqs ?_
 refine s_reg ?_
 refine step_alloc rfl zero30 (fun b2 => ?_)
 refine Vc.step_end (fun a w ok => ?_)
 first | (refine WPs.run ?_ a w ok; clear ok w a) | skip
 repeat refine s_seqs ?_
 refine s_reg ?_
 refine step_alloc rfl zero115 (fun b3 => ?_)
 refine Vc.step_end (fun a w ok => ?_)
 first | (refine WPs.run ?_ a w ok; clear ok w a) | skip
 repeat refine s_seqs ?_
 refine s_reg ?_
 refine qm rfl rfl ?_
 refine step_wm [⟨b3, _, 115⟩] [_] on.sc rfl fun66 rfl (List.Perm.refl _) (fun w' Z' hh kp h0 hZ hZ0 hC => add_W [] B _ b3 _ w' h0 hZ hZ0 hs_zero (hv.mono hC) (by intro x hx; cases hx) hb (by show 0 + B.length ≤ _; omega)) ?_
 rintro u m1 E3 g ⟨rfl, cs1, rfl, ht1⟩
 replace on := on.next g
 clear g hv
 refine Vc.step_end (fun a w ok => ?_)
 first | (refine WPs.run ?_ a w ok; clear ok w a) | skip
 repeat refine s_seqs ?_
 refine s_reg ?_
 refine step_gives rfl fun67 rfl (fun w' hh kp => done_any B cs1 b3 w' (hh.1 (cs_ne ht1.c)) (ht1.c.mono (Cz.now kp)) hb hle) ?_
 refine step_store_agg 1 rfl rfl rfl (row_one _) rfl (by rw [row_len]; exact hsl) rfl rfl (Nat.le_of_ble_eq_true rfl) (splice_all (by rw [row_len, hsl]; rfl)) ?_
 refine Vc.step_end (fun a w ok => ?_)
 first | (refine WPs.run ?_ a w ok; clear ok w a) | skip
 exact s_ret fun a w ok => ends_k on (.inr rfl) ok (res_cell_agg (i := 1) Try.results64 rfl rfl rfl rfl rfl (by show 0 + 32 ≤ (row (shaF B)).length; rw [row_len, hsl]; decide) (ints_whole _ _ 32 hsl))
theorem padT_mod (t : List Int) : (padT t).length = t.length + 9 + (119 - t.length % 64) % 64 ∧ (padT t).length % 64 = 0 := by
 have h : (padT t).length = t.length + 9 + (119 - t.length % 64) % 64 := by
  unfold padT
  rw [List.length_append, List.length_cons, List.length_append, zeros_len, lenB_len]
  omega
 exact ⟨h, by rw [h]; omega⟩
theorem padT_bytes {t : List Int} (h : Bytes t) : Bytes (padT t) := h.append (bytes_cons (by decide) ((Bytes.replicate _).append (lenB_bytes _)))
theorem snoc_zero (t : List Int) (j : Nat) : t ++ 128 :: zeros (j + 1) = (t ++ 128 :: zeros j) ++ [0] := by
 unfold zeros
 rw [List.replicate_succ', List.append_assoc]
 rfl
theorem pad_len0 (t : List Int) (j : Nat) : (t ++ 128 :: zeros j).length = t.length + 1 + j := by rw [List.length_append, List.length_cons, zeros_len]; omega
set_option maxHeartbeats 2000000 in
theorem padded_P (B : List Int) (v : Value) (w : World) {Z : Nat → Prop} (hZ : ∀ b, w.heap.size ≤ b → Z b) (hv : SlC (At w) 1 v B.length (row B)) (hle : B.length ≤ 900000) : GivesP tb 79 [v] w Z (ByR (padT B)) := by
 replace hv : SlC (Cel ⟨w, [], []⟩) 1 v B.length (row B) := hv.mono (fun p x h => ⟨h, by simp⟩)
 obtain ⟨base, cap, rfl, hcap⟩ := slc_str hv
 refine givesP_of (fn := Try.f79) Try.func79 rfl Try.ntmps79 rfl hZ (byR_mono _) (fun on => ?_)
 repeat refine s_seqs ?_
 refine s_reg ?_
 refine qa rfl rfl ?_
 refine Vc.step_end (fun a w ok => ?_)
 first | (refine WPs.run ?_ a w ok; clear ok w a) | skip
 repeat refine s_seqs ?_
 refine s_reg ?_
 refine step_buildSlice0 rfl rfl rfl rfl (fun b6 => ?_)
 refine qm rfl rfl ?_
 refine step_app8 (L := []) 0 rfl rfl (sl_empty ty5 5 b6) rfl hv rfl (by omega) (fun base1 cap1 e1 hs1 => ?_)
 refine step_buildSlice rfl rfl rfl rfl elem5 (by decide) (by decide) (fill_one .u8 128 rfl) (fun b9 => ?_)
 refine l_let 0 rfl (fun E2 g hc => ?_)
 have hv2 := slis_cz (sl_built ty5 5 b9 (row [128]) 1 rfl) (hc _ on.sc)
 replace on := on.next g
 clear g hc
 refine step_app8 (l := [128]) 0 rfl rfl hs1 rfl (hv2.mono Cz.cel) rfl (by show _ + 1 ≤ _; omega) (fun base2 cap2 e2 hs2 => ?_)
 refine qa rfl rfl ?_
 refine Vc.step_end (fun a w ok => ?_)
 first | (refine WPs.run ?_ a w ok; clear ok w a) | skip
 obtain ⟨J, hJ⟩ : ∃ J, J = (119 - B.length % 64) % 64 := ⟨_, rfl⟩
 repeat refine s_seqs ?_
 refine s_block ?_
 repeat refine s_seqs ?_
 refine s_loopP (α := Nat × SlS) (fun x => [(0, .slice base B.length cap), (3, .slice x.2.base (B.length + 1 + x.1) x.2.cap)]) (fun x => [x.2.e])
  (fun x _ => x.1 ≤ J ∧ SlIs ty5 5 x.2.e x.2.base (B.length + 1 + x.1) x.2.cap (row (B ++ 128 :: zeros x.1))) (fun x => J - x.1) (0, ⟨base2, 0, cap2, e2⟩) ⟨Nat.zero_le _, by have := hs2; rw [show 0 + B.length + [(128 : Int)].length = B.length + 1 + 0 by simp] at this; exact this⟩ (less_sub ⟨rfl, by show some (Value.slice base2 (0 + B.length + 1) cap2) = some (Value.slice base2 (B.length + 1 + 0) cap2); rw [show 0 + B.length + 1 = B.length + 1 + 0 by omega], trivial⟩ (by repeat (first | exact List.Sublist.refl _ | exact List.nil_sublist _ | apply List.Sublist.cons_cons | apply List.Sublist.cons))) ?_
 rintro ⟨j, ⟨xb, _, xc, xe⟩⟩ E4 ⟨hj, hs⟩ g
 replace on := on.next g
 clear g hs1 hs2 hv2 hv
 dsimp only at hj hs ⊢
 repeat refine s_seqs ?_
 refine s_reg ?_
 refine qm rfl rfl ?_
 refine step_pure rfl (pure_len_slice rfl rfl rfl) ?_
 refine step_pure rfl (pure_rem_pos rfl rfl (by omega) (by decide)) ?_
 refine step_pure rfl (pure_neq rfl rfl) ?_
 refine Vc.step_end (fun a w ok => ?_)
 first | (refine WPs.run ?_ a w ok; clear ok w a) | skip
 repeat refine s_seqs ?_
 refine s_cond rfl (fun h => ?_) (fun h => ?_)
 ·have hlt : j < J := by
   have hne : ((B.length + 1 + j : Nat) : Int) % 64 ≠ 56 := by simpa using h
   omega
  clear h
  refine s_skip fun a w ok => WPs.run ?_ a w ok
  clear ok w a
  repeat refine s_seqs ?_
  refine s_block ?_
  repeat refine s_seqs ?_
  refine s_reg ?_
  refine qm rfl rfl ?_
  refine step_buildSlice rfl rfl rfl rfl elem5 (by decide) (by decide) (fill_one .u8 0 rfl) (fun b16 => ?_)
  refine l_let 0 rfl (fun E5 g hc => ?_)
  have hv2 := slis_cz (sl_built ty5 5 b16 (row [0]) 1 rfl) (hc _ on.sc)
  clear hc
  refine step_app8 (l := [0]) 0 rfl rfl hs rfl (hv2.mono Cz.cel) rfl (by show _ + 1 ≤ _; omega) (fun base3 cap3 e3 hs3 => ?_)
  refine qa rfl rfl ?_
  refine Vc.step_end (fun a w ok => ?_)
  refine ⟨(j + 1, ⟨base3, 0, cap3, e3⟩), E5, ⟨hlt, by show SlIs _ _ _ _ _ _ (row (B ++ 128 :: zeros (j + 1))); rw [snoc_zero]; exact hs3⟩, by show J - (j + 1) < J - j; omega, g, Less.ok ?_ ok⟩
  exact less_of ⟨rfl, rfl, trivial⟩ rfl
 ·have hje : j = J := by
   have he : ((B.length + 1 + j : Nat) : Int) % 64 = 56 := by simpa using h
   omega
  subst hje
  clear h
  refine s_exit fun a w ok => WPs.run ?_ a w ok
  clear ok w a
  have hpad : B ++ 128 :: zeros j ++ lenB B.length = padT B := by
   unfold padT
   rw [← hJ, List.append_assoc]
   rfl
  have hTl := pad_len0 B j
  rw [← hTl] at hs ⊢
  generalize B ++ 128 :: zeros j = T at *
  repeat refine s_seqs ?_
  refine s_reg ?_
  refine qm rfl rfl ?_
  refine step_pure rfl (pure_len_slice rfl rfl rfl) ?_
  first | refine step_pure rfl (pure_mul64 rfl rfl (by omega) (by omega)) ?_ | refine step_pure rfl (pure_mul rfl rfl) ?_
  refine qa rfl rfl ?_
  refine Vc.step_end (fun a w ok => ?_)
  first | (refine WPs.run ?_ a w ok; clear ok w a) | skip
  repeat refine s_seqs ?_
  refine s_reg ?_
  refine qa rfl rfl ?_
  refine Vc.step_end (fun a w ok => ?_)
  first | (refine WPs.run ?_ a w ok; clear ok w a) | skip
  repeat refine s_seqs ?_
  refine s_block ?_
  repeat refine s_seqs ?_
  refine s_loopP (α := Nat × SlS) (fun x => [(3, .slice x.2.base (T.length + x.1) x.2.cap), (4, .int .i64 (8 * (B.length : Int))), (5, .int .i64 (7 - (x.1 : Int)))]) (fun x => [x.2.e])
   (fun x _ => x.1 ≤ 8 ∧ SlIs ty5 5 x.2.e x.2.base (T.length + x.1) x.2.cap (row (T ++ (lenB B.length).take x.1))) (fun x => 8 - x.1) (0, ⟨xb, 0, xc, xe⟩) ⟨Nat.zero_le _, by show SlIs _ _ _ _ _ _ (row (T ++ [])); rw [List.append_nil]; exact hs⟩ (less_of ⟨rfl, rfl, rfl, trivial⟩ rfl) ?_
  rintro ⟨i, ⟨yb, _, yc, ye⟩⟩ E7 ⟨hi, hs⟩ g
  replace on := on.next g
  clear g
  dsimp only at hi hs ⊢
  repeat refine s_seqs ?_
  refine s_reg ?_
  refine qm rfl rfl ?_
  refine step_pure rfl (pure_geq rfl rfl) ?_
  refine Vc.step_end (fun a w ok => ?_)
  first | (refine WPs.run ?_ a w ok; clear ok w a) | skip
  repeat refine s_seqs ?_
  refine s_cond rfl (fun h => ?_) (fun h => ?_)
  ·have hlt : i < 8 := by have := of_decide_eq_true h; omega
   clear h
   refine s_skip fun a w ok => WPs.run ?_ a w ok
   clear ok w a
   have hnx := lenB_next B.length hlt
   obtain ⟨x, hx⟩ : ∃ x, x = ((8 * (B.length : Int)) / 2 ^ (56 - 8 * i)) % 256 := ⟨_, rfl⟩
   rw [← hx] at hnx
   have happ : T ++ (lenB B.length).take (i + 1) = (T ++ (lenB B.length).take i) ++ [x] := by rw [hnx, List.append_assoc]
   have hw : IntKind.u64.wrap (8 * (7 - (i : Int))) = 8 * (7 - (i : Int)) := by rw [IntKind.wrap_u64]; omega
   repeat refine s_seqs ?_
   refine s_meetP (α := SlS) (fun y => [(3, .slice y.base (T.length + (i + 1)) y.cap), (4, .int .i64 (8 * (B.length : Int))), (5, .int .i64 (7 - (i : Int)))]) (fun y => [y.e])
    (fun y _ => SlIs ty5 5 y.e y.base (T.length + (i + 1)) y.cap (row (T ++ (lenB B.length).take (i + 1)))) ?_ ?_
   ·repeat refine s_seqs ?_
    refine s_block ?_
    repeat refine s_seqs ?_
    refine s_reg ?_
    refine qm rfl rfl ?_
    refine qm rfl rfl ?_
    refine qm rfl rfl ?_
    first | refine step_pure rfl (pure_mul64 rfl rfl (by omega) (by omega)) ?_ | refine step_pure rfl (pure_mul rfl rfl) ?_
    refine step_as rfl (pure_conv rfl rfl rfl rfl) (show _ = Value.int .u64 (8 * (7 - (i : Int))) from by rw [hw]) ?_
    refine step_pure rfl (pure_shr rfl rfl (by omega)) ?_
    refine step_as rfl (pure_conv rfl rfl rfl rfl) (show _ = Value.int .u8 x from by rw [hx, wrap_u8, show (min (8 * (7 - (i : Int))).toNat IntKind.i64.bits) = 56 - 8 * i from by show min _ 64 = _; omega]) ?_
    refine step_buildSlice rfl rfl rfl rfl elem5 (by decide) (by decide) (fill_one .u8 x rfl) (fun b32 => ?_)
    refine l_let 0 rfl (fun E5 g hc => ?_)
    have hv2 := slis_cz (sl_built ty5 5 b32 (row [x]) 1 rfl) (hc _ on.sc)
    clear hc
    refine step_app8 (l := [x]) 0 rfl rfl hs rfl (hv2.mono Cz.cel) rfl (by show _ + 1 ≤ _; omega) (fun base3 cap3 e3 hs3 => ?_)
    refine qa rfl rfl ?_
    refine Vc.step_end (fun a w ok => ?_)
    refine ⟨⟨base3, 0, cap3, e3⟩, E5, by rw [happ]; exact hs3, g, Less.ok ?_ ok⟩
    exact less_of ⟨rfl, rfl, rfl, trivial⟩ rfl
   ·rintro ⟨zb, _, zc, ze⟩ E8 hs4 g a w ok
    dsimp only at hs4 ok
    refine WPs.run ?_ a w ok
    clear ok w a
    repeat refine s_seqs ?_
    refine s_reg ?_
    refine qm rfl rfl ?_
    first | refine step_pure rfl (pure_sub64 rfl rfl (by omega) (by omega)) ?_ | refine step_pure rfl (pure_sub rfl rfl) ?_
    refine qa rfl rfl ?_
    refine Vc.step_end (fun a w ok => ?_)
    refine ⟨(i + 1, ⟨zb, 0, zc, ze⟩), E8, ⟨hlt, hs4⟩, by show 8 - (i + 1) < 8 - i; omega, g, Less.ok ?_ ok⟩
    exact less_of ⟨rfl, rfl, by show some (Value.int .i64 (7 - (i : Int) - 1)) = some (Value.int .i64 (7 - ((i + 1 : Nat) : Int))); rw [show (7 - (i : Int) - 1) = 7 - ((i + 1 : Nat) : Int) by omega], trivial⟩ rfl
  ·have hie : i = 8 := by have := of_decide_eq_false h; omega
   subst hie
   clear h
   refine s_exit fun a w ok => WPs.run ?_ a w ok
   clear ok w a
   rw [show (lenB B.length).take 8 = lenB B.length from List.take_of_length_le (by rw [lenB_len]; exact Nat.le_refl _), hpad] at hs
   have hpl : T.length + 8 = (padT B).length := by rw [← hpad, List.length_append, lenB_len]
   rw [hpl] at hs ⊢
   generalize padT B = P at *
   repeat refine s_seqs ?_
   refine s_reg ?_
   refine qm rfl rfl ?_
   refine qa rfl rfl ?_
   refine Vc.step_end (fun a w ok => ?_)
   first | (refine WPs.run ?_ a w ok; clear ok w a) | skip
   refine s_let 0 rfl (fun E9 g hc => ?_)
   exact s_ret fun a w ok => ends_givesP (on.next g) (.inr rfl) ok (res_tmp Try.results79 rfl) (byR_mono _) (slis_cz hs (hc _ on.sc))
end Go.Proofs.Ythieegnhjoehbaa
