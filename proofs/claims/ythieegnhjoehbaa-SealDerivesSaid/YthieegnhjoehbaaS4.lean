/- The hash of what was added: Done; Sum of a text: walked. -/
import Derived.Test.YthieegnhjoehbaaS3
namespace Go.Proofs.Ythieegnhjoehbaa
open Go.RowKit Go.Vc
set_option linter.unusedVariables false
theorem take_next {α : Type} (l : List α) {i : Nat} (h : i < l.length) : l.take (i + 1) = l.take i ++ [l[i]] := (List.take_append_getElem h).symm
/-- Bytes of a row that is filled one by one. -/
def fillAt (l : List Int) (i : Nat) : List Int := l.take i ++ zeros (l.length - i)
theorem fillAt_len (l : List Int) {i : Nat} (h : i ≤ l.length) : (fillAt l i).length = l.length := by
 unfold fillAt
 rw [List.length_append, List.length_take, zeros_len]
 omega
theorem fillAt_set (l : List Int) {i : Nat} (h : i < l.length) {x : Int} (hx : x = l.getD i 0) : (row (fillAt l i)).set i (.int .u8 x) = row (fillAt l (i + 1)) := by
 rw [row_set]
 congr 1
 have h1 : (l.take i).length = i := by rw [List.length_take]; omega
 unfold fillAt
 rw [List.set_append_right _ _ (by rw [h1]; exact Nat.le_refl _), h1, Nat.sub_self, show l.length - i = (l.length - (i + 1)) + 1 by omega]
 unfold zeros
 rw [List.replicate_succ, take_next l h, List.append_assoc]
 show _ ++ (x :: _) = _ ++ (_ :: _)
 rw [hx, List.getD_eq_getElem?_getD, List.getElem?_eq_getElem h]
 rfl
theorem fillAt_end (l : List Int) : fillAt l l.length = l := by
 unfold fillAt
 rw [List.take_length, Nat.sub_self]
 exact List.append_nil _
theorem fillAt_zero (l : List Int) : fillAt l 0 = zeros l.length := rfl
theorem hs_get (V : V8) (v : Value) (n : Int) (bg : Bool) {i : Nat} (h : i < 8) : (hsB V v n bg)[i]? = some (.int .u32 (wd (V.l.getD i 0))) := by
 rw [List.getElem?_append_left (by rw [wRow_len]; exact h)]
 exact wRow_get _ _ h
theorem outB_get (V : V8) {i : Nat} (h : i < 32) : (outB V).getD i 0 = (wd (V.l.getD (i / 4) 0) / 2 ^ (24 - 8 * (i % 4))) % 256 := by
 unfold outB
 rw [List.getD_eq_getElem?_getD, List.getElem?_map, List.getElem?_range h]
 rfl
theorem lenB_get (n : Nat) {i : Nat} (h : i < 8) : (lenB n).getD i 0 = ((8 * (n : Int)) / 2 ^ (56 - 8 * i)) % 256 := by
 unfold lenB
 rw [List.getD_eq_getElem?_getD, List.getElem?_map, List.getElem?_range h]
 rfl
theorem lenB_next (n : Nat) {i : Nat} (h : i < 8) : (lenB n).take (i + 1) = (lenB n).take i ++ [((8 * (n : Int)) / 2 ^ (56 - 8 * i)) % 256] := by
 rw [take_next _ (by rw [lenB_len]; exact h), ← lenB_get n h, List.getD_eq_getElem?_getD, List.getElem?_eq_getElem (by rw [lenB_len]; exact h)]
 rfl
theorem zeroV_cells : hsB ⟨0, 0, 0, 0, 0, 0, 0, 0⟩ (.slice none 0 0) ((([] : List Int).length : Nat)) false = [.int .u32 0, .int .u32 0, .int .u32 0, .int .u32 0, .int .u32 0, .int .u32 0, .int .u32 0, .int .u32 0, .slice none 0 0, .int .i64 0, .bool false] := by kernel_rfl
theorem hs_zero {C : Addr → Value → Prop} : HsC C [] [.int .u32 0, .int .u32 0, .int .u32 0, .int .u32 0, .int .u32 0, .int .u32 0, .int .u32 0, .int .u32 0, .slice none 0 0, .int .i64 0, .bool false] :=
 ⟨⟨0, 0, 0, 0, 0, 0, 0, 0⟩, .slice none 0 0, false, zeroV_cells.symm, .inr ⟨rfl, rfl⟩, slc_nil⟩
theorem byte_one {x : Int} (h : 0 ≤ x ∧ x < 256) : Bytes [x] := by
 intro y hy
 have : y = x := by simpa using hy
 omega
theorem bytes_cons {x : Int} {l : List Int} (h : 0 ≤ x ∧ x < 256) (hl : Bytes l) : Bytes (x :: l) := by
 intro y hy
 rcases List.mem_cons.1 hy with rfl | hy
 ·exact h
 ·exact hl y hy
theorem hsC_one {C : Addr → Value → Prop} {t : List Int} {cs : List Value} (h : HsC C t cs) : cs.length = 11 ∧ ∀ v ∈ cs, v.oneCell' = true := by
 obtain ⟨V, v, bg, rfl, -, base, cap, rfl, -⟩ := h
 refine ⟨rfl, fun x hx => ?_⟩
 rcases List.mem_append.1 hx with hx | hx
 ·exact wRow_one _ x hx
 ·simp at hx
  rcases hx with rfl | rfl | rfl <;> rfl
set_option maxHeartbeats 2000000 in
set_option maxRecDepth 10000 in
theorem done_any (t : List Int) (cs : List Value) (b : Nat) (w : World) (hc : w.heap[b]? = some (.cells cs.toArray 115 (0, 0))) (ht : HsC (At w) t cs) (hbt : Bytes t) (hle : t.length ≤ 900000) :
  Gives tb 67 [.pointer (some ⟨b, 0, none⟩)] w (.agg (row (shaF t)).toArray) := by
 have hcl := hsC_one ht
 replace ht : HsC (Cz (fun _ => True) ⟨w, [], []⟩) t cs := ht.mono (fun p x h => ⟨⟨h, by simp⟩, trivial⟩)
 refine gives_ofk (fn := Try.f67) Try.func67 rfl Try.ntmps67 rfl (fun on => ?_)
 repeat refine s_seqs ?_
 refine s_reg ?_
 refine step_alloc rfl zero30 (fun b2 => ?_)
 refine Vc.step_end (fun a w ok => ?_)
 (refine WPs.run ?_ a w ok; clear ok w a)
 repeat refine s_seqs ?_
 refine s_reg ?_
 refine step_alloc rfl zero115 (fun b3 => ?_)
 refine Vc.step_end (fun a w ok => ?_)
 (refine WPs.run ?_ a w ok; clear ok w a)
 repeat refine s_seqs ?_
 refine s_reg ?_
 refine qm rfl rfl ?_
 refine step_pure rfl (pure_ptr_neq rfl rfl rfl rfl) ?_
 refine Vc.step_end (fun a w ok => ?_)
 (refine WPs.run ?_ a w ok; clear ok w a)
 repeat refine s_seqs ?_
 refine s_cond_yes rfl rfl ?_
 repeat refine s_seqs ?_
 refine s_reg ?_
 refine qm rfl rfl ?_
 refine step_pure rfl (pure_nilCheck rfl) ?_
 refine step_pure rfl (pure_view_agg (vs := cs) rfl rfl rfl hc (by simp) (by show 0 + 11 ≤ cs.length; omega) (by rw [List.drop_zero]; exact List.take_of_length_le (by rw [hcl.1]; exact Nat.le_refl _))) ?_
 refine step_store_agg 0 rfl rfl rfl hcl.2 rfl hcl.1 rfl rfl (Nat.le_of_ble_eq_true rfl) (splice_all (by rw [hcl.1]; rfl)) ?_
 refine Vc.step_end (fun a w ok => ?_)
 (refine WPs.run ?_ a w ok; clear ok w a)
 obtain ⟨V0, r0, bg0, hcs0, hV0, hr0⟩ := id ht
 have hn0 : 8 * (t.length : Int) ≤ 7200000 := by omega
 have h9 : cs[9]? = some (.int .i64 (t.length : Nat)) := by rw [hcs0]; rfl
 clear hcs0 hV0 hr0
 repeat refine s_seqs ?_
 refine s_reg ?_
 refine step_pure rfl (pure_fieldAddr rfl rfl rfl rfl rfl (by decide)) ?_
 refine step_pure rfl (pure_load (i := 0) rfl rfl rfl rfl rfl h9) ?_
 refine step_pure rfl (pure_mul64 rfl rfl (by omega) (by omega)) ?_
 refine qa rfl rfl ?_
 refine Vc.step_end (fun a w ok => ?_)
 (refine WPs.run ?_ a w ok; clear ok w a)
 repeat refine s_seqs ?_
 refine s_reg ?_
 refine step_buildSlice rfl rfl rfl rfl elem5 (by decide) (by decide) (fill_one .u8 128 rfl) (fun b15 => ?_)
 refine l_let 0 rfl (fun E2 g hc => ?_)
 have hv2 := slis_cz (sl_built ty5 5 b15 (row [128]) 1 rfl) (hc _ on.sc)
 replace on := on.next g
 replace ht := ht.mono g.cz
 clear g hc
 refine step_wm [⟨b3, cs, 115⟩] [_] on.sc rfl fun66 rfl (List.Perm.refl _) (fun w' Z' hh kp h0 hZ hZ0 hC => add_W t [128] cs b3 _ w' h0 hZ hZ0 (ht.mono hC) (hv2.mono hC) hbt (byte_one (by decide)) (by show t.length + 1 ≤ _; omega)) ?_
 rintro u m1 E3 g ⟨rfl, cs1, rfl, ht1⟩
 replace on := on.next g
 clear g hv2 ht
 refine Vc.step_end (fun a w ok => ?_)
 (refine WPs.run ?_ a w ok; clear ok w a)
 obtain ⟨J, hJ⟩ : ∃ J, J = (119 - t.length % 64) % 64 := ⟨_, rfl⟩
 repeat refine s_seqs ?_
 refine s_block ?_
 repeat refine s_seqs ?_
 refine s_loopP (α := Nat × List Value) (fun x => [(2, .pointer (some ⟨b2, 0, none⟩)), (3, .pointer (some ⟨b3, 0, none⟩)), (4, .int .i64 (8 * (t.length : Int)))]) (fun x => [⟨b3, x.2, 115⟩, ⟨b2, row (fillAt (shaF t) 0), 30⟩])
  (fun x E => x.1 ≤ J ∧ HsT (Cz (fun _ => True) E) (t ++ 128 :: zeros x.1) x.2) (fun x => J - x.1) (0, cs1) ⟨Nat.zero_le _, ht1⟩ (less_of ⟨rfl, rfl, rfl, trivial⟩ (by rw [fillAt_zero, shaF_len]; rfl)) ?_
 rintro ⟨j, cs2⟩ E4 ⟨hj, ht2⟩ g
 replace on := on.next g
 clear g ht1
 dsimp only at hj ht2 ⊢
 have hTl : (t ++ 128 :: zeros j).length = t.length + 1 + j := by rw [List.length_append, List.length_cons, zeros_len]; omega
 have hTb : Bytes (t ++ 128 :: zeros j) := hbt.append (bytes_cons (by decide) (Bytes.replicate j))
 have hsnoc : t ++ 128 :: zeros (j + 1) = (t ++ 128 :: zeros j) ++ [0] := by
  unfold zeros
  rw [List.replicate_succ', List.append_assoc]
  rfl
 have hll := left_len (t ++ 128 :: zeros j)
 rw [hTl] at hll
 have hTp : t ++ 128 :: zeros j ++ (lenB t.length).take 0 = t ++ 128 :: zeros j := List.append_nil _
 have ht3 := ht2
 obtain ⟨r2, rfl, hr2⟩ := ht2
 obtain ⟨rb, rc, rfl, hrc⟩ := slc_str hr2
 rw [hll] at ht3 ⊢
 repeat refine s_seqs ?_
 refine s_reg ?_
 refine step_pure rfl (pure_fieldAddr rfl rfl rfl rfl rfl (by decide)) ?_
 refine step_pure rfl (pure_load (i := 0) rfl rfl rfl rfl rfl rfl) ?_
 refine step_pure rfl (pure_len_slice rfl rfl rfl) ?_
 refine step_pure rfl (pure_neq rfl rfl) ?_
 refine Vc.step_end (fun a w ok => ?_)
 (refine WPs.run ?_ a w ok; clear ok w a)
 repeat refine s_seqs ?_
 refine s_cond rfl (fun h => ?_) (fun h => ?_)
 ·have hlt : j < J := by
   have hne : ((t.length + 1 + j) % 64 : Nat) ≠ 56 := by
    intro h2
    rw [h2] at h
    exact absurd h (by decide)
   omega
  clear h
  refine s_skip fun a w ok => WPs.run ?_ a w ok
  clear ok w a
  repeat refine s_seqs ?_
  refine s_block ?_
  repeat refine s_seqs ?_
  refine s_reg ?_
  refine step_buildSlice rfl rfl rfl rfl elem5 (by decide) (by decide) (fill_one .u8 0 rfl) (fun b21 => ?_)
  refine l_let 0 rfl (fun E5 g hc => ?_)
  have hv2 := slis_cz (sl_built ty5 5 b21 (row [0]) 1 rfl) (hc _ on.sc)
  replace on := on.next g
  replace ht3 := ht3.mono g.cz
  have g5 := g
  clear g hc
  refine step_wm [⟨b3, _, 115⟩] [_] on.sc rfl fun66 rfl (List.Perm.refl _) (fun w' Z' hh kp h0 hZ hZ0 hC => add_W (t ++ 128 :: zeros j) [0] _ b3 _ w' h0 hZ hZ0 (ht3.c.mono hC) (hv2.mono hC) hTb (byte_one (by decide)) (by show _ + 1 ≤ _; omega)) ?_
  rintro u m1 E6 g ⟨rfl, cs1, rfl, ht1⟩
  refine Vc.step_end (fun a w ok => ?_)
  refine ⟨(j + 1, cs1), E6, ⟨hlt, by show HsT _ (t ++ 128 :: zeros (j + 1)) _; rw [hsnoc]; exact ht1⟩, by show J - (j + 1) < J - j; omega, g5.trans g, Less.ok ?_ ok⟩
  exact less_of ⟨rfl, rfl, rfl, trivial⟩ rfl
 ·have hje : j = J := by
   have he : ((t.length + 1 + j) % 64 : Nat) = 56 := by
    have h2 := by simpa using h
    omega
   omega
  subst hje
  clear h
  refine s_exit fun a w ok => WPs.run ?_ a w ok
  clear ok w a
  have hpad : t ++ 128 :: zeros j ++ lenB t.length = padT t := by
   unfold padT
   rw [← hJ, List.append_assoc]
   rfl
  generalize t ++ 128 :: zeros j = T at *
  repeat refine s_seqs ?_
  refine s_reg ?_
  refine qa rfl rfl ?_
  refine Vc.step_end (fun a w ok => ?_)
  (refine WPs.run ?_ a w ok; clear ok w a)
  repeat refine s_seqs ?_
  refine s_block ?_
  repeat refine s_seqs ?_
  refine s_loopP (α := Nat × List Value) (fun x => [(2, .pointer (some ⟨b2, 0, none⟩)), (3, .pointer (some ⟨b3, 0, none⟩)), (4, .int .i64 (8 * (t.length : Int))), (5, .int .i64 (56 - 8 * (x.1 : Int)))]) (fun x => [⟨b3, x.2, 115⟩, ⟨b2, row (fillAt (shaF t) 0), 30⟩])
   (fun x E => x.1 ≤ 8 ∧ HsT (Cz (fun _ => True) E) (T ++ (lenB t.length).take x.1) x.2) (fun x => 8 - x.1) (0, _) ⟨Nat.zero_le _, by show HsT _ (T ++ (lenB t.length).take 0) _; rw [hTp]; exact ht3⟩ (less_of ⟨rfl, rfl, rfl, rfl, trivial⟩ rfl) ?_
  rintro ⟨i, cs3⟩ E7 ⟨hi, ht4⟩ g
  replace on := on.next g
  clear g ht3 hr2
  dsimp only at hi ht4 ⊢
  repeat refine s_seqs ?_
  refine s_reg ?_
  refine qm rfl rfl ?_
  refine step_pure rfl (pure_geq rfl rfl) ?_
  refine Vc.step_end (fun a w ok => ?_)
  (refine WPs.run ?_ a w ok; clear ok w a)
  repeat refine s_seqs ?_
  refine s_cond rfl (fun h => ?_) (fun h => ?_)
  ·have hlt : i < 8 := by have := of_decide_eq_true h; omega
   clear h
   refine s_skip fun a w ok => WPs.run ?_ a w ok
   clear ok w a
   have hnx := lenB_next t.length hlt
   have hby : 0 ≤ ((8 * (t.length : Int)) / 2 ^ (56 - 8 * i)) % 256 ∧ ((8 * (t.length : Int)) / 2 ^ (56 - 8 * i)) % 256 < 256 := by omega
   have hTk : ((lenB t.length).take i).length ≤ 8 := by rw [List.length_take]; omega
   have hbk : Bytes (T ++ (lenB t.length).take i) := hTb.append (fun x hx => lenB_bytes _ x (List.mem_of_mem_take hx))
   obtain ⟨x, hx⟩ : ∃ x, x = ((8 * (t.length : Int)) / 2 ^ (56 - 8 * i)) % 256 := ⟨_, rfl⟩
   rw [← hx] at hnx hby
   have hT3 : (T ++ (lenB t.length).take i).length ≤ 999000 := by rw [List.length_append]; omega
   have happ : T ++ (lenB t.length).take (i + 1) = (T ++ (lenB t.length).take i) ++ [x] := by rw [hnx, List.append_assoc]
   repeat refine s_seqs ?_
   refine s_meetP (α := List Value) (fun y => [(2, .pointer (some ⟨b2, 0, none⟩)), (3, .pointer (some ⟨b3, 0, none⟩)), (4, .int .i64 (8 * (t.length : Int))), (5, .int .i64 (56 - 8 * (i : Int)))]) (fun y => [⟨b3, y, 115⟩, ⟨b2, row (fillAt (shaF t) 0), 30⟩])
    (fun y E => HsT (Cz (fun _ => True) E) (T ++ (lenB t.length).take (i + 1)) y) ?_ ?_
   ·repeat refine s_seqs ?_
    refine s_block ?_
    repeat refine s_seqs ?_
    refine s_reg ?_
    refine qm rfl rfl ?_
    refine qm rfl rfl ?_
    refine step_pure rfl (pure_shr rfl rfl (by omega)) ?_
    refine step_as rfl (pure_conv rfl rfl rfl rfl) (show _ = Value.int .u8 x from by rw [hx, wrap_u8, show (min (56 - 8 * (i : Int)).toNat IntKind.i64.bits) = 56 - 8 * i from by show min _ 64 = _; omega]) ?_
    refine step_buildSlice rfl rfl rfl rfl elem5 (by decide) (by decide) (fill_one .u8 x rfl) (fun b31 => ?_)
    refine l_let 0 rfl (fun E8 g hc => ?_)
    have hv2 := slis_cz (sl_built ty5 5 b31 (row [x]) 1 rfl) (hc _ on.sc)
    replace on := on.next g
    replace ht4 := ht4.mono g.cz
    have g5 := g
    clear g hc
    refine step_wm [⟨b3, _, 115⟩] [_] on.sc rfl fun66 rfl (List.Perm.refl _) (fun w' Z' hh kp h0 hZ hZ0 hC => add_W (T ++ (lenB t.length).take i) [x] _ b3 _ w' h0 hZ hZ0 (ht4.c.mono hC) (hv2.mono hC) hbk (byte_one hby) (by show _ + 1 ≤ _; omega)) ?_
    rintro u m1 E9 g ⟨rfl, cs1, rfl, ht1⟩
    refine Vc.step_end (fun a w ok => ?_)
    refine ⟨cs1, E9, by rw [happ]; exact ht1, g5.trans g, Less.ok ?_ ok⟩
    exact less_of ⟨rfl, rfl, rfl, rfl, trivial⟩ rfl
   ·intro cs4 E8 ht5 g a w ok
    refine WPs.run ?_ a w ok
    clear ok w a
    repeat refine s_seqs ?_
    refine s_reg ?_
    refine qm rfl rfl ?_
    refine step_pure rfl (pure_sub64 rfl rfl (by omega) (by omega)) ?_
    refine qa rfl rfl ?_
    refine Vc.step_end (fun a w ok => ?_)
    refine ⟨(i + 1, cs4), E8, ⟨hlt, ht5⟩, by show 8 - (i + 1) < 8 - i; omega, g, Less.ok ?_ ok⟩
    exact less_of ⟨rfl, rfl, rfl, by show some (Value.int .i64 (56 - 8 * (i : Int) - 8)) = some (Value.int .i64 (56 - 8 * ((i + 1 : Nat) : Int))); rw [show (56 - 8 * (i : Int) - 8) = 56 - 8 * ((i + 1 : Nat) : Int) by omega], trivial⟩ rfl
  ·have hie : i = 8 := by have := of_decide_eq_false h; omega
   subst hie
   clear h
   refine s_exit fun a w ok => WPs.run ?_ a w ok
   clear ok w a
   rw [show (lenB t.length).take 8 = lenB t.length from List.take_of_length_le (by rw [lenB_len]; exact Nat.le_refl _), hpad] at ht4
   have hsl := shaF_len t
   have hsF : shaF t = outB (hashV firstV (padT t)) := rfl
   obtain ⟨r5, rfl, -⟩ := ht4
   generalize hashV firstV (padT t) = V at *
   generalize shaF t = O at *
   subst hsF
   generalize ((padT t).length : Int) = pn at *
   repeat refine s_seqs ?_
   refine s_reg ?_
   refine qm rfl rfl ?_
   refine Vc.step_end (fun a w ok => ?_)
   (refine WPs.run ?_ a w ok; clear ok w a)
   have hfe : fillAt (outB V) 32 = outB V := by
    have := fillAt_end (outB V)
    rw [hsl] at this
    exact this
   repeat refine s_seqs ?_
   refine s_meet [(2, .pointer (some ⟨b2, 0, none⟩))] [⟨b2, row (outB V), 30⟩] ?_ (fun a w ok => WPs.run ?_ a w ok)
   ·repeat refine c_seq ?_
    refine c_block ?_
    repeat refine c_seq ?_
    refine c_loop (α := Nat) (fun i => [(2, .pointer (some ⟨b2, 0, none⟩)), (3, .pointer (some ⟨b3, 0, none⟩)), (33, .int .i64 i)]) (fun i => [⟨b3, hsB V r5 pn true, 115⟩, ⟨b2, row (fillAt (outB V) i), 30⟩])
     (fun i => i ≤ 32) (fun i => 32 - i) 0 (by decide) (less_of ⟨rfl, rfl, rfl, trivial⟩ rfl) ?_
    intro i hi
    repeat refine c_seq ?_
    refine c_region ?_
    refine step_pure rfl (pure_lss rfl rfl) ?_
    refine step_nil ?_
    repeat refine c_seq ?_
    refine c_cond rfl (fun h => ?_) (fun h => ?_)
    ·have hlt : i < 32 := by have := of_decide_eq_true h; omega
     clear h
     refine c_skip ?_
     have hg := hs_get V r5 pn true (i := i / 4) (by omega)
     have hs := fillAt_set (outB V) (i := i) (by omega) (outB_get V hlt).symm
     have hfl := fillAt_len (outB V) (i := i) (by omega)
     repeat refine c_seq ?_
     refine c_meet [(2, .pointer (some ⟨b2, 0, none⟩)), (3, .pointer (some ⟨b3, 0, none⟩)), (33, .int .i64 i)] [⟨b3, hsB V r5 pn true, 115⟩, ⟨b2, row (fillAt (outB V) (i + 1)), 30⟩] ?_ ?_
     ·repeat refine c_seq ?_
      refine c_block ?_
      repeat refine c_seq ?_
      refine c_region ?_
      refine qm rfl rfl ?_
      refine qa rfl rfl ?_
      refine step_nil ?_
      repeat refine c_seq ?_
      refine c_region ?_
      refine qm rfl rfl ?_
      refine qm rfl rfl ?_
      refine step_pure rfl (pure_quo_pos rfl rfl (by omega) (by omega) (by decide)) ?_
      refine step_pure rfl (pure_fieldAddr rfl rfl rfl rfl rfl (by decide)) ?_
      refine step_pure rfl (pure_ix (off' := i / 4) rfl rfl rfl rfl rfl (by omega) (by omega) (by show 0 + 0 + ((i : Int) / 4).toNat * 1 = _; omega)) ?_
      refine step_pure rfl (pure_load (i := 0) rfl rfl rfl rfl rfl hg) ?_
      refine qm rfl rfl ?_
      refine step_pure rfl (pure_rem_pos rfl rfl (by omega) (by decide)) ?_
      refine step_pure rfl (pure_mul64 rfl rfl (by omega) (by omega)) ?_
      refine step_pure rfl (pure_sub64 rfl rfl (by omega) (by omega)) ?_
      refine step_pure rfl (pure_shr rfl rfl (by omega)) ?_
      refine step_as rfl (pure_conv rfl rfl rfl rfl) (show _ = Value.int .u8 ((wd (V.l.getD (i / 4) 0) / 2 ^ (24 - 8 * (i % 4))) % 256) from by rw [wrap_u8, show (min (24 - 8 * ((i : Int) % 4)).toNat IntKind.u32.bits) = 24 - 8 * (i % 4) from by show min _ 32 = _; omega]) ?_
      refine step_pure rfl (pure_ix (off' := i) rfl rfl rfl rfl rfl (by omega) (by omega) (by show 0 + (i : Int).toNat * 1 = _; omega)) ?_
      refine step_store 1 rfl rfl rfl rfl rfl rfl rfl rfl (by show i < (row (fillAt (outB V) i)).length; rw [row_len]; omega) hs ?_
      refine step_nil ?_
      exact less_of ⟨rfl, rfl, rfl, trivial⟩ rfl
     ·repeat refine c_seq ?_
      refine c_region ?_
      refine step_pure rfl (pure_add64 rfl rfl (by omega) (by omega)) ?_
      refine qm rfl rfl ?_
      refine step_nil ?_
      exact ⟨i + 1, hlt, by omega, less_of ⟨rfl, rfl, rfl, trivial⟩ rfl⟩
    ·have hie : i = 32 := by have := of_decide_eq_false h; omega
     subst hie
     refine c_exit ?_
     rw [hfe]
     exact less_sub ⟨rfl, trivial⟩ (by repeat (first | exact List.Sublist.refl _ | exact List.nil_sublist _ | apply List.Sublist.cons_cons | apply List.Sublist.cons))
   repeat refine s_seqs ?_
   refine s_reg ?_
   refine step_pure rfl (pure_load_agg (i := 0) rfl rfl rfl rfl rfl (by show 0 + 32 ≤ (row (outB V)).length; rw [row_len, hsl]; decide) (ints_whole _ _ 32 hsl)) ?_
   refine step_store_agg 0 rfl rfl rfl (row_one _) rfl (by rw [row_len]; exact hsl) rfl rfl (by show 0 + 32 ≤ (row (outB V)).length; rw [row_len, hsl]; decide) (splice_all (by rfl)) ?_
   refine Vc.step_end (fun a w ok => ?_)
   (refine WPs.run ?_ a w ok; clear ok w a)
   exact s_ret fun a w ok => ends_k on (.inr rfl) ok (res_cell_agg (i := 0) Try.results67 rfl rfl rfl rfl rfl (by show 0 + 32 ≤ (row (outB V)).length; rw [row_len, hsl]; decide) (ints_whole _ _ 32 hsl))
end Go.Proofs.Ythieegnhjoehbaa
