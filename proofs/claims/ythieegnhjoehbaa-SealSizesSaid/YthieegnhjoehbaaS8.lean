/- Codes: Tag, Key, Equal; the document's pad, Sum, Tag: walked. -/
import Derived.Test.YthieegnhjoehbaaS6
import Derived.Test.YthieegnhjoehbaaS7
namespace Go.Proofs.Ythieegnhjoehbaa
open Go.RowKit Go.Vc
set_option linter.unusedVariables false
abbrev tagF (key text : List Int) : List Int := (macF key text).take 16
theorem tagF_len (key text : List Int) : (tagF key text).length = 16 := by rw [List.length_take, macF_len]; rfl
theorem tagF_bytes (key text : List Int) : Bytes (tagF key text) := bytes_take (macF_bytes _ _) _
theorem macTag_any (key text : List Int) (kv v1 tv : Value) (w : World) (hk : SlC (At w) 1 kv key.length (row key)) (h1 : SlC (At w) 1 v1 1 [tv]) (ht : SlC (At w) 1 tv text.length (row text)) (hkb : Bytes key) (htb : Bytes text)
  (hkl : key.length ≤ 100000) (htl : text.length ≤ 100000) : Gives tb 29 [kv, v1] w (.agg (row (tagF key text)).toArray) := by
 refine gives_of (fn := Try.f29) Try.func29 rfl Try.ntmps29 rfl ?_
 have hml := macF_len key text
 have hms := fun w' (kp : Keep w w' []) => macSum_any key text kv v1 tv w' (hk.mono (at_keep kp)) (h1.mono (at_keep kp)) (ht.mono (at_keep kp)) hkb htb hkl htl
 have htl := tagF_len key text
 have hdr : ((row (macF key text)).drop 0).take 16 = row (tagF key text) := ints_sub .u8 _ 0 16
 generalize tagF key text = G at *
 generalize macF key text = M at *
 repeat refine c_seq ?_
 refine c_region ?_
 refine step_alloc rfl zero28 (fun b4 => ?_)
 refine step_nil ?_
 repeat refine c_seq ?_
 refine c_region ?_
 refine qm rfl rfl ?_
 refine qm rfl rfl ?_
 refine step_gives rfl fun48 rfl (fun w' hh kp => hms w' kp) ?_
 refine step_alloc rfl zero30 (fun b5 => ?_)
 refine step_store_agg 0 rfl rfl rfl (row_one _) rfl (by rw [row_len]; exact hml) rfl rfl (Nat.le_of_ble_eq_true rfl) (splice_all (by rw [row_len, hml]; rfl)) ?_
 refine step_nil ?_
 repeat refine c_seq ?_
 refine c_region ?_
 refine step_pure rfl (pure_arr_hi rfl rfl rfl rfl rfl (by decide) (by decide)) ?_
 refine step_pure rfl (pure_toArr rfl rfl rfl (by decide)) ?_
 refine step_pure rfl (pure_load_agg (i := 0) rfl rfl rfl rfl rfl (by show 0 + 16 ≤ (row M).length; rw [row_len, hml]; decide) hdr) ?_
 refine step_store_agg 1 rfl rfl rfl (row_one _) rfl (by rw [row_len]; exact htl) rfl rfl (Nat.le_of_ble_eq_true rfl) (splice_all (by rw [row_len, htl]; rfl)) ?_
 refine step_nil ?_
 exact c_ret ⟨_, res_cell_agg (i := 1) Try.results29 rfl rfl rfl rfl rfl (by show 0 + 16 ≤ (row G).length; rw [row_len, htl]; decide) (ints_whole _ _ 16 htl), rfl⟩
theorem guard16 : tb.P.eqGuardType tb.P.depth 28 = false := by kernel_rfl
theorem macEqual_any (a b : List Int) (w : World) (ha : a.length = 16) (hb : b.length = 16) : Gives tb 38 [.agg (row a).toArray, .agg (row b).toArray] w (.bool (decide (a = b))) := by
 refine gives_of (fn := Try.f38) Try.func38 rfl Try.ntmps38 rfl ?_
 repeat refine c_seq ?_
 refine c_region ?_
 refine step_box_agg rfl rfl (fun b2 => ?_)
 refine step_box_agg rfl rfl (fun b3 => ?_)
 refine qa rfl rfl ?_
 refine step_nil ?_
 repeat refine c_seq ?_
 refine c_region ?_
 refine step_pure rfl (pure_load_agg (i := 1) rfl rfl rfl rfl rfl (by show 0 + 16 ≤ (row a).length; rw [row_len, ha]; decide) (ints_whole _ _ 16 ha)) ?_
 refine step_pure rfl (pure_load_agg (i := 0) rfl rfl rfl rfl rfl (by show 0 + 16 ≤ (row b).length; rw [row_len, hb]; decide) (ints_whole _ _ 16 hb)) ?_
 refine step_pure rfl (pure_eql_arr rfl rfl guard16 rfl rfl rfl rfl rfl rfl ha hb) ?_
 refine qa rfl rfl ?_
 refine step_nil ?_
 exact c_ret ⟨_, res_tmp Try.results38 rfl, rfl⟩
theorem rowOf_sl : rowOf [Value.slice none 0 0] (1 * 1) = [Value.slice none 0 0] := by kernel_rfl
theorem fill_sl (a : Option Addr) (n c : Nat) : fillL (fun i => some (i * ty22.size, ty22.size)) (rowOf [Value.slice none 0 0] (1 * ty22.size)) [(0, .slice a n c)] = some [.slice a n c] := by
 rw [show 1 * ty22.size = 1 * 1 from rfl, rowOf_sl]
 rfl
theorem macKey_any (secret : List Int) (kv : Value) (s : ByteArray) (w : World) (hk : SlC (At w) 1 kv secret.length (row secret)) (hkb : Bytes secret) (hkl : secret.length ≤ 100000) (hs : s.size ≤ 100000) :
  Gives tb 23 [kv, .string s] w (.agg (row (macF secret (bytesOf s))).toArray) := by
 replace hk : SlC (Cz (fun _ => True) ⟨w, [], []⟩) 1 kv secret.length (row secret) := hk.mono (fun p x h => ⟨⟨h, by simp⟩, trivial⟩)
 have hml := macF_len secret (bytesOf s)
 have hbl := bytesOf_len s
 have hbb := bytesOf_bytes s
 refine gives_ofk (fn := Try.f23) Try.func23 rfl Try.ntmps23 rfl (fun on => ?_)
 repeat refine s_seqs ?_
 refine s_reg ?_
 refine step_alloc rfl zero30 (fun b4 => ?_)
 refine Vc.step_end (fun a w ok => ?_)
 first | (refine WPs.run ?_ a w ok; clear ok w a) | skip
 repeat refine s_seqs ?_
 refine s_reg ?_
 refine qm rfl rfl ?_
 refine qm rfl rfl ?_
 refine step_strbytes rfl rfl rfl rfl rfl rfl rfl rfl (fun tv E1 g htv => ?_)
 replace htv := htv _ on.sc
 replace on := on.next g
 replace hk := hk.mono g.cz
 clear g
 generalize bytesOf s = B at *
 obtain ⟨tb1, tc1, rfl, htc1⟩ := slc_str htv
 refine step_buildSlice rfl rfl rfl rfl elem22 (by decide) (by decide) (fill_sl _ _ _) (fun b8 => ?_)
 refine l_let 0 rfl (fun E2 g hc => ?_)
 have h1 := slis_cz (sl_built ty22 22 b8 [Value.slice tb1 B.length tc1] 1 rfl) (hc _ on.sc)
 replace on := on.next g
 replace hk := hk.mono g.cz
 replace htv := htv.mono g.cz
 clear g hc
 refine step_gives rfl fun48 rfl (fun w' hh kp => macSum_any secret B _ _ _ w' (hk.mono (Cz.now kp)) (h1.mono (Cz.now kp)) (htv.mono (Cz.now kp)) hkb hbb hkl (by omega)) ?_
 refine step_store_agg 0 rfl rfl rfl (row_one _) rfl (by rw [row_len]; exact hml) rfl rfl (Nat.le_of_ble_eq_true rfl) (splice_all (by rw [row_len, hml]; rfl)) ?_
 refine Vc.step_end (fun a w ok => ?_)
 first | (refine WPs.run ?_ a w ok; clear ok w a) | skip
 exact s_ret fun a w ok => ends_k on (.inr rfl) ok (res_cell_agg (i := 0) Try.results23 rfl rfl rfl rfl rfl (by show 0 + 32 ≤ (row (macF secret B)).length; rw [row_len, hml]; decide) (ints_whole _ _ 32 hml))
/-! the document's -/
def zpad (l : List Int) (j : Nat) : List Int := l ++ zeros j
def PdM (l : List Int) (u : Value) (m1 : Mem) (C : Addr → Value → Prop) : Prop := ∃ base cap e, u = .slice base l.length cap ∧ m1 = [e] ∧ SlIs ty5 5 e base l.length cap (row l)
theorem pdM_mono (l : List Int) : ∀ v m1 (C C' : Addr → Value → Prop), (∀ p x, C p x → C' p x) → PdM l v m1 C → PdM l v m1 C' := fun _ _ _ _ _ h => h
/-- The block, its first i bytes changed. -/
def xorAt (key : List Int) (x : Int) (i : Nat) : List Int := (padK key x).take i ++ (zpad (keyB key) (64 - (keyB key).length)).drop i
theorem zpad_len (key : List Int) : (zpad (keyB key) (64 - (keyB key).length)).length = 64 := by
 have := keyB_le key
 unfold zpad
 rw [List.length_append, zeros_len]
 omega
theorem xorAt_len (key : List Int) (x : Int) {i : Nat} (h : i ≤ 64) : (xorAt key x i).length = 64 := by
 unfold xorAt
 rw [List.length_append, List.length_take, List.length_drop, padK_len, zpad_len]
 omega
theorem zpad_get (key : List Int) {i : Nat} : (zpad (keyB key) (64 - (keyB key).length)).getD i 0 = (keyB key).getD i 0 := by
 unfold zpad
 rw [List.getD_eq_getElem?_getD, List.getD_eq_getElem?_getD]
 by_cases h : i < (keyB key).length
 ·rw [List.getElem?_append_left h]
 ·rw [List.getElem?_append_right (by omega), List.getElem?_eq_none (show (keyB key).length ≤ i by omega)]
  unfold zeros
  rw [List.getElem?_replicate]
  split <;> rfl
theorem xorAt_get (key : List Int) (x : Int) {i : Nat} (h : i < 64) : (xorAt key x i).getD i 0 = (keyB key).getD i 0 := by
 rw [← zpad_get key]
 have h1 : ((padK key x).take i).length = i := by rw [List.length_take, padK_len]; omega
 unfold xorAt
 rw [List.getD_eq_getElem?_getD, List.getElem?_append_right (by omega), h1, Nat.sub_self, List.getElem?_drop, Nat.add_zero, ← List.getD_eq_getElem?_getD]
theorem xorAt_set (key : List Int) (x : Int) {i : Nat} (h : i < 64) : (xorAt key x i).set i ((padK key x).getD i 0) = xorAt key x (i + 1) := by
 have h1 : ((padK key x).take i).length = i := by rw [List.length_take, padK_len]; omega
 have h2 := zpad_len key
 unfold xorAt
 rw [List.set_append_right _ _ (by omega), h1, Nat.sub_self, padK_next key x h, List.append_assoc, List.drop_eq_getElem_cons (by omega)]
 rfl
theorem xorAt_end (key : List Int) (x : Int) : xorAt key x 64 = padK key x := by
 unfold xorAt
 rw [List.take_of_length_le (by rw [padK_len]; exact Nat.le_refl _), List.drop_eq_nil_of_le (by rw [zpad_len]; exact Nat.le_refl _), List.append_nil]
theorem zpad_next (l : List Int) (j : Nat) : zpad l (j + 1) = zpad l j ++ [0] := by
 unfold zpad zeros
 rw [List.replicate_succ', List.append_assoc]
theorem keyB_def (key : List Int) : keyB key = if key.length > 64 then shaF key else key := rfl
set_option maxHeartbeats 2000000 in
theorem rpad_W (key : List Int) (x : Int) (kv : Value) (w : World) {Z : Nat → Prop} (hZ : ∀ k, w.heap.size ≤ k → Z k) (hx : 0 ≤ x ∧ x < 256) (hk : SlC (At w) 1 kv key.length (row key)) (hkb : Bytes key) (hkl : key.length ≤ 100000) :
  Wm tb 55 [kv, .int .u8 x] w Z [] (PdM (padK key x)) := by
 replace hk : SlC (Cel ⟨w, [], []⟩) 1 kv key.length (row key) := hk.mono fun p x h => ⟨h, by simp⟩
 obtain ⟨kb, kc, rfl, hkcap⟩ := slc_str hk
 refine wm_of (fn := Try.f55) Try.func55 rfl Try.ntmps55 rfl trivial hZ (by intro b hb; cases hb) (pdM_mono _) (fun on => ?_)
 repeat refine s_seqs ?_
 refine s_reg ?_
 refine qa rfl rfl ?_
 refine Vc.step_end (fun a w ok => ?_)
 first | (refine WPs.run ?_ a w ok; clear ok w a) | skip
 repeat refine s_seqs ?_
 refine s_reg ?_
 refine step_buildSlice0 rfl rfl rfl rfl (fun b8 => ?_)
 refine qm rfl rfl ?_
 refine step_app8 (L := []) 0 rfl rfl (sl_empty ty5 5 b8) rfl hk rfl (by omega) (fun base1 cap1 e1 hs1 => ?_)
 refine qa rfl rfl ?_
 refine Vc.step_end (fun a w ok => ?_)
 first | (refine WPs.run ?_ a w ok; clear ok w a) | skip
 repeat refine s_seqs ?_
 refine s_reg ?_
 refine qm rfl rfl ?_
 refine step_pure rfl (pure_len_slice rfl rfl rfl) ?_
 refine step_pure rfl (pure_gtr rfl rfl) ?_
 refine Vc.step_end (fun a w ok => ?_)
 first | (refine WPs.run ?_ a w ok; clear ok w a) | skip
 repeat refine s_seqs ?_
 refine s_meetP (α := SlS) (fun y => [(0, .slice kb key.length kc), (1, .int .u8 x), (5, .slice y.base (keyB key).length y.cap)]) (fun y => [y.e]) (fun y _ => SlIs ty5 5 y.e y.base (keyB key).length y.cap (row (keyB key))) ?_ ?_
 ·repeat refine s_seqs ?_
  refine s_cond rfl (fun h => ?_) (fun h => ?_)
  ·have hgt : key.length > 64 := by have := of_decide_eq_true h; omega
   clear h hs1
   have hke : keyB key = shaF key := if_pos hgt
   have hsl := shaF_len key
   rw [hke]
   have hsum := fun w' (kp : Keep w w' []) => rshaSum_any key _ w' (hk.mono fun p x h => cell_keep h.1 kp (by simp)) hkb (by omega)
   generalize shaF key = H at *
   repeat refine s_seqs ?_
   refine s_reg ?_
   refine qm rfl rfl ?_
   refine step_gives rfl fun54 rfl (fun w' hh kp => hsum w' kp) ?_
   refine step_alloc rfl zero30 (fun b6 => ?_)
   refine step_store_agg 0 rfl rfl rfl (row_one _) rfl (by rw [row_len]; exact hsl) rfl rfl (Nat.le_of_ble_eq_true rfl) (splice_all (by rw [row_len, hsl]; rfl)) ?_
   refine Vc.step_end (fun a w ok => ?_)
   first | (refine WPs.run ?_ a w ok; clear ok w a) | skip
   refine s_let 0 rfl (fun E2 g hc => ?_)
   have hI := slis_cz (sl_built ty5 5 b6 (row H) 32 (by rw [row_len, hsl]; rfl)) (hc _ on.sc)
   replace hI : SlC (Cz Z E2) 1 (.slice (some ⟨b6, 0, none⟩) 32 32) H.length (row H) := by rw [hsl]; exact hI
   repeat refine s_seqs ?_
   refine s_reg ?_
   refine step_buildSlice0 rfl rfl rfl rfl (fun b16 => ?_)
   refine step_as rfl (pure_slice_all rfl rfl rfl rfl) (show _ = Value.slice (some ⟨b6, 0, none⟩) 32 32 from rfl) ?_
   refine step_app8 (L := []) 0 rfl rfl (sl_empty ty5 5 b16) rfl (hI.mono Cz.cel) rfl (by omega) (fun base2 cap2 e2 hs2 => ?_)
   refine qa rfl rfl ?_
   refine Vc.step_end (fun a w ok => ?_)
   refine ⟨⟨base2, 0, cap2, e2⟩, E2, ?_, g, Less.ok ?_ ok⟩
   ·have := hs2
    rw [Nat.zero_add] at this
    exact this
   exact less_sub ⟨rfl, rfl, by show some (Value.slice base2 (0 + H.length) cap2) = _; rw [Nat.zero_add], trivial⟩ (by repeat (first | exact List.Sublist.refl _ | exact List.nil_sublist _ | apply List.Sublist.cons_cons | apply List.Sublist.cons))
  ·have hle : ¬ key.length > 64 := by have := of_decide_eq_false h; omega
   have hke : keyB key = key := if_neg hle
   rw [hke]
   refine s_skip fun a w ok => ?_
   refine ⟨⟨base1, 0, cap1, e1⟩, _, ?_, Gt.refl _, Less.ok ?_ ok⟩
   ·have := hs1
    rw [Nat.zero_add] at this
    exact this
   ·exact less_of ⟨rfl, rfl, by show some (Value.slice base1 (0 + key.length) cap1) = _; rw [Nat.zero_add], trivial⟩ rfl
 rintro ⟨yb, _, yc, ye⟩ E2 hs g a w2 ok
 dsimp only at hs ok
 refine WPs.run ?_ a w2 ok
 clear ok w2 a
 replace on := on.next g
 clear g hk hs1
 have hke := keyB_le key
 obtain ⟨J, hJ⟩ : ∃ J, J = 64 - (keyB key).length := ⟨_, rfl⟩
 have hzl := zpad_len key
 have hx0 : xorAt key x 0 = zpad (keyB key) J := by rw [hJ]; rfl
 rw [← hJ] at hzl
 repeat refine s_seqs ?_
 refine s_meetP (α := SlS) (fun y => [(1, .int .u8 x), (5, .slice y.base 64 y.cap)]) (fun y => [y.e]) (fun y _ => SlIs ty5 5 y.e y.base 64 y.cap (row (xorAt key x 0))) ?_ ?_
 ·rw [hx0]
  repeat refine s_seqs ?_
  refine s_block ?_
  repeat refine s_seqs ?_
  refine s_loopP (α := Nat × SlS) (fun y => [(1, .int .u8 x), (5, .slice y.2.base ((keyB key).length + y.1) y.2.cap)]) (fun y => [y.2.e]) (fun y _ => y.1 ≤ J ∧ SlIs ty5 5 y.2.e y.2.base ((keyB key).length + y.1) y.2.cap (row (zpad (keyB key) y.1)))
   (fun y => J - y.1) (0, ⟨yb, 0, yc, ye⟩) ⟨Nat.zero_le _, by show SlIs _ _ _ _ _ _ (row (keyB key ++ [])); rw [List.append_nil]; exact hs⟩ (less_of ⟨rfl, rfl, trivial⟩ rfl) ?_
  rintro ⟨j, ⟨zb, _, zc, ze⟩⟩ E3 ⟨hj, hs⟩ g
  have g3 := g
  replace on := on.next g
  clear g
  dsimp only at hj hs ⊢
  repeat refine s_seqs ?_
  refine s_reg ?_
  refine qm rfl rfl ?_
  refine step_pure rfl (pure_len_slice rfl rfl rfl) ?_
  refine step_pure rfl (pure_lss rfl rfl) ?_
  refine Vc.step_end (fun a w ok => ?_)
  first | (refine WPs.run ?_ a w ok; clear ok w a) | skip
  repeat refine s_seqs ?_
  refine s_cond rfl (fun h => ?_) (fun h => ?_)
  ·have hlt : j < J := by have := of_decide_eq_true h; omega
   clear h
   refine s_skip fun a w ok => WPs.run ?_ a w ok
   clear ok w a
   repeat refine s_seqs ?_
   refine s_block ?_
   have hnx := zpad_next (keyB key) j
   repeat refine s_seqs ?_
   refine s_reg ?_
   refine qm rfl rfl ?_
   refine step_buildSlice rfl rfl rfl rfl elem5 (by decide) (by decide) (fill_one .u8 0 rfl) (fun b23 => ?_)
   refine l_let 0 rfl (fun E5 g hc => ?_)
   have hv2 := slis_cz (sl_built ty5 5 b23 (row [0]) 1 rfl) (hc _ on.sc)
   clear hc
   refine step_app8 (l := [0]) 0 rfl rfl hs rfl (hv2.mono Cz.cel) rfl (by show _ + 1 ≤ _; omega) (fun base3 cap3 e3 hs3 => ?_)
   refine qa rfl rfl ?_
   refine Vc.step_end (fun a w ok => ?_)
   refine ⟨(j + 1, ⟨base3, 0, cap3, e3⟩), E5, ⟨hlt, by show SlIs _ _ _ _ _ _ (row (zpad (keyB key) (j + 1))); rw [hnx]; exact hs3⟩, by show J - (j + 1) < J - j; omega, g, Less.ok ?_ ok⟩
   exact less_of ⟨rfl, rfl, trivial⟩ rfl
  ·have hje : j = J := by have := of_decide_eq_false h; omega
   subst hje
   have h64 : (keyB key).length + j = 64 := by omega
   rw [h64] at hs ⊢
   refine s_exit fun a w ok => ?_
   refine ⟨⟨zb, 0, zc, ze⟩, E3, hs, g3, Less.ok ?_ ok⟩
   exact less_of ⟨rfl, rfl, trivial⟩ rfl
 rintro ⟨zb, _, zc, ze⟩ E3 hs2 g a w2 ok
 dsimp only at hs2 ok
 refine WPs.run ?_ a w2 ok
 clear ok w2 a
 replace on := on.next g
 clear g hs
 obtain ⟨-, hcap, be, R, rfl, rfl, hR⟩ := slis_form rfl hs2 (by decide)
 clear hs2
 repeat refine s_seqs ?_
 refine s_reg ?_
 refine qa rfl rfl ?_
 refine Vc.step_end (fun a w ok => ?_)
 first | (refine WPs.run ?_ a w ok; clear ok w a) | skip
 repeat refine s_seqs ?_
 refine s_meet [(5, .slice (some ⟨be, 0, none⟩) 64 zc)] [⟨be, row (padK key x) ++ R, 5⟩] ?_ (fun a w ok => WPs.run ?_ a w ok)
 ·repeat refine c_seq ?_
  refine c_block ?_
  repeat refine c_seq ?_
  refine c_loop (α := Nat) (fun i => [(1, .int .u8 x), (5, .slice (some ⟨be, 0, none⟩) 64 zc), (7, .int .i64 i)]) (fun i => [⟨be, row (xorAt key x i) ++ R, 5⟩]) (fun i => i ≤ 64) (fun i => 64 - i) 0 (by decide) (less_of ⟨rfl, rfl, rfl, trivial⟩ rfl) ?_
  intro i hi
  repeat refine c_seq ?_
  refine c_region ?_
  refine qm rfl rfl ?_
  refine step_pure rfl (pure_lss rfl rfl) ?_
  refine step_nil ?_
  repeat refine c_seq ?_
  refine c_cond rfl (fun h => ?_) (fun h => ?_)
  ·have hlt : i < 64 := by have := of_decide_eq_true h; omega
   clear h
   refine c_skip ?_
   have hxl := xorAt_len key x hi
   have hset := xorAt_set key x hlt
   have hget := row_get (xorAt key x i) i (by omega)
   rw [xorAt_get key x hlt] at hget
   rw [padK_get key x hlt] at hset
   have hst : (row (xorAt key x i) ++ R).set i (.int .u8 (bits .xor .u8 ((keyB key).getD i 0) x)) = row (xorAt key x (i + 1)) ++ R := by
    rw [List.set_append_left _ _ (by rw [row_len]; omega), row_set, hset]
   have hget2 : (row (xorAt key x i) ++ R)[i]? = some (.int .u8 ((keyB key).getD i 0)) := by rw [List.getElem?_append_left (by rw [row_len]; omega)]; exact hget
   have hyl : i < (row (xorAt key x i) ++ R).length := by rw [List.length_append, row_len]; omega
   generalize row (xorAt key x i) ++ R = Y at *
   repeat refine c_seq ?_
   refine c_meet [(1, .int .u8 x), (5, .slice (some ⟨be, 0, none⟩) 64 zc), (7, .int .i64 i)] [⟨be, row (xorAt key x (i + 1)) ++ R, 5⟩] ?_ ?_
   ·repeat refine c_seq ?_
    refine c_block ?_
    repeat refine c_seq ?_
    refine c_region ?_
    refine qm rfl rfl ?_
    refine qm rfl rfl ?_
    refine qm rfl rfl ?_
    refine qm rfl rfl ?_
    refine step_pure rfl (pure_ixs (off' := i) rfl rfl rfl rfl rfl (by omega) (by omega) (by show 0 + (i : Int).toNat * 1 = _; omega)) ?_
    refine step_pure rfl (pure_load (i := 0) rfl rfl rfl rfl rfl hget2) ?_
    refine qm rfl rfl ?_
    refine step_pure rfl (pure_xor rfl rfl) ?_
    refine step_pure rfl (pure_ixs (off' := i) rfl rfl rfl rfl rfl (by omega) (by omega) (by show 0 + (i : Int).toNat * 1 = _; omega)) ?_
    refine step_store 0 rfl rfl rfl rfl rfl rfl rfl rfl hyl hst ?_
    refine step_nil ?_
    exact less_of ⟨rfl, rfl, rfl, trivial⟩ rfl
   ·repeat refine c_seq ?_
    refine c_region ?_
    refine qm rfl rfl ?_
    first | refine step_pure rfl (pure_add64 rfl rfl (by omega) (by omega)) ?_ | refine step_pure rfl (pure_add rfl rfl) ?_
    refine qa rfl rfl ?_
    refine step_nil ?_
    exact ⟨i + 1, hlt, by omega, less_of ⟨rfl, rfl, rfl, trivial⟩ rfl⟩
  ·have hie : i = 64 := by have := of_decide_eq_false h; omega
   subst hie
   refine c_exit ?_
   rw [xorAt_end]
   exact less_of ⟨rfl, trivial⟩ rfl
 have hpl := padK_len key x
 have hsl := slis_back (u := ty5) (eT := 5) (b := be) (cap := zc) (l := padK key x) (R := R) rfl (by rw [hpl]; exact hR) (by omega)
 rw [show Value.slice (some ⟨be, 0, none⟩) 64 zc = .slice (some ⟨be, 0, none⟩) (padK key x).length zc from by rw [hpl]]
 repeat refine s_seqs ?_
 refine s_reg ?_
 refine qm rfl rfl ?_
 refine qa rfl rfl ?_
 refine Vc.step_end (fun a w ok => ?_)
 first | (refine WPs.run ?_ a w ok; clear ok w a) | skip
 exact s_ret fun a w ok => ends_wm on (.inr rfl) ok (res_tmp Try.results55 rfl) (m1 := [_]) (mr := []) (List.Perm.refl _) (pdM_mono _) ⟨_, _, _, rfl, rfl, hsl⟩
end Go.Proofs.Ythieegnhjoehbaa
