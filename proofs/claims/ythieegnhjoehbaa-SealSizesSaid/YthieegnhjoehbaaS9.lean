/- The document's Sum and Tag of codes; numbers ahead; a packet's stream: walked. -/
import Derived.Test.YthieegnhjoehbaaS8
import Derived.Test.YthieegnhjoehbaaAD
namespace Go.Proofs.Ythieegnhjoehbaa
open Go.RowKit Go.Vc
set_option linter.unusedVariables false
set_option maxHeartbeats 1000000 in
theorem rmacSum_any (key text : List Int) (kv tv : Value) (w : World) (hk : SlC (At w) 1 kv key.length (row key)) (ht : SlC (At w) 1 tv text.length (row text)) (hkb : Bytes key) (htb : Bytes text)
  (hkl : key.length ≤ 100000) (htl : text.length ≤ 100000) : Gives tb 36 [kv, tv] w (.agg (row (macF key text)).toArray) := by
 have hC0 : ∀ p x, At w p x → Cz (fun _ => True) ⟨w, [], []⟩ p x := fun p x h => ⟨⟨h, by simp⟩, trivial⟩
 replace hk := hk.mono hC0
 replace ht := ht.mono hC0
 have hml := macF_len key text
 have hmF : macF key text = shaF (padK key 92 ++ shaF (padK key 54 ++ text)) := rfl
 have hib := shaF_bytes (padK key 54 ++ text)
 have hil := shaF_len (padK key 54 ++ text)
 have hpl := padK_len key 54
 have hpl2 := padK_len key 92
 have htl1 : (padK key 54 ++ text).length ≤ 900000 := by rw [List.length_append]; omega
 have htb1 : Bytes (padK key 54 ++ text) := (padK_bytes _ _).append htb
 have hpb2 := padK_bytes key 92
 refine gives_ofk (fn := Try.f36) Try.func36 rfl Try.ntmps36 rfl (fun on => ?_)
 have hrs := fun w' v h => rshaSum_any (padK key 54 ++ text) v w' h htb1 htl1
 generalize shaF (padK key 54 ++ text) = I at *
 repeat refine s_seqs ?_
 refine s_reg ?_
 refine step_alloc rfl zero30 (fun b4 => ?_)
 refine Vc.step_end (fun a w ok => ?_)
 (refine WPs.run ?_ a w ok; clear ok w a)
 repeat refine s_seqs ?_
 refine s_reg ?_
 refine qm rfl rfl ?_
 refine step_wm [] _ on.sc rfl fun55 rfl (List.Perm.refl _) (fun w' Z' hh kp h0 hZ hZ0 hC => rpad_W key 54 kv w' hZ (by decide) (hk.mono (Cz.now kp)) hkb hkl) ?_
 rintro u m1 E1 g ⟨base1, cap1, e1, rfl, rfl, hs1⟩
 replace on := on.next g
 replace hk := hk.mono g.cz
 replace ht := ht.mono g.cz
 clear g
 refine qm rfl rfl ?_
 refine step_app8 0 rfl rfl hs1 rfl (ht.mono Cz.cel) rfl (by omega) (fun base2 cap2 e2 hs2 => ?_)
 rw [← List.length_append] at hs2 ⊢
 refine step_gives rfl fun54 rfl (fun w' hh kp => hrs w' _ (slis_mem hs2 (fun _ => .head _) hh)) ?_
 refine step_alloc rfl zero30 (fun b5 => ?_)
 refine step_store_agg 0 rfl rfl rfl (row_one _) rfl (by rw [row_len]; exact hil) rfl rfl (Nat.le_of_ble_eq_true rfl) (splice_all (by rw [row_len, hil]; rfl)) ?_
 refine Vc.step_end (fun a w ok => ?_)
 (refine WPs.run ?_ a w ok; clear ok w a)
 refine s_let 0 rfl (fun E2 g hc => ?_)
 have hI := slis_cz (sl_built ty5 5 b5 (row I) 32 (by rw [row_len, hil]; rfl)) (hc _ on.sc)
 replace hI : SlC (Cz (fun _ => True) E2) 1 (.slice (some ⟨b5, 0, none⟩) 32 32) I.length (row I) := by rw [hil]; exact hI
 replace on := on.next g
 replace hk := hk.mono g.cz
 clear g hc hrs
 refine s_less (rs' := [(0, kv), (4, .pointer (some ⟨b4, 0, none⟩)), (5, .pointer (some ⟨b5, 0, none⟩))]) (m' := [⟨b4, row (zeros 32), 30⟩]) (less_sub ⟨rfl, rfl, rfl, trivial⟩ (by repeat (first | exact List.Sublist.refl _ | exact List.nil_sublist _ | apply List.Sublist.cons_cons | apply List.Sublist.cons))) ?_
 have hlen : (padK key 92 ++ I).length ≤ 900000 := by rw [List.length_append]; omega
 have hrs2 := fun w' v h => rshaSum_any (padK key 92 ++ I) v w' h (hpb2.append hib) hlen
 rw [← hmF] at hrs2
 generalize macF key text = M at *
 repeat refine s_seqs ?_
 refine s_dreg [1, 17, 12, 28, 36, 44] [] follows (by kernel_rfl) ?_
 refine qd rfl rfl rfl rfl ?_
 refine d_as0 rfl rfl rfl (pure_slice_all rfl rfl rfl rfl) (show _ = Value.slice (some ⟨b5, 0, none⟩) 32 32 from rfl) ?_
 refine d_wm [] _ on.sc rfl rfl rfl fun55 rfl (List.Perm.refl _) (fun w' Z' hh kp h0 hZ hZ0 hC => rpad_W key 92 kv w' hZ (by decide) (hk.mono (Cz.now kp)) hkb hkl) rfl (List.nil_sublist _) ?_
 rintro u m1 E3 g ⟨base3, cap3, e3, rfl, rfl, hs3⟩
 replace on := on.next g
 replace hI := hI.mono g.cz
 clear g
 refine d_app8 0 rfl rfl rfl rfl hs3 rfl (hI.mono Cz.cel) rfl (by omega) rfl (fun _ => fun _ _ => trivial) (fun base4 cap4 e4 hs4 => ?_)
 rw [← List.length_append] at hs4 ⊢
 refine d_givesP on.sc rfl rfl rfl fun54 rfl (fun w' Z' hh kp hZ hC => givesP_of_gives (hrs2 w' _ (slis_mem hs4 (fun _ => .head _) hh))) rfl ?_
 rintro u E4 g rfl
 replace on := on.next g
 refine d_store_agg 1 rfl rfl rfl rfl rfl (row_one _) rfl (by rw [row_len]; exact hml) rfl rfl (Nat.le_of_ble_eq_true rfl) (splice_all (by rw [row_len, hml]; rfl)) rfl rfl ?_
 refine d_end (fun a w ok => ?_)
 (refine WPs.run ?_ a w ok; clear ok w a)
 exact s_ret fun a w ok => ends_k on (.inr rfl) ok (res_cell_agg (i := 1) Try.results36 rfl rfl rfl rfl rfl (by show 0 + 32 ≤ (row M).length; rw [row_len, hml]; decide) (ints_whole _ _ 32 hml))
theorem rmacTag_any (key text : List Int) (kv tv : Value) (w : World) (hk : SlC (At w) 1 kv key.length (row key)) (ht : SlC (At w) 1 tv text.length (row text)) (hkb : Bytes key) (htb : Bytes text)
  (hkl : key.length ≤ 100000) (htl : text.length ≤ 100000) : Gives tb 34 [kv, tv] w (.agg (row (tagF key text)).toArray) := by
 refine gives_of (fn := Try.f34) Try.func34 rfl Try.ntmps34 rfl ?_
 have hml := macF_len key text
 have hms := fun w' (kp : Keep w w' []) => rmacSum_any key text kv tv w' (hk.mono (at_keep kp)) (ht.mono (at_keep kp)) hkb htb hkl htl
 have htl := tagF_len key text
 have hgt : ∀ i, i < 16 → (macF key text).getD i 0 = (tagF key text).getD i 0 := fun i h => by
  rw [List.getD_eq_getElem?_getD, List.getD_eq_getElem?_getD, List.getElem?_take, if_pos h]
 generalize tagF key text = G at *
 generalize macF key text = M at *
 repeat refine c_seq ?_
 refine c_region ?_
 refine step_alloc rfl zero28 (fun b4 => ?_)
 refine step_nil ?_
 repeat refine c_seq ?_
 refine c_region ?_
 refine qm rfl rfl ?_
 refine qm rfl rfl ?_
 refine step_gives rfl fun36 rfl (fun w' hh kp => hms w' kp) ?_
 refine step_alloc rfl zero30 (fun b5 => ?_)
 refine step_store_agg 0 rfl rfl rfl (row_one _) rfl (by rw [row_len]; exact hml) rfl rfl (Nat.le_of_ble_eq_true rfl) (splice_all (by rw [row_len, hml]; rfl)) ?_
 refine step_nil ?_
 repeat refine c_seq ?_
 refine c_region ?_
 refine step_pure rfl (pure_build_arr rfl zero28 rfl rfl rfl rfl) ?_
 refine step_alloc rfl zero28 (fun b6 => ?_)
 refine step_store_agg 0 rfl rfl rfl (of_one rfl) rfl rfl rfl rfl (Nat.le_of_ble_eq_true rfl) (show _ = row (fillAt G 0) from by rw [fillAt_zero, htl]; rfl) ?_
 refine step_nil ?_
 repeat refine c_seq ?_
 refine c_region ?_
 refine qa rfl rfl ?_
 refine step_nil ?_
 have hfe : fillAt G 16 = G := by
  have := fillAt_end G
  rw [htl] at this
  exact this
 repeat refine c_seq ?_
 refine c_meet [(4, .pointer (some ⟨b4, 0, none⟩)), (6, .pointer (some ⟨b6, 0, none⟩))] [⟨b6, row G, 28⟩, ⟨b4, row (zeros 16), 28⟩] ?_ ?_
 ·repeat refine c_seq ?_
  refine c_block ?_
  repeat refine c_seq ?_
  refine c_loop (α := Nat) (fun i => [(4, .pointer (some ⟨b4, 0, none⟩)), (5, .pointer (some ⟨b5, 0, none⟩)), (6, .pointer (some ⟨b6, 0, none⟩)), (7, .int .i64 i)]) (fun i => [⟨b6, row (fillAt G i), 28⟩, ⟨b5, row M, 30⟩, ⟨b4, row (zeros 16), 28⟩])
   (fun i => i ≤ 16) (fun i => 16 - i) 0 (by decide) (less_of ⟨rfl, rfl, rfl, rfl, trivial⟩ rfl) ?_
  intro i hi
  repeat refine c_seq ?_
  refine c_region ?_
  refine qm rfl rfl ?_
  refine step_pure rfl (pure_lss rfl rfl) ?_
  refine step_nil ?_
  repeat refine c_seq ?_
  refine c_cond rfl (fun h => ?_) (fun h => ?_)
  ·have hlt : i < 16 := by have := of_decide_eq_true h; omega
   clear h
   refine c_skip ?_
   have hg := row_get M i (by omega)
   have hs := fillAt_set G (i := i) (by omega) (hgt i hlt)
   have hfl := fillAt_len G (i := i) (by omega)
   repeat refine c_seq ?_
   refine c_meet [(4, .pointer (some ⟨b4, 0, none⟩)), (5, .pointer (some ⟨b5, 0, none⟩)), (6, .pointer (some ⟨b6, 0, none⟩)), (7, .int .i64 i)] [⟨b6, row (fillAt G (i + 1)), 28⟩, ⟨b5, row M, 30⟩, ⟨b4, row (zeros 16), 28⟩] ?_ ?_
   ·repeat refine c_seq ?_
    refine c_block ?_
    repeat refine c_seq ?_
    refine c_region ?_
    refine qm rfl rfl ?_
    refine qm rfl rfl ?_
    refine step_pure rfl (pure_ix (off' := i) rfl rfl rfl rfl rfl (by omega) (by omega) (by show 0 + (i : Int).toNat * 1 = _; omega)) ?_
    refine step_pure rfl (pure_load (i := 1) rfl rfl rfl rfl rfl hg) ?_
    refine step_pure rfl (pure_ix (off' := i) rfl rfl rfl rfl rfl (by omega) (by omega) (by show 0 + (i : Int).toNat * 1 = _; omega)) ?_
    refine step_store 0 rfl rfl rfl rfl rfl rfl rfl rfl (by show i < (row (fillAt G i)).length; rw [row_len]; omega) hs ?_
    refine step_nil ?_
    exact less_of ⟨rfl, rfl, rfl, rfl, trivial⟩ rfl
   ·repeat refine c_seq ?_
    refine c_region ?_
    refine qm rfl rfl ?_
    refine step_pure rfl (pure_add64 rfl rfl (by omega) (by omega)) ?_
    refine qa rfl rfl ?_
    refine step_nil ?_
    exact ⟨i + 1, hlt, by omega, less_of ⟨rfl, rfl, rfl, rfl, trivial⟩ rfl⟩
  ·have hie : i = 16 := by have := of_decide_eq_false h; omega
   subst hie
   refine c_exit ?_
   rw [hfe]
   exact less_sub ⟨rfl, rfl, trivial⟩ (by repeat (first | exact List.Sublist.refl _ | exact List.nil_sublist _ | apply List.Sublist.cons_cons | apply List.Sublist.cons))
 repeat refine c_seq ?_
 refine c_region ?_
 refine step_pure rfl (pure_load_agg (i := 0) rfl rfl rfl rfl rfl (by show 0 + 16 ≤ (row G).length; rw [row_len, htl]; decide) (ints_whole _ _ 16 htl)) ?_
 refine step_store_agg 1 rfl rfl rfl (row_one _) rfl (by rw [row_len]; exact htl) rfl rfl (Nat.le_of_ble_eq_true rfl) (splice_all (by rw [row_len, htl]; rfl)) ?_
 refine step_nil ?_
 exact c_ret ⟨_, res_cell_agg (i := 1) Try.results34 rfl rfl rfl rfl rfl (by show 0 + 16 ≤ (row G).length; rw [row_len, htl]; decide) (ints_whole _ _ 16 htl), rfl⟩
/-! a number in eight bytes -/
def aheadB (n : Int) : List Int := (List.range 8).map fun i => (n / 2 ^ (56 - 8 * i)) % 256
theorem aheadB_len (n : Int) : (aheadB n).length = 8 := by unfold aheadB; rw [List.length_map, List.length_range]
theorem aheadB_bytes (n : Int) : Bytes (aheadB n) := by
 intro x hx
 unfold aheadB at hx
 obtain ⟨i, _, rfl⟩ := List.mem_map.1 hx
 omega
theorem aheadB_get (n : Int) {i : Nat} (h : i < 8) : (aheadB n).getD i 0 = (n / 2 ^ (56 - 8 * i)) % 256 := by
 unfold aheadB
 rw [List.getD_eq_getElem?_getD, List.getElem?_map, List.getElem?_range h]
 rfl
theorem rahead_any (n : Int) (w : World) : Gives tb 33 [.int .i64 n] w (.agg (row (aheadB n)).toArray) := by
 refine gives_of (fn := Try.f33) Try.func33 rfl Try.ntmps33 rfl ?_
 have hAl := aheadB_len n
 have hAg := fun {i : Nat} (h : i < 8) => aheadB_get n h
 generalize aheadB n = A at *
 repeat refine c_seq ?_
 refine c_region ?_
 refine step_alloc rfl zero68 (fun b2 => ?_)
 refine step_nil ?_
 repeat refine c_seq ?_
 refine c_region ?_
 refine step_pure rfl (pure_build_arr rfl zero68 rfl rfl rfl rfl) ?_
 refine step_alloc rfl zero68 (fun b3 => ?_)
 refine step_store_agg 0 rfl rfl rfl (of_one rfl) rfl rfl rfl rfl (Nat.le_of_ble_eq_true rfl) (show _ = row (fillAt A 0) from by rw [fillAt_zero, hAl]; rfl) ?_
 refine step_nil ?_
 repeat refine c_seq ?_
 refine c_region ?_
 refine qa rfl rfl ?_
 refine step_nil ?_
 have hfe : fillAt A 8 = A := by
  have := fillAt_end A
  rw [hAl] at this
  exact this
 repeat refine c_seq ?_
 refine c_block ?_
 repeat refine c_seq ?_
 refine c_loop (α := Nat) (fun i => [(0, .int .i64 n), (2, .pointer (some ⟨b2, 0, none⟩)), (3, .pointer (some ⟨b3, 0, none⟩)), (4, .int .i64 i)]) (fun i => [⟨b3, row (fillAt A i), 68⟩, ⟨b2, row (zeros 8), 68⟩])
  (fun i => i ≤ 8) (fun i => 8 - i) 0 (by decide) (less_of ⟨rfl, rfl, rfl, rfl, trivial⟩ rfl) ?_
 intro i hi
 repeat refine c_seq ?_
 refine c_region ?_
 refine qm rfl rfl ?_
 refine step_pure rfl (pure_lss rfl rfl) ?_
 refine step_nil ?_
 repeat refine c_seq ?_
 refine c_cond rfl (fun h => ?_) (fun h => ?_)
 ·have hlt : i < 8 := by have := of_decide_eq_true h; omega
  clear h
  refine c_skip ?_
  have hs := fillAt_set A (i := i) (by omega) (hAg hlt).symm
  have hfl := fillAt_len A (i := i) (by omega)
  have hw : IntKind.u64.wrap (56 - 8 * (i : Int)) = 56 - 8 * (i : Int) := by rw [IntKind.wrap_u64]; omega
  repeat refine c_seq ?_
  refine c_meet [(0, .int .i64 n), (2, .pointer (some ⟨b2, 0, none⟩)), (3, .pointer (some ⟨b3, 0, none⟩)), (4, .int .i64 i)] [⟨b3, row (fillAt A (i + 1)), 68⟩, ⟨b2, row (zeros 8), 68⟩] ?_ ?_
  ·repeat refine c_seq ?_
   refine c_block ?_
   repeat refine c_seq ?_
   refine c_region ?_
   refine qm rfl rfl ?_
   refine qm rfl rfl ?_
   refine qm rfl rfl ?_
   refine step_pure rfl (pure_mul64 rfl rfl (by omega) (by omega)) ?_
   refine step_pure rfl (pure_sub64 rfl rfl (by omega) (by omega)) ?_
   refine step_as rfl (pure_conv rfl rfl rfl rfl) (show _ = Value.int .u64 (56 - 8 * (i : Int)) from by rw [hw]) ?_
   refine step_pure rfl (pure_shr rfl rfl (by omega)) ?_
   refine step_as rfl (pure_conv rfl rfl rfl rfl) (show _ = Value.int .u8 ((n / 2 ^ (56 - 8 * i)) % 256) from by rw [wrap_u8, show (min (56 - 8 * (i : Int)).toNat IntKind.i64.bits) = 56 - 8 * i from by show min _ 64 = _; omega]) ?_
   refine step_pure rfl (pure_ix (off' := i) rfl rfl rfl rfl rfl (by omega) (by omega) (by show 0 + (i : Int).toNat * 1 = _; omega)) ?_
   refine step_store 0 rfl rfl rfl rfl rfl rfl rfl rfl (by show i < (row (fillAt A i)).length; rw [row_len]; omega) hs ?_
   refine step_nil ?_
   exact less_of ⟨rfl, rfl, rfl, rfl, trivial⟩ rfl
  ·repeat refine c_seq ?_
   refine c_region ?_
   refine qm rfl rfl ?_
   refine step_pure rfl (pure_add64 rfl rfl (by omega) (by omega)) ?_
   refine qa rfl rfl ?_
   refine step_nil ?_
   exact ⟨i + 1, hlt, by omega, less_of ⟨rfl, rfl, rfl, rfl, trivial⟩ rfl⟩
 ·have hie : i = 8 := by have := of_decide_eq_false h; omega
  subst hie
  refine c_exit ?_
  rw [hfe]
  repeat refine c_seq ?_
  refine c_region ?_
  refine step_pure rfl (pure_load_agg (i := 0) rfl rfl rfl rfl rfl (by show 0 + 8 ≤ (row A).length; rw [row_len, hAl]; decide) (ints_whole _ _ 8 hAl)) ?_
  refine step_store_agg 1 rfl rfl rfl (row_one _) rfl (by rw [row_len]; exact hAl) rfl rfl (Nat.le_of_ble_eq_true rfl) (splice_all (by rw [row_len, hAl]; rfl)) ?_
  refine step_nil ?_
  exact c_ret ⟨_, res_cell_agg (i := 1) Try.results33 rfl rfl rfl rfl rfl (by show 0 + 8 ≤ (row A).length; rw [row_len, hAl]; decide) (ints_whole _ _ 8 hAl), rfl⟩
/-! keys; a packet's stream -/
def encK (K : List Int) (s : Nat) : List Int := (K.drop (16 * s)).take 16
def macK (K : List Int) (s : Nat) : List Int := (K.drop (32 + 32 * s)).take 32
theorem encK_len {K : List Int} (hK : K.length = 96) {s : Nat} (h : s < 2) : (encK K s).length = 16 := by unfold encK; rw [List.length_take, List.length_drop]; omega
theorem macK_len {K : List Int} (hK : K.length = 96) {s : Nat} (h : s < 2) : (macK K s).length = 32 := by unfold macK; rw [List.length_take, List.length_drop]; omega
theorem encK_bytes {K : List Int} (hK : Bytes K) (s : Nat) : Bytes (encK K s) := hK.sub _ _
theorem macK_bytes {K : List Int} (hK : Bytes K) (s : Nat) : Bytes (macK K s) := hK.sub _ _
/-- Bytes that are hidden, or shown. -/
def hid (K : List Int) (s : Nat) (n : Int) (b : List Int) : List Int := outF (encK K s) (aheadB n) b 0
theorem hid_len (K : List Int) (s : Nat) (n : Int) (b : List Int) : (hid K s n b).length = b.length := outF_len ..
theorem hid_bytes (K : List Int) (s : Nat) (n : Int) (b : List Int) : Bytes (hid K s n b) := outF_bytes _ _ _ _
theorem hid_back (K : List Int) (s : Nat) (n : Int) (b : List Int) (hb : Bytes b) : hid K s n (hid K s n b) = b := outF_back _ _ _ _ (aheadB_bytes n) hb
def StR (l : List Int) (u : Value) (C : Addr → Value → Prop) : Prop := ∃ v, u = .tuple #[v, .int .i64 0] ∧ SlC C 1 v l.length (row l)
theorem stR_mono (l : List Int) : ∀ v (C C' : Addr → Value → Prop), (∀ p x, C p x → C' p x) → StR l v C → StR l v C' := by
 rintro u C C' hC ⟨v, rfl, hs⟩
 exact ⟨v, rfl, hs.mono hC⟩
theorem aesStream_P (key A bs : List Int) (v3 : Value) (w : World) {Z : Nat → Prop} (hZ : ∀ b, w.heap.size ≤ b → Z b) (hkl : key.length = 16) (hkb : Bytes key) (hAl : A.length = 8) (hAb : Bytes A) (hv : SlC (At w) 1 v3 bs.length (row bs)) (hbig : bs.length ≤ 1000000) :
  GivesP tb 50 [.agg (row key).toArray, .agg (row A).toArray, .int .i64 0, v3] w Z (StR (outF key A bs 0)) := by
 refine givesP_of_makes (stream13 key A bs 0 v3 w hkl hkb hAl hAb hv.slv (by omega)) hZ (stR_mono _) ?_
 rintro u m' C ⟨base, len, cap, e, rfl, rfl, hs⟩ hC
 obtain rfl := sl_len8 hs
 exact ⟨_, rfl, slis_cz hs (hC e (.head _))⟩
theorem raesStream_P (key A bs : List Int) (v3 : Value) (w : World) {Z : Nat → Prop} (hZ : ∀ b, w.heap.size ≤ b → Z b) (hkl : key.length = 16) (hkb : Bytes key) (hAl : A.length = 8) (hAb : Bytes A) (hv : SlC (At w) 1 v3 bs.length (row bs)) (hbig : bs.length ≤ 1000000) :
  GivesP tb 32 [.agg (row key).toArray, .agg (row A).toArray, .int .i64 0, v3] w Z (StR (outF key A bs 0)) := by
 refine givesP_of_makes (stream14 key A bs 0 v3 w hkl hkb hAl hAb hv.slv (by omega)) hZ (stR_mono _) ?_
 rintro u m' C ⟨base, len, cap, e, rfl, rfl, hs⟩ hC
 rw [if_neg (by decide), routF_eq key A bs 0 hkl hkb hAl hAb] at hs
 obtain rfl := sl_len8 hs
 exact ⟨_, rfl, slis_cz hs (hC e (.head _))⟩
theorem kstream_P (K : List Int) (s : Nat) (n : Int) (bs : List Int) (v3 : Value) (w : World) {Z : Nat → Prop} (hZ : ∀ b, w.heap.size ≤ b → Z b) (hK : K.length = 96) (hKb : Bytes K) (hs : s < 2) (hv : SlC (At w) 1 v3 bs.length (row bs)) (hbig : bs.length ≤ 1000000) :
  GivesP tb 28 [.agg (row K).toArray, .int .i64 s, .int .i64 n, v3] w Z (StR (hid K s n bs)) := by
 replace hv : SlC (Cel ⟨w, [], []⟩) 1 v3 bs.length (row bs) := hv.mono fun p x h => ⟨h, by simp⟩
 have hel := encK_len hK hs
 have heb := encK_bytes hKb s
 have hdr : ((row K).drop (16 * s)).take 16 = row (encK K s) := ints_sub .u8 K _ 16
 unfold hid
 have hAl := aheadB_len n
 have hAb := aheadB_bytes n
 have hAg := fun {i : Nat} (h : i < 8) => aheadB_get n h
 generalize encK K s = EK at *
 generalize aheadB n = A at *
 refine givesP_of (fn := Try.f28) Try.func28 rfl Try.ntmps28 rfl hZ (stR_mono _) (fun on => ?_)
 repeat refine s_seqs ?_
 refine s_reg ?_
 refine step_box_agg rfl rfl (fun b4 => ?_)
 refine qa rfl rfl ?_
 refine qa rfl rfl ?_
 refine Vc.step_end (fun a w ok => ?_)
 (refine WPs.run ?_ a w ok; clear ok w a)
 repeat refine s_seqs ?_
 refine s_reg ?_
 refine step_alloc rfl zero68 (fun b10 => ?_)
 refine Vc.step_end (fun a w ok => ?_)
 (refine WPs.run ?_ a w ok; clear ok w a)
 repeat refine s_seqs ?_
 refine s_reg ?_
 refine qm rfl rfl ?_
 refine Vc.step_end (fun a w ok => ?_)
 (refine WPs.run ?_ a w ok; clear ok w a)
 have hfe : fillAt A 8 = A := by
  have := fillAt_end A
  rw [hAl] at this
  exact this
 repeat refine s_seqs ?_
 refine s_meet [(1, .int .i64 s), (3, v3), (4, .pointer (some ⟨b4, 0, none⟩)), (10, .pointer (some ⟨b10, 0, none⟩))] [⟨b10, row A, 68⟩, ⟨b4, row K, 33⟩] ?_ (fun a w ok => WPs.run ?_ a w ok)
 ·repeat refine c_seq ?_
  refine c_block ?_
  repeat refine c_seq ?_
  refine c_loop (α := Nat) (fun i => [(1, .int .i64 s), (2, .int .i64 n), (3, v3), (4, .pointer (some ⟨b4, 0, none⟩)), (10, .pointer (some ⟨b10, 0, none⟩)), (12, .int .i64 i)]) (fun i => [⟨b10, row (fillAt A i), 68⟩, ⟨b4, row K, 33⟩])
   (fun i => i ≤ 8) (fun i => 8 - i) 0 (by decide) (less_of ⟨rfl, rfl, rfl, rfl, rfl, rfl, trivial⟩ (by rw [fillAt_zero, hAl] <;> rfl)) ?_
  intro i hi
  repeat refine c_seq ?_
  refine c_region ?_
  refine step_pure rfl (pure_lss rfl rfl) ?_
  refine step_nil ?_
  repeat refine c_seq ?_
  refine c_cond rfl (fun h => ?_) (fun h => ?_)
  ·have hlt : i < 8 := by have := of_decide_eq_true h; omega
   clear h
   refine c_skip ?_
   have hs := fillAt_set A (i := i) (by omega) (hAg hlt).symm
   have hfl := fillAt_len A (i := i) (by omega)
   repeat refine c_seq ?_
   refine c_meet [(1, .int .i64 s), (2, .int .i64 n), (3, v3), (4, .pointer (some ⟨b4, 0, none⟩)), (10, .pointer (some ⟨b10, 0, none⟩)), (12, .int .i64 i)] [⟨b10, row (fillAt A (i + 1)), 68⟩, ⟨b4, row K, 33⟩] ?_ ?_
   ·repeat refine c_seq ?_
    refine c_block ?_
    repeat refine c_seq ?_
    refine c_region ?_
    refine qm rfl rfl ?_
    refine qa rfl rfl ?_
    refine step_nil ?_
    repeat refine c_seq ?_
    refine c_region ?_
    refine qm rfl rfl ?_
    refine qm rfl rfl ?_
    refine qm rfl rfl ?_
    refine step_pure rfl (pure_mul64 rfl rfl (by omega) (by omega)) ?_
    refine step_pure rfl (pure_sub64 rfl rfl (by omega) (by omega)) ?_
    refine step_pure rfl (pure_shr rfl rfl (by omega)) ?_
    refine step_as rfl (pure_conv rfl rfl rfl rfl) (show _ = Value.int .u8 ((n / 2 ^ (56 - 8 * i)) % 256) from by rw [wrap_u8, show (min (56 - 8 * (i : Int)).toNat IntKind.i64.bits) = 56 - 8 * i from by show min _ 64 = _; omega]) ?_
    refine step_pure rfl (pure_ix (off' := i) rfl rfl rfl rfl rfl (by omega) (by omega) (by show 0 + (i : Int).toNat * 1 = _; omega)) ?_
    refine step_store 0 rfl rfl rfl rfl rfl rfl rfl rfl (by show i < (row (fillAt A i)).length; rw [row_len]; omega) hs ?_
    refine step_nil ?_
    exact less_of ⟨rfl, rfl, rfl, rfl, rfl, rfl, trivial⟩ rfl
   ·repeat refine c_seq ?_
    refine c_region ?_
    refine step_pure rfl (pure_add64 rfl rfl (by omega) (by omega)) ?_
    refine qm rfl rfl ?_
    refine step_nil ?_
    exact ⟨i + 1, hlt, by omega, less_of ⟨rfl, rfl, rfl, rfl, rfl, rfl, trivial⟩ rfl⟩
  ·have hie : i = 8 := by have := of_decide_eq_false h; omega
   subst hie
   refine c_exit ?_
   rw [hfe]
   exact less_of ⟨rfl, rfl, rfl, rfl, trivial⟩ rfl
 repeat refine s_seqs ?_
 refine s_dreg [1, 9, 17, 27, 35, 41, 52, 57, 65, 73, 81] ([⟨b10, row A, 68⟩, ⟨b4, row K, 33⟩]) follows (by kernel_rfl) ?_
 refine qd rfl rfl rfl rfl ?_
 refine d_pure0 rfl rfl rfl (pure_fieldAddr rfl rfl rfl rfl rfl (by decide)) ?_
 refine d_pure0 rfl rfl rfl (pure_ix (off' := 16 * s) rfl rfl rfl rfl rfl (by omega) (by omega) (by show 0 + 0 + (s : Int).toNat * 16 = _; omega)) ?_
 refine d_pure1 rfl rfl rfl (pure_load_agg (i := 1) rfl rfl rfl rfl rfl (by show 16 * s + 16 ≤ (row K).length; rw [row_len]; omega) hdr) (by exact SubMem.refl _) ?_
 refine d_pure1 rfl rfl rfl (pure_load_agg (i := 0) rfl rfl rfl rfl rfl (by show 0 + 8 ≤ (row A).length; rw [row_len, hAl]; decide) (ints_whole _ _ 8 hAl)) (by exact SubMem.refl _) ?_
 refine qd rfl rfl rfl rfl ?_
 refine d_givesP on.sc rfl rfl rfl fun50 rfl (fun w' Z' hh kp hZ hC => aesStream_P EK A bs v3 w' hZ hel heb hAl hAb (hv.mono fun p x h => h.now kp) hbig) rfl ?_
 rintro u E1 g ⟨v9, rfl, hw⟩
 replace on := on.next g
 refine d_pure0 rfl rfl rfl (pure_extract rfl rfl) ?_
 refine d_pure0 rfl rfl rfl (pure_extract rfl rfl) ?_
 refine d_pure0 rfl rfl rfl (pure_assign rfl) ?_
 refine d_pure0 rfl rfl rfl (pure_assign rfl) ?_
 refine d_end (fun a w ok => ?_)
 (refine WPs.run ?_ a w ok; clear ok w a)
 refine s_ret fun a w ok => ends_givesP on (.inr rfl) ok (res_tmp2 Try.results28 rfl rfl) (stR_mono _) ⟨_, rfl, hw⟩
end Go.Proofs.Ythieegnhjoehbaa
