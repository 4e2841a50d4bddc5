/- Codes: Sum, Tag, Key, Equal: walked. -/
import Derived.Test.YthieegnhjoehbaaS5
namespace Go.Proofs.Ythieegnhjoehbaa
open Go.RowKit Go.Vc
set_option linter.unusedVariables false
theorem bxor_comm (a b : Int) (ha : 0 ≤ a ∧ a < 256) (hb : 0 ≤ b ∧ b < 256) : bits .xor .u8 a b = bits .xor .u8 b a := by
 rw [u8_xor _ _ ha.1 ha.2 hb.1 hb.2, u8_xor _ _ hb.1 hb.2 ha.1 ha.2, Nat.xor_comm]
theorem bxor_zero (b : Int) (hb : 0 ≤ b ∧ b < 256) : bits .xor .u8 0 b = b := by
 rw [u8_xor _ _ (by decide) (by decide) hb.1 hb.2, Int.toNat_zero, Nat.zero_xor]
 omega
def keyB (key : List Int) : List Int := if key.length > 64 then shaF key else key
def padK (key : List Int) (by' : Int) : List Int := (List.range 64).map fun i => bits .xor .u8 ((keyB key).getD i 0) by'
def macF (key text : List Int) : List Int := shaF (padK key 92 ++ shaF (padK key 54 ++ text))
theorem padK_len (key : List Int) (x : Int) : (padK key x).length = 64 := by unfold padK; rw [List.length_map, List.length_range]
theorem padK_bytes (key : List Int) (x : Int) : Bytes (padK key x) := by
 intro y hy
 obtain ⟨i, _, rfl⟩ := List.mem_map.1 hy
 exact bits_byte _ _ _
theorem padK_get (key : List Int) (x : Int) {i : Nat} (h : i < 64) : (padK key x).getD i 0 = bits .xor .u8 ((keyB key).getD i 0) x := by
 unfold padK
 rw [List.getD_eq_getElem?_getD, List.getElem?_map, List.getElem?_range h]
 rfl
theorem padK_next (key : List Int) (x : Int) {i : Nat} (h : i < 64) : (padK key x).take (i + 1) = (padK key x).take i ++ [(padK key x).getD i 0] := by
 rw [take_next _ (by rw [padK_len]; exact h), List.getD_eq_getElem?_getD, List.getElem?_eq_getElem (by rw [padK_len]; exact h)]
 rfl
theorem keyB_bytes {key : List Int} (h : Bytes key) : Bytes (keyB key) := by
 unfold keyB
 split
 ·exact shaF_bytes _
 ·exact h
theorem keyB_le (key : List Int) : (keyB key).length ≤ 64 := by
 unfold keyB
 split
 ·rw [shaF_len]; decide
 ·omega
theorem macF_len (key text : List Int) : (macF key text).length = 32 := shaF_len _
theorem macF_bytes (key text : List Int) : Bytes (macF key text) := shaF_bytes _
theorem bytes_take {l : List Int} (h : Bytes l) (n : Nat) : Bytes (l.take n) := fun x hx => h x (List.mem_of_mem_take hx)
def BgR (t : List Int) (u : Value) (m1 : Mem) (C : Addr → Value → Prop) : Prop := ∃ b cs, u = .pointer (some ⟨b, 0, none⟩) ∧ m1 = [⟨b, cs, 115⟩] ∧ HsC C t cs
theorem bgR_mono (t : List Int) : ∀ v m1 (C C' : Addr → Value → Prop), (∀ p x, C p x → C' p x) → BgR t v m1 C → BgR t v m1 C' := by
 rintro u m1 C C' hC ⟨b, cs, rfl, rfl, h⟩
 exact ⟨b, cs, rfl, rfl, h.mono hC⟩
set_option maxHeartbeats 1000000 in
theorem begun_W (key : List Int) (x : Int) (kv : Value) (bk : Nat) (w : World) {Z : Nat → Prop} (hZ : ∀ k, w.heap.size ≤ k → Z k) (hx : 0 ≤ x ∧ x < 256) (hkc : w.cell? ⟨bk, 0, none⟩ = some kv)
  (hk : SlC (At w) 1 kv (keyB key).length (row (keyB key))) (hkb : Bytes (keyB key)) : Wm tb 65 [.int .u8 x, .pointer (some ⟨bk, 0, none⟩)] w Z [] (BgR (padK key x)) := by
 have hkl := keyB_le key
 replace hk : SlC (Cel ⟨w, [], []⟩) 1 kv (keyB key).length (row (keyB key)) := hk.mono fun p x h => ⟨h, by simp⟩
 replace hkc : Cel ⟨w, [], []⟩ ⟨bk, 0, none⟩ kv := ⟨hkc, by simp⟩
 obtain ⟨kb, kc, rfl, hkcap⟩ := slc_str hk
 refine wm_of (fn := Try.f65) Try.func65 rfl Try.ntmps65 rfl trivial hZ (by intro b hb; cases hb) (bgR_mono _) (fun on => ?_)
 repeat refine s_seqs ?_
 refine s_reg ?_
 refine qa rfl rfl ?_
 refine Vc.step_end (fun a w ok => ?_)
 (refine WPs.run ?_ a w ok; clear ok w a)
 repeat refine s_seqs ?_
 refine s_reg ?_
 refine step_pure rfl (pure_build_struct (pl := [(0, 8), (8, 1), (9, 1), (10, 1)]) rfl zero115 rfl rfl rfl rfl) ?_
 refine step_box_agg rfl rfl (fun b8 => ?_)
 refine qa rfl rfl ?_
 refine Vc.step_end (fun a w ok => ?_)
 (refine WPs.run ?_ a w ok; clear ok w a)
 repeat refine s_seqs ?_
 refine s_reg ?_
 refine qm rfl rfl ?_
 refine Vc.step_end (fun a w ok => ?_)
 (refine WPs.run ?_ a w ok; clear ok w a)
 repeat refine s_seqs ?_
 refine s_block ?_
 repeat refine s_seqs ?_
 refine s_loopP (α := Nat × List Value) (fun y => [(0, .int .u8 x), (1, .pointer (some ⟨bk, 0, none⟩)), (4, .pointer (some ⟨b8, 0, none⟩)), (9, .int .i64 y.1)]) (fun y => [⟨b8, y.2, 115⟩])
  (fun y E => y.1 ≤ 64 ∧ HsC (Cz Z E) ((padK key x).take y.1) y.2) (fun y => 64 - y.1) (0, _) ⟨Nat.zero_le _, hs_zero⟩ (less_of ⟨rfl, rfl, rfl, rfl, trivial⟩ rfl) ?_
 rintro ⟨i, cs⟩ E1 ⟨hi, ht⟩ g
 replace on := on.next g
 replace hk := hk.mono g.mono
 replace hkc := g.mono _ _ hkc
 clear g
 dsimp only at hi ht ⊢
 repeat refine s_seqs ?_
 refine s_reg ?_
 refine step_pure rfl (pure_lss rfl rfl) ?_
 refine Vc.step_end (fun a w ok => ?_)
 (refine WPs.run ?_ a w ok; clear ok w a)
 repeat refine s_seqs ?_
 refine s_cond rfl (fun h => ?_) (fun h => ?_)
 ·have hlt : i < 64 := by have := of_decide_eq_true h; omega
  clear h
  refine s_skip fun a w ok => WPs.run ?_ a w ok
  clear ok w a
  have hg := padK_get key x hlt
  have hnx := padK_next key x hlt
  have hby := (padK_bytes key x).at i
  have hpl := padK_len key x
  have hpt : ((padK key x).take i).length ≤ 64 := by rw [List.length_take]; omega
  have hptb := bytes_take (padK_bytes key x) i
  repeat refine s_seqs ?_
  refine s_meetP (α := List Value) (fun y => [(0, .int .u8 x), (1, .pointer (some ⟨bk, 0, none⟩)), (4, .pointer (some ⟨b8, 0, none⟩)), (9, .int .i64 i)]) (fun y => [⟨b8, y, 115⟩]) (fun y E => HsC (Cz Z E) ((padK key x).take (i + 1)) y) ?_ ?_
  ·repeat refine s_seqs ?_
   refine s_block ?_
   repeat refine s_seqs ?_
   refine s_reg ?_
   refine qm rfl rfl ?_
   refine qa rfl rfl ?_
   refine Vc.step_end (fun a w ok => ?_)
   (refine WPs.run ?_ a w ok; clear ok w a)
   repeat refine s_seqs ?_
   refine s_reg ?_
   refine qm rfl rfl ?_
   refine qa rfl rfl ?_
   refine Vc.step_end (fun a w ok => ?_)
   (refine WPs.run ?_ a w ok; clear ok w a)
   repeat refine s_seqs ?_
   refine s_reg ?_
   refine qm rfl rfl ?_
   refine step_pure rfl (pure_cel rfl rfl rfl hkc) ?_
   refine step_pure rfl (pure_len_slice rfl rfl rfl) ?_
   refine step_pure rfl (pure_lss rfl rfl) ?_
   refine Vc.step_end (fun a w ok => ?_)
   (refine WPs.run ?_ a w ok; clear ok w a)
   repeat refine s_seqs ?_
   refine s_meet [(0, .int .u8 x), (1, .pointer (some ⟨bk, 0, none⟩)), (4, .pointer (some ⟨b8, 0, none⟩)), (6, .int .u8 ((padK key x).getD i 0)), (9, .int .i64 i)] [⟨b8, cs, 115⟩] ?_ (fun a w ok => WPs.run ?_ a w ok)
   ·repeat refine c_seq ?_
    refine c_cond rfl (fun h => ?_) (fun h => ?_)
    ·have hik : i < (keyB key).length := by have := of_decide_eq_true h; omega
     obtain ⟨p, kc', he, hc⟩ := slc_at1 hk hik
     cases he
     have hke : (keyB key)[i] = (keyB key).getD i 0 := by rw [List.getD_eq_getElem?_getD, List.getElem?_eq_getElem hik]; rfl
     rw [hke] at hc
     have hbi := hkb.at i
     repeat refine c_seq ?_
     refine c_region ?_
     refine qm rfl rfl ?_
     refine step_pure rfl (pure_cel rfl rfl rfl hkc) ?_
     refine qm rfl rfl ?_
     refine step_as rfl (pure_indexAddr_at rfl rfl rfl rfl rfl (by omega) (by omega)) (show _ = Value.pointer (some (p.add (i * 1))) from by show Value.pointer (some (p.add ((i : Int).toNat * 1))) = _; rw [Int.toNat_natCast]) ?_
     refine step_pure rfl (pure_cel rfl rfl rfl hc) ?_
     refine step_as rfl (pure_xor rfl rfl) (congrArg (Value.int .u8) (bxor_comm x ((keyB key).getD i 0) hx hbi)) ?_
     refine qa rfl rfl ?_
     refine step_nil ?_
     exact less_of ⟨rfl, rfl, rfl, by rw [hg]; rfl, rfl, trivial⟩ rfl
    ·have hik : ¬ i < (keyB key).length := by have := of_decide_eq_false h; omega
     have h0 : (keyB key).getD i 0 = 0 := by rw [List.getD_eq_getElem?_getD, List.getElem?_eq_none (by omega)]; rfl
     rw [h0, bxor_zero x hx] at hg
     rw [hg]
     exact c_skip (less_of ⟨rfl, rfl, rfl, rfl, rfl, trivial⟩ rfl)
   rw [hnx]
   generalize (padK key x).getD i 0 = z at *
   repeat refine s_seqs ?_
   refine s_reg ?_
   refine qm rfl rfl ?_
   refine qm rfl rfl ?_
   refine step_buildSlice rfl rfl rfl rfl elem5 (by decide) (by decide) (fill_one .u8 z rfl) (fun b25 => ?_)
   refine l_let 0 rfl (fun E2 g hc => ?_)
   have hv2 := slis_cz (sl_built ty5 5 b25 (row [z]) 1 rfl) (hc _ on.sc)
   replace on := on.next g
   replace ht := ht.mono g.cz
   have g5 := g
   clear g hc
   refine step_wm [⟨b8, _, 115⟩] [] on.sc rfl fun66 rfl (List.Perm.refl _) (fun w' Z' hh kp h0 hZ hZ0 hC => add_W ((padK key x).take i) [z] _ b8 _ w' h0 hZ hZ0 (ht.mono hC) (hv2.mono hC) hptb (byte_one hby) (by show _ + 1 ≤ _; omega)) ?_
   rintro u m1 E3 g ⟨rfl, cs1, rfl, ht1⟩
   refine Vc.step_end (fun a w ok => ?_)
   refine ⟨cs1, E3, ht1.c, g5.trans g, Less.ok ?_ ok⟩
   exact less_of ⟨rfl, rfl, rfl, rfl, trivial⟩ rfl
  ·intro cs2 E4 ht2 g a w ok
   refine WPs.run ?_ a w ok
   clear ok w a
   repeat refine s_seqs ?_
   refine s_reg ?_
   refine step_pure rfl (pure_add64 rfl rfl (by omega) (by omega)) ?_
   refine qm rfl rfl ?_
   refine Vc.step_end (fun a w ok => ?_)
   refine ⟨(i + 1, cs2), E4, ⟨hlt, ht2⟩, by show 64 - (i + 1) < 64 - i; omega, g, Less.ok ?_ ok⟩
   exact less_of ⟨rfl, rfl, rfl, rfl, trivial⟩ rfl
 ·have hie : i = 64 := by have := of_decide_eq_false h; omega
  subst hie
  rw [List.take_of_length_le (by rw [padK_len]; exact Nat.le_refl _)] at ht
  refine s_exit fun a w ok => WPs.run ?_ a w ok
  clear ok w a
  repeat refine s_seqs ?_
  refine s_reg ?_
  refine qm rfl rfl ?_
  refine qa rfl rfl ?_
  refine Vc.step_end (fun a w ok => ?_)
  (refine WPs.run ?_ a w ok; clear ok w a)
  exact s_ret fun a w ok => ends_wm on (.inr rfl) ok (res_tmp Try.results65 rfl) (m1 := [_]) (mr := []) (List.Perm.refl _) (bgR_mono _) ⟨b8, cs, rfl, rfl, ht⟩
set_option maxHeartbeats 2000000 in
theorem macSum_any (key text : List Int) (kv v1 tv : Value) (w : World) (hk : SlC (At w) 1 kv key.length (row key)) (h1 : SlC (At w) 1 v1 1 [tv]) (ht : SlC (At w) 1 tv text.length (row text)) (hkb : Bytes key) (htb : Bytes text)
  (hkl : key.length ≤ 100000) (htl : text.length ≤ 100000) : Gives tb 48 [kv, v1] w (.agg (row (macF key text)).toArray) := by
 have hC0 : ∀ p x, At w p x → Cz (fun _ => True) ⟨w, [], []⟩ p x := fun p x h => ⟨⟨h, by simp⟩, trivial⟩
 replace hk := hk.mono hC0
 replace h1 := h1.mono hC0
 replace ht := ht.mono hC0
 obtain ⟨kb, kc, rfl, hkcap⟩ := slc_str hk
 obtain ⟨tb', tc, rfl, htcap⟩ := slc_str ht
 have hml := macF_len key text
 refine gives_ofk (fn := Try.f48) Try.func48 rfl Try.ntmps48 rfl (fun on => ?_)
 repeat refine s_seqs ?_
 refine s_reg ?_
 refine step_box rfl rfl rfl (fun b2 => ?_)
 refine step_alloc rfl zero30 (fun b4 => ?_)
 refine Vc.step_end (fun a w ok => ?_)
 (refine WPs.run ?_ a w ok; clear ok w a)
 repeat refine s_seqs ?_
 refine s_reg ?_
 refine step_pure rfl (pure_load (i := 1) rfl rfl rfl rfl rfl rfl) ?_
 refine step_pure rfl (pure_len_slice rfl rfl rfl) ?_
 refine step_pure rfl (pure_gtr rfl rfl) ?_
 refine Vc.step_end (fun a w ok => ?_)
 (refine WPs.run ?_ a w ok; clear ok w a)
 repeat refine s_seqs ?_
 refine s_meetP (α := Value) (fun y => [(1, v1), (2, .pointer (some ⟨b2, 0, none⟩)), (4, .pointer (some ⟨b4, 0, none⟩))]) (fun y => [⟨b4, row (zeros 32), 30⟩, ⟨b2, [y], 22⟩]) (fun y E => SlC (Cz (fun _ => True) E) 1 y (keyB key).length (row (keyB key))) ?_ ?_
 ·repeat refine s_seqs ?_
  refine s_cond rfl (fun h => ?_) (fun h => ?_)
  ·have hgt : key.length > 64 := by have := of_decide_eq_true h; omega
   clear h
   have hke : keyB key = shaF key := if_pos hgt
   have hsl := shaF_len key
   rw [hke]
   repeat refine s_seqs ?_
   refine s_reg ?_
   refine step_pure rfl (pure_load (i := 1) rfl rfl rfl rfl rfl rfl) ?_
   refine step_gives rfl fun64 rfl (fun w' hh kp => shaSum_any key _ w' (hk.mono (Cz.now kp)) hkb (by omega)) ?_
   refine step_alloc rfl zero30 (fun b5 => ?_)
   refine step_store_agg 0 rfl rfl rfl (row_one _) rfl (by rw [row_len]; exact hsl) rfl rfl (Nat.le_of_ble_eq_true rfl) (splice_all (by rw [row_len, hsl]; rfl)) ?_
   refine Vc.step_end (fun a w ok => ?_)
   (refine WPs.run ?_ a w ok; clear ok w a)
   repeat refine s_seqs ?_
   refine s_reg ?_
   refine step_pure rfl (pure_slice_all rfl rfl rfl rfl) ?_
   refine step_store 2 rfl rfl rfl rfl rfl rfl rfl rfl (Nat.le_of_ble_eq_true rfl) (show _ = [Value.slice (some ⟨b5, 0, none⟩) 32 32] from rfl) ?_
   refine l_let 0 rfl (fun E2 g hc => ?_)
   refine Vc.step_end (fun a w ok => ?_)
   refine ⟨.slice (some ⟨b5, 0, none⟩) 32 32, E2, ?_, g, Less.ok ?_ ok⟩
   ·have := slis_cz (sl_built ty5 5 b5 (row (shaF key)) 32 (by rw [row_len, hsl]; rfl)) (hc _ on.sc)
    rw [hsl]
    exact this
   exact less_of ⟨rfl, rfl, rfl, trivial⟩ rfl
  ·have hle : ¬ key.length > 64 := by have := of_decide_eq_false h; omega
   have hke : keyB key = key := if_neg hle
   rw [hke]
   refine s_skip fun a w ok => ?_
   refine ⟨_, _, hk, Gt.refl _, Less.ok ?_ ok⟩
   exact less_of ⟨rfl, rfl, rfl, trivial⟩ rfl
 intro kv2 E2 hk2 g a w2 ok
 refine WPs.run ?_ a w2 ok
 clear ok w2 a
 replace on := on.next g
 replace h1 := h1.mono g.cz
 replace ht := ht.mono g.cz
 clear g hk hkcap
 have hkb2 := keyB_bytes hkb
 obtain ⟨vb, vc, rfl, hvc, -, -⟩ := id h1
 obtain ⟨p, vc', he, hcell⟩ := h1.at (by decide) (i := 0) (by decide)
 cases he
 replace hcell := hcell 0 _ rfl
 have hpl := padK_len key 54
 have hpl2 := padK_len key 92
 repeat refine s_seqs ?_
 refine s_reg ?_
 refine step_pure rfl (pure_makeFunc rfl) ?_
 refine qa rfl rfl ?_
 refine Vc.step_end (fun a w ok => ?_)
 (refine WPs.run ?_ a w ok; clear ok w a)
 repeat refine s_seqs ?_
 refine s_reg ?_
 refine qm rfl rfl ?_
 refine step_wmc (caps := [.pointer (some ⟨b2, 0, none⟩)]) [] _ on.sc rfl rfl fun65 rfl rfl (List.Perm.refl _) (fun w' Z' hh kp h0 hZ hZ0 hC => begun_W key 54 kv2 b2 w' hZ (by decide) (cell_of (hh.cell (e := ⟨b2, [kv2], 22⟩) (.tail _ (.head _)) (by simp)) rfl) (hk2.mono (Cz.now kp)) hkb2) ?_
 rintro u m1 E3 g ⟨bh, cs, rfl, rfl, hh1⟩
 replace on := on.next g
 replace ht := ht.mono g.cz
 replace hk2 := hk2.mono g.cz
 replace hcell := g.cz _ _ hcell
 clear g h1
 refine qa rfl rfl ?_
 refine Vc.step_end (fun a w ok => ?_)
 (refine WPs.run ?_ a w ok; clear ok w a)
 repeat refine s_seqs ?_
 refine s_reg ?_
 refine qm rfl rfl ?_
 refine step_pure rfl (pure_len_slice rfl rfl rfl) ?_
 refine qm rfl rfl ?_
 refine Vc.step_end (fun a w ok => ?_)
 (refine WPs.run ?_ a w ok; clear ok w a)
 repeat refine s_seqs ?_
 refine s_meetP (α := List Value) (fun y => [(2, .pointer (some ⟨b2, 0, none⟩)), (4, .pointer (some ⟨b4, 0, none⟩)), (6, .func (.func 65) #[] #[.pointer (some ⟨b2, 0, none⟩)]), (7, .pointer (some ⟨bh, 0, none⟩))]) (fun y => [⟨bh, y, 115⟩, ⟨b4, row (zeros 32), 30⟩, ⟨b2, [kv2], 22⟩])
  (fun y E => HsC (Cz (fun _ => True) E) (padK key 54 ++ text) y) ?_ ?_
 ·repeat refine s_seqs ?_
  refine s_block ?_
  repeat refine s_seqs ?_
  refine s_loopP (α := Nat × List Value) (fun y => [(2, .pointer (some ⟨b2, 0, none⟩)), (4, .pointer (some ⟨b4, 0, none⟩)), (6, .func (.func 65) #[] #[.pointer (some ⟨b2, 0, none⟩)]), (7, .pointer (some ⟨bh, 0, none⟩)), (20, .slice (some p) 1 vc), (21, .int .i64 1), (22, .int .i64 y.1)])
   (fun y => [⟨bh, y.2, 115⟩, ⟨b4, row (zeros 32), 30⟩, ⟨b2, [kv2], 22⟩]) (fun y E => (y.1 = 0 ∧ HsC (Cz (fun _ => True) E) (padK key 54) y.2) ∨ (y.1 = 1 ∧ HsC (Cz (fun _ => True) E) (padK key 54 ++ text) y.2)) (fun y => 1 - y.1) (0, cs) (.inl ⟨rfl, hh1⟩) (less_of ⟨rfl, rfl, rfl, rfl, rfl, rfl, rfl, trivial⟩ rfl) ?_
  rintro ⟨i, cs2⟩ E4 hy g
  dsimp only at hy ⊢
  replace on := on.next g
  replace ht := ht.mono g.cz
  replace hcell := g.cz _ _ hcell
  have g4 := g
  clear g hh1
  rcases hy with ⟨rfl, hh2⟩ | ⟨rfl, hh2⟩
  ·repeat refine s_seqs ?_
   refine s_reg ?_
   refine step_pure rfl (pure_lss rfl rfl) ?_
   refine Vc.step_end (fun a w ok => ?_)
   (refine WPs.run ?_ a w ok; clear ok w a)
   repeat refine s_seqs ?_
   refine s_cond_yes rfl rfl ?_
   refine s_skip fun a w ok => WPs.run ?_ a w ok
   clear ok w a
   repeat refine s_seqs ?_
   refine s_meetP (α := List Value) (fun y => [(2, .pointer (some ⟨b2, 0, none⟩)), (4, .pointer (some ⟨b4, 0, none⟩)), (6, .func (.func 65) #[] #[.pointer (some ⟨b2, 0, none⟩)]), (7, .pointer (some ⟨bh, 0, none⟩)), (20, .slice (some p) 1 vc), (21, .int .i64 1), (22, .int .i64 0)])
    (fun y => [⟨bh, y, 115⟩, ⟨b4, row (zeros 32), 30⟩, ⟨b2, [kv2], 22⟩]) (fun y E => HsC (Cz (fun _ => True) E) (padK key 54 ++ text) y) ?_ ?_
   ·repeat refine s_seqs ?_
    refine s_block ?_
    repeat refine s_seqs ?_
    refine s_reg ?_
    refine step_as rfl (pure_indexAddr_at rfl rfl rfl rfl rfl (by decide) (by decide)) (show _ = Value.pointer (some ((p.add (0 * 1)).add 0)) from by rfl) ?_
    refine step_pure rfl (pure_cel rfl rfl rfl hcell.1) ?_
    refine qa rfl rfl ?_
    refine Vc.step_end (fun a w ok => ?_)
    (refine WPs.run ?_ a w ok; clear ok w a)
    repeat refine s_seqs ?_
    refine s_reg ?_
    refine qm rfl rfl ?_
    refine qm rfl rfl ?_
    refine step_wm [⟨bh, _, 115⟩] [_, _] on.sc rfl fun66 rfl (List.Perm.refl _) (fun w' Z' hh kp h0 hZ hZ0 hC => add_W (padK key 54) text _ bh _ w' h0 hZ hZ0 (hh2.mono hC) (ht.mono hC) (padK_bytes _ _) htb (by omega)) ?_
    rintro u m1 E5 g ⟨rfl, cs3, rfl, hh3⟩
    refine Vc.step_end (fun a w ok => ?_)
    refine ⟨cs3, E5, hh3.c, g, Less.ok ?_ ok⟩
    exact less_of ⟨rfl, rfl, rfl, rfl, rfl, rfl, rfl, trivial⟩ rfl
   ·intro cs4 E5 hh4 g a w ok
    refine WPs.run ?_ a w ok
    clear ok w a
    repeat refine s_seqs ?_
    refine s_reg ?_
    refine step_pure rfl (pure_add64 rfl rfl (by omega) (by omega)) ?_
    refine qm rfl rfl ?_
    refine Vc.step_end (fun a w ok => ?_)
    refine ⟨(1, cs4), E5, .inr ⟨rfl, hh4⟩, by show 1 - 1 < 1 - 0; decide, g, Less.ok ?_ ok⟩
    exact less_of ⟨rfl, rfl, rfl, rfl, rfl, rfl, rfl, trivial⟩ rfl
  ·repeat refine s_seqs ?_
   refine s_reg ?_
   refine step_pure rfl (pure_lss rfl rfl) ?_
   refine Vc.step_end (fun a w ok => ?_)
   (refine WPs.run ?_ a w ok; clear ok w a)
   repeat refine s_seqs ?_
   refine s_cond_no rfl rfl ?_
   refine s_exit fun a w ok => ?_
   refine ⟨cs2, E4, hh2, g4, Less.ok ?_ ok⟩
   exact less_of ⟨rfl, rfl, rfl, rfl, trivial⟩ rfl
 intro cs5 E5 hh5 g a w ok
 refine WPs.run ?_ a w ok
 clear ok w a
 replace on := on.next g
 replace hk2 := hk2.mono g.cz
 clear g hh1 ht hcell
 have htxt : (padK key 54 ++ text).length ≤ 900000 := by rw [List.length_append]; omega
 have htxb : Bytes (padK key 54 ++ text) := (padK_bytes _ _).append htb
 have hil := shaF_len (padK key 54 ++ text)
 have hib := shaF_bytes (padK key 54 ++ text)
 have hmF : macF key text = shaF (padK key 92 ++ shaF (padK key 54 ++ text)) := rfl
 have hdn := fun w' h h2 => done_any (padK key 54 ++ text) cs5 bh w' h h2 htxb htxt
 generalize shaF (padK key 54 ++ text) = I at *
 repeat refine s_seqs ?_
 refine s_reg ?_
 refine qm rfl rfl ?_
 refine step_gives rfl fun67 rfl (fun w' hh kp => hdn w' (hh.1 (cs_ne hh5)) (hh5.mono (Cz.now kp))) ?_
 refine step_alloc rfl zero30 (fun b10 => ?_)
 refine step_store_agg 0 rfl rfl rfl (row_one _) rfl (by rw [row_len]; exact hil) rfl rfl (Nat.le_of_ble_eq_true rfl) (splice_all (by rw [row_len, hil]; rfl)) ?_
 refine Vc.step_end (fun a w ok => ?_)
 (refine WPs.run ?_ a w ok; clear ok w a)
 clear hdn
 refine s_let 0 rfl (fun E6 g hc => ?_)
 have hI := slis_cz (sl_built ty5 5 b10 (row I) 32 (by rw [row_len, hil]; rfl)) (hc _ on.sc)
 replace hI : SlC (Cz (fun _ => True) E6) 1 (.slice (some ⟨b10, 0, none⟩) 32 32) I.length (row I) := by rw [hil]; exact hI
 replace on := on.next g
 replace hk2 := hk2.mono g.cz
 clear g hc hh5
 refine s_less (rs' := [(2, .pointer (some ⟨b2, 0, none⟩)), (4, .pointer (some ⟨b4, 0, none⟩)), (6, .func (.func 65) #[] #[.pointer (some ⟨b2, 0, none⟩)]), (10, .pointer (some ⟨b10, 0, none⟩))]) (m' := [⟨b4, row (zeros 32), 30⟩, ⟨b2, [kv2], 22⟩]) (less_sub ⟨rfl, rfl, rfl, rfl, trivial⟩ (by repeat (first | exact List.Sublist.refl _ | exact List.nil_sublist _ | apply List.Sublist.cons_cons | apply List.Sublist.cons))) ?_
 repeat refine s_seqs ?_
 refine s_reg ?_
 refine qm rfl rfl ?_
 refine step_wmc (caps := [.pointer (some ⟨b2, 0, none⟩)]) [] _ on.sc rfl rfl fun65 rfl rfl (List.Perm.refl _) (fun w' Z' hh kp h0 hZ hZ0 hC => begun_W key 92 kv2 b2 w' hZ (by decide) (cell_of (hh.cell (e := ⟨b2, [kv2], 22⟩) (.tail _ (.head _)) (by simp)) rfl) (hk2.mono (Cz.now kp)) hkb2) ?_
 rintro u m1 E7 g ⟨bg, cs6, rfl, rfl, hh6⟩
 replace on := on.next g
 replace hI := hI.mono g.cz
 clear g hk2
 refine qa rfl rfl ?_
 refine Vc.step_end (fun a w ok => ?_)
 (refine WPs.run ?_ a w ok; clear ok w a)
 repeat refine s_seqs ?_
 refine s_reg ?_
 refine qm rfl rfl ?_
 refine step_as rfl (pure_slice_all rfl rfl rfl rfl) (show _ = Value.slice (some ⟨b10, 0, none⟩) 32 32 from rfl) ?_
 refine step_wm [⟨bg, _, 115⟩] [_, _] on.sc rfl fun66 rfl (List.Perm.refl _) (fun w' Z' hh kp h0 hZ hZ0 hC => add_W (padK key 92) I _ bg _ w' h0 hZ hZ0 (hh6.mono hC) (hI.mono hC) (padK_bytes _ _) hib (by omega)) ?_
 rintro u m1 E8 g ⟨rfl, cs7, rfl, hh7⟩
 replace on := on.next g
 clear g hI hh6
 refine Vc.step_end (fun a w ok => ?_)
 (refine WPs.run ?_ a w ok; clear ok w a)
 have htxt2 : (padK key 92 ++ I).length ≤ 900000 := by rw [List.length_append]; omega
 have htxb2 : Bytes (padK key 92 ++ I) := (padK_bytes _ _).append hib
 have hdn := fun w' h h2 => done_any (padK key 92 ++ I) cs7 bg w' h h2 htxb2 htxt2
 rw [← hmF] at hdn
 generalize macF key text = M at *
 repeat refine s_seqs ?_
 refine s_reg ?_
 refine qm rfl rfl ?_
 refine step_gives rfl fun67 rfl (fun w' hh kp => hdn w' (hh.1 (cs_ne hh7.c)) (hh7.c.mono (Cz.now kp))) ?_
 refine step_store_agg 1 rfl rfl rfl (row_one _) rfl (by rw [row_len]; exact hml) rfl rfl (Nat.le_of_ble_eq_true rfl) (splice_all (by rw [row_len, hml]; rfl)) ?_
 refine Vc.step_end (fun a w ok => ?_)
 (refine WPs.run ?_ a w ok; clear ok w a)
 exact s_ret fun a w ok => ends_k on (.inr rfl) ok (res_cell_agg (i := 1) Try.results48 rfl rfl rfl rfl rfl (by show 0 + 32 ≤ (row M).length; rw [row_len, hml]; decide) (ints_whole _ _ 32 hml))
end Go.Proofs.Ythieegnhjoehbaa
