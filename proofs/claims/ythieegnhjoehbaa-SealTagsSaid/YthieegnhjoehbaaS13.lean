/- The packet that a datagram is: Open, the document's too: walked. -/
import Derived.Test.YthieegnhjoehbaaS12
namespace Go.Proofs.Ythieegnhjoehbaa
open Go.RowKit Go.Vc
set_option linter.unusedVariables false
/-- Has a datagram of a side the tag that is asked for? -/
def tgOk (K : List Int) (frm : Int) (b : List Int) : Bool := match hdd b with
 | none => false
 | some h => decide (h.1 = frm) && (decide (h.2.2 + 16 ≤ b.length) && decide (tagF (macK K h.1.toNat) (b.take (b.length - 16)) = b.drop (b.length - 16)))
/-- What was hidden. -/
def shown (K : List Int) (b : List Int) (h : Int × Int × Nat) : List Int := hid K h.1.toNat h.2.1 ((b.drop h.2.2).take (b.length - 16 - h.2.2))
def opRd (K : List Int) (frm : Int) (b : List Int) : Option (Option Pk) :=
 if tgOk K frm b = true then some ((hdd b).bind fun h => (rdAll (shown K b h)).bind fun l => if l.length = 0 then none else some ⟨h.1, h.2.1, l⟩) else none
def opX (K : List Int) (frm : Int) (b : List Int) : Int := match opRd K frm b with
 | none => 70
 | some none => 30
 | some (some _) => 0
def opG (K : List Int) (frm : Int) (b : List Int) : Pk := match opRd K frm b with
 | some (some p) => p
 | _ => ⟨0, 0, []⟩
def OpR (K : List Int) (frm : Int) (b : List Int) (u : Value) (C : Addr → Value → Prop) : Prop := ∃ v, u = .tuple #[.agg [.int .i64 (opG K frm b).side, .int .i64 (opG K frm b).num, v].toArray, .int .i64 (opX K frm b)] ∧ FrsC C v (opG K frm b).fs
theorem opR_mono (K : List Int) (frm : Int) (b : List Int) : ∀ v (C C' : Addr → Value → Prop), (∀ a x, C a x → C' a x) → OpR K frm b v C → OpR K frm b v C' := by
 rintro u C C' hC ⟨v, rfl, hs⟩
 exact ⟨v, rfl, hs.mono hC⟩
section
variable {K : List Int} {frm : Int} {b : List Int} {C : Addr → Value → Prop}
theorem opR_no (h : tgOk K frm b = false) : OpR K frm b (.tuple #[.agg [.int .i64 0, .int .i64 0, .slice none 0 0].toArray, .int .i64 70]) C := by
 have : opRd K frm b = none := by unfold opRd; rw [h]; rfl
 unfold OpR opG opX
 rw [this]
 exact ⟨_, rfl, frs_nil⟩
theorem opR_bad (h : opRd K frm b = some none) : OpR K frm b (.tuple #[.agg [.int .i64 0, .int .i64 0, .slice none 0 0].toArray, .int .i64 30]) C := by
 unfold OpR opG opX
 rw [h]
 exact ⟨_, rfl, frs_nil⟩
theorem opR_yes {p : Pk} {v : Value} (h : opRd K frm b = some (some p)) (hv : FrsC C v p.fs) : OpR K frm b (.tuple #[.agg [.int .i64 p.side, .int .i64 p.num, v].toArray, .int .i64 0]) C := by
 unfold OpR opG opX
 rw [h]
 exact ⟨_, rfl, hv⟩
theorem tgOk_some {s n : Int} {k : Nat} (h : hdd b = some (s, n, k)) : tgOk K frm b = (decide (s = frm) && (decide (k + 16 ≤ b.length) && decide (tagF (macK K s.toNat) (b.take (b.length - 16)) = b.drop (b.length - 16)))) := by
 unfold tgOk
 rw [h]
theorem tgOk_none (h : hdd b = none) : tgOk K frm b = false := by
 unfold tgOk
 rw [h]
theorem opRd_some {s n : Int} {k : Nat} (h : hdd b = some (s, n, k)) (ht : tgOk K frm b = true) : opRd K frm b = some ((rdAll (hid K s.toNat n ((b.drop k).take (b.length - 16 - k)))).bind fun l => if l.length = 0 then none else some ⟨s, n, l⟩) := by
 unfold opRd
 rw [if_pos ht, h]
 rfl
end
theorem sub_ptr {p : Addr} {cap lo hi : Nat} (h : lo < cap) : subS (some p) cap 1 lo hi = .slice (some (p.add lo)) (hi - lo) (cap - lo) := by
 unfold subS
 rw [if_neg (by omega), Nat.mul_one]
 rfl
theorem take_sub {l : List Int} {n : Nat} (h : n ≤ l.length) : ((row l).drop 0).take n = row (l.take n) := by rw [List.drop_zero]; exact (List.map_take ..).symm
set_option maxHeartbeats 2000000 in
theorem open_P (K : List Int) (frm : Int) (b : List Int) (v : Value) (w : World) {Z : Nat → Prop} (hZ : ∀ b, w.heap.size ≤ b → Z b) (hK : K.length = 96) (hKb : Bytes K) (hv : SlC (At w) 1 v b.length (row b)) (hb : Bytes b) (hle : b.length ≤ 100000) :
  GivesP tb 17 [.agg (row K).toArray, .int .i64 frm, v] w Z (OpR K frm b) := by
 replace hv : SlC (Cel ⟨w, [], []⟩) 1 v b.length (row b) := hv.mono fun p x h => ⟨h, by simp⟩
 obtain ⟨base1, cap1, rfl, hcap1⟩ := slc_str hv
 refine givesP_of (fn := Try.f17) Try.func17 rfl Try.ntmps17 rfl hZ (opR_mono K frm b) (fun on => ?_)
 repeat refine s_seqs ?_
 refine s_reg ?_
 refine step_box_agg rfl rfl (fun b3 => ?_)
 refine step_alloc rfl zero25 (fun b6 => ?_)
 refine qa rfl rfl ?_
 refine Vc.step_end (fun a w ok => ?_)
 (refine WPs.run ?_ a w ok; clear ok w a)
 repeat refine s_seqs ?_
 refine s_reg ?_
 refine qm rfl rfl ?_
 refine step_gives rfl fun37 rfl (fun w' hh kp => headed_any b _ w' (hv.mono fun p x h => h.now kp).slv hb (by omega)) ?_
 cases hh : hdd b with
 | none =>
  rw [hdv_no hh]
  refine qm rfl rfl ?_
  refine qx rfl rfl rfl ?_
  refine qx rfl rfl rfl ?_
  refine qx rfl rfl rfl ?_
  refine qx rfl rfl rfl ?_
  refine qa rfl rfl ?_
  refine qa rfl rfl ?_
  refine qa rfl rfl ?_
  refine qa rfl rfl ?_
  refine Vc.step_end (fun a w ok => ?_)
  (refine WPs.run ?_ a w ok; clear ok w a)
  repeat refine s_seqs ?_
  refine s_reg ?_
  refine qm rfl rfl ?_
  refine step_pure rfl (pure_len_slice rfl rfl rfl) ?_
  refine step_pure rfl (pure_sub64 rfl rfl (by omega) (by omega)) ?_
  refine qa rfl rfl ?_
  refine Vc.step_end (fun a w ok => ?_)
  (refine WPs.run ?_ a w ok; clear ok w a)
  repeat refine s_seqs ?_
  refine s_reg ?_
  refine qm rfl rfl ?_
  refine step_pure rfl (pure_neq rfl rfl) ?_
  refine qm rfl rfl ?_
  refine qp rfl rfl rfl ?_
  refine qp rfl rfl rfl ?_
  refine qp rfl rfl rfl ?_
  refine step_pure rfl (pure_pick_yes rfl rfl) ?_
  refine qm rfl rfl ?_
  refine qp rfl rfl rfl ?_
  refine qp rfl rfl rfl ?_
  refine qp rfl rfl rfl ?_
  refine step_pure rfl (pure_pick_yes rfl rfl) ?_
  refine Vc.step_end (fun a w ok => ?_)
  (refine WPs.run ?_ a w ok; clear ok w a)
  repeat refine s_seqs ?_
  refine s_cond_yes rfl rfl ?_
  repeat refine s_seqs ?_
  refine s_reg ?_
  refine step_pure rfl (pure_load_agg (i := 0) rfl rfl rfl rfl rfl (Nat.le_of_ble_eq_true rfl) rfl) ?_
  refine step_store_agg 0 rfl rfl rfl (of_one rfl) rfl rfl rfl rfl (Nat.le_of_ble_eq_true rfl) rfl ?_
  refine qa rfl rfl ?_
  refine Vc.step_end (fun a w ok => ?_)
  (refine WPs.run ?_ a w ok; clear ok w a)
  exact s_ret fun a w ok => ends_givesP on (.inr rfl) ok (res_cell_tmp (i := 0) Try.results17 rfl rfl rfl rfl rfl (Nat.le_of_ble_eq_true rfl) rfl rfl) (opR_mono K frm b) (opR_no (tgOk_none hh))
 | some y =>
 obtain ⟨s, n, k⟩ := y
 have hle2 := hdd_le hb hh
 have htg := tgOk_some (K := K) (frm := frm) hh
 rw [hdv_yes hh]
 refine qm rfl rfl ?_
 refine qx rfl rfl rfl ?_
 refine qx rfl rfl rfl ?_
 refine qx rfl rfl rfl ?_
 refine qx rfl rfl rfl ?_
 refine qa rfl rfl ?_
 refine qa rfl rfl ?_
 refine qa rfl rfl ?_
 refine qa rfl rfl ?_
 refine Vc.step_end (fun a w ok => ?_)
 (refine WPs.run ?_ a w ok; clear ok w a)
 repeat refine s_seqs ?_
 refine s_reg ?_
 refine qm rfl rfl ?_
 refine step_pure rfl (pure_len_slice rfl rfl rfl) ?_
 refine step_pure rfl (pure_sub64 rfl rfl (by omega) (by omega)) ?_
 refine qa rfl rfl ?_
 refine Vc.step_end (fun a w ok => ?_)
 (refine WPs.run ?_ a w ok; clear ok w a)
 repeat refine s_seqs ?_
 refine s_meet [(2, .slice base1 b.length cap1), (3, .pointer (some ⟨b3, 0, none⟩)), (6, .pointer (some ⟨b6, 0, none⟩)), (8, .int .i64 s), (9, .int .i64 n), (10, .int .i64 k), (11, .int .i64 (b.length - 16)), (35, .bool (!(decide (s = frm) && decide (k + 16 ≤ b.length))))] [⟨b6, [.int .i64 0, .int .i64 0, .slice none 0 0], 25⟩, ⟨b3, row K, 33⟩] ?_ (fun a9 w9 ok9 => WPs.run ?_ a9 w9 ok9)
 ·clear htg hv
  generalize b.length = bl at *
  repeat refine c_seq ?_
  refine c_region ?_
  refine qm rfl rfl ?_
  refine step_pure rfl (pure_neq rfl rfl) ?_
  refine qm rfl rfl ?_
  refine qm rfl rfl ?_
  refine qm rfl rfl ?_
  refine step_pure rfl (pure_neq rfl rfl) ?_
  refine step_pure rfl (pure_pick_no rfl rfl) ?_
  refine qm rfl rfl ?_
  refine step_split (t := 31) rfl (fun h31 => ?_) (fun h31 => ?_)
  ·refine qp rfl rfl rfl ?_
   refine qp rfl rfl rfl ?_
   refine qp rfl rfl rfl ?_
   refine step_pure rfl (pure_pick_yes rfl rfl) ?_
   refine step_nil ?_
   refine less_of ⟨rfl, rfl, rfl, rfl, rfl, rfl, rfl, ?_, trivial⟩ rfl
   refine congrArg some (congrArg Value.bool ?_)
   simp_all [bne]
   try (rw [← decide_not]; exact decide_eq_decide.2 (by omega))
  ·refine qm rfl rfl ?_
   refine qm rfl rfl ?_
   refine step_pure rfl (pure_lss rfl rfl) ?_
   refine step_pure rfl (pure_pick_no rfl rfl) ?_
   refine step_nil ?_
   refine less_of ⟨rfl, rfl, rfl, rfl, rfl, rfl, rfl, ?_, trivial⟩ rfl
   refine congrArg some (congrArg Value.bool ?_)
   simp_all [bne]
   try (rw [← decide_not]; exact decide_eq_decide.2 (by omega))
 repeat refine s_seqs ?_
 refine s_cond rfl (fun h => ?_) (fun h => ?_)
 ·have hno : tgOk K frm b = false := by
   rw [htg, ← Bool.and_assoc]
   have h2 : (decide (s = frm) && decide (k + 16 ≤ b.length)) = false := by rw [Bool.not_eq_true'] at h; exact h
   rw [h2]
   rfl
  repeat refine s_seqs ?_
  refine s_reg ?_
  refine step_pure rfl (pure_load_agg (i := 0) rfl rfl rfl rfl rfl (Nat.le_of_ble_eq_true rfl) rfl) ?_
  refine step_store_agg 0 rfl rfl rfl (of_one rfl) rfl rfl rfl rfl (Nat.le_of_ble_eq_true rfl) rfl ?_
  refine qa rfl rfl ?_
  refine Vc.step_end (fun a w ok => ?_)
  (refine WPs.run ?_ a w ok; clear ok w a)
  exact s_ret fun a w ok => ends_givesP on (.inr rfl) ok (res_cell_tmp (i := 0) Try.results17 rfl rfl rfl rfl rfl (Nat.le_of_ble_eq_true rfl) rfl rfl) (opR_mono K frm b) (opR_no hno)
 have h2 : (decide (s = frm) && decide (k + 16 ≤ b.length)) = true := by rw [Bool.not_eq_false'] at h; exact h
 have hsk : s = frm ∧ k + 16 ≤ b.length := by simpa using h2
 rw [← Bool.and_assoc, h2, Bool.true_and] at htg
 clear h h2
 obtain ⟨t, hst, hst2⟩ : ∃ t : Nat, s = t ∧ t < 2 := ⟨s.toNat, by omega, by omega⟩
 subst hst
 rw [Int.toNat_natCast] at htg
 obtain ⟨lst, hlst⟩ : ∃ l, l = b.length - 16 := ⟨_, rfl⟩
 rw [← hlst] at htg
 have hcv : ((b.length : Int) - 16) = (lst : Int) := by omega
 rw [hcv]
 have hmK := macK_len hK hst2
 have hmb := macK_bytes hKb t
 have htl := tagF_len (macK K t) (b.take lst)
 have hDl : (b.drop lst).length = 16 := by rw [List.length_drop]; omega
 have hTl : (b.take lst).length = lst := by rw [List.length_take]; omega
 have hs1 := slc_sub (lo := 0) (hi := lst) hv (Nat.zero_le _) (by omega)
 rw [Nat.zero_mul, Nat.sub_zero, Nat.mul_one, take_sub (by omega)] at hs1
 have hs2 := slc_sub (lo := k) (hi := lst) hv (by omega) (by omega)
 rw [Nat.mul_one, Nat.mul_one, row_sub] at hs2
 obtain ⟨base1', cap1', he1, -, -, hcel⟩ := id hv
 cases he1
 obtain ⟨p, rfl, hcl⟩ := hcel (by intro h; have := row_len b; rw [h] at this; have : 0 = b.length := this; omega)
 have htag := fun w' kv v1 tv (h1 : SlC (At w') 1 kv (macK K t).length (row (macK K t))) h2 h3 => macTag_any (macK K t) (b.take lst) kv v1 tv w' h1 h2 h3 hmb (bytes_take hb _) (by omega) (by omega)
 have hgd : ∀ j x, (row (b.drop lst))[j]? = some x → Cel ⟨w, [], []⟩ ((p.add lst).add j) x := fun j x h => by
  rw [Deep.add_add]
  refine hcl _ x ?_
  rw [show row (b.drop lst) = (row b).drop lst from (List.map_drop ..), List.getElem?_drop] at h
  exact h
 clear hcel hcl
 have hmid : ((b.drop k).take (lst - k)).length = lst - k := by rw [List.length_take, List.length_drop]; omega
 have hrd := fun h => opRd_some (K := K) (frm := frm) hh h
 rw [Int.toNat_natCast, ← hlst] at hrd
 generalize tagF (macK K t) (b.take lst) = G at *
 refine s_skip fun a w ok => WPs.run ?_ a w ok
 clear ok w a
 repeat refine s_seqs ?_
 refine s_dreg [1, 9, 17, 25, 33, 41, 49, 73, 81, 89, 97, 107, 61, 69, 115, 121] ([⟨b6, [.int .i64 0, .int .i64 0, .slice none 0 0], 25⟩, ⟨b3, row K, 33⟩]) follows (by kernel_rfl) ?_
 refine qd rfl rfl rfl rfl ?_
 refine d_pure0 rfl rfl rfl (pure_fieldAddr rfl rfl rfl rfl rfl (by decide)) ?_
 refine d_pure0 rfl rfl rfl (pure_ix (off' := 32 + 32 * t) rfl rfl rfl rfl rfl (by omega) (by omega) (by show 0 + 32 + (t : Int).toNat * 32 = _; omega)) ?_
 refine d_as0 rfl rfl rfl (pure_slice_all rfl rfl rfl rfl) (show _ = Value.slice (some ⟨b3, 32 + 32 * t, none⟩) 32 32 from rfl) ?_
 refine qd rfl rfl rfl rfl ?_
 refine qd rfl rfl rfl rfl ?_
 refine d_as0 rfl rfl rfl (pure_sub_hi rfl rfl rfl rfl rfl (by omega) (by omega)) (show _ = Value.slice (some p) lst cap1 from by show subS (some p) cap1 1 0 (lst : Int).toNat = _; rw [Int.toNat_natCast, sub_ptr (by omega)]; rfl) ?_
 refine qd rfl rfl rfl rfl ?_
 refine qd rfl rfl rfl rfl ?_
 refine d_as0 rfl rfl rfl (pure_sub_lo rfl rfl rfl rfl rfl (by omega) (by omega)) (show _ = Value.slice (some (p.add lst)) (b.length - lst) (cap1 - lst) from by show subS (some p) cap1 1 (lst : Int).toNat b.length = _; rw [Int.toNat_natCast, sub_ptr (by omega)]) ?_
 refine d_pure0 rfl rfl rfl (pure_toArr rfl rfl rfl (by omega)) ?_
 refine d_pure1 rfl rfl rfl (pure_cel_agg rfl rfl rfl (by rw [row_len]; exact hDl) hgd) (by exact SubMem.refl _) ?_
 refine d_buildSlice rfl rfl rfl rfl rfl rfl elem22 (by decide) (by decide) (fill_sl _ _ _) (by exact SubMem.refl _) rfl (fun b44 => ?_)
 refine d_givesP on.sc rfl rfl rfl fun29 rfl (fun w' Z' hh kp hZ hC => givesP_of_gives (htag w' _ _ _ (by rw [hmK]; exact slc_blk (j := 2) (off := 32 + 32 * t) hh rfl (by rw [hK]; omega) (Nat.le_refl _)) (slis_mem (sl_built ty22 22 b44 [Value.slice (some p) lst cap1] 1 rfl) (fun _ => .head _) hh) (by have := hs1.mono (fun p x h => h.now kp); rw [sub_ptr (by omega)] at this; rw [hTl]; exact this))) rfl ?_
 rintro u E1 g rfl
 replace on := on.next g
 replace hs2 := hs2.mono g.mono
 clear g hs1
 refine d_gives rfl rfl rfl fun38 rfl (fun w _ _ => macEqual_any G (b.drop lst) w htl hDl) (by exact (SubMem.refl _).cons) ?_
 refine d_pure0 rfl rfl rfl (pure_not rfl) ?_
 refine d_end (fun a w ok => ?_)
 (refine WPs.run ?_ a w ok; clear ok w a)
 repeat refine s_seqs ?_
 refine s_cond rfl (fun h => ?_) (fun h => ?_)
 ·have hno : tgOk K frm b = false := by
   rw [htg]
   rw [Bool.not_eq_true'] at h
   exact h
  repeat refine s_seqs ?_
  refine s_reg ?_
  refine step_pure rfl (pure_load_agg (i := 1) rfl rfl rfl rfl rfl (Nat.le_of_ble_eq_true rfl) rfl) ?_
  refine step_store_agg 1 rfl rfl rfl (of_one rfl) rfl rfl rfl rfl (Nat.le_of_ble_eq_true rfl) rfl ?_
  refine qa rfl rfl ?_
  refine Vc.step_end (fun a w ok => ?_)
  (refine WPs.run ?_ a w ok; clear ok w a)
  exact s_ret fun a w ok => ends_givesP on (.inr rfl) ok (res_cell_tmp (i := 1) Try.results17 rfl rfl rfl rfl rfl (Nat.le_of_ble_eq_true rfl) rfl rfl) (opR_mono K frm b) (opR_no hno)
 have hyes : tgOk K frm b = true := by
  rw [htg]
  rw [Bool.not_eq_false'] at h
  exact h
 have hrd := hrd hyes
 clear h htag
 refine s_skip fun a w ok => WPs.run ?_ a w ok
 clear ok w a
 repeat refine s_seqs ?_
 refine s_dreg [3, 9, 17, 25, 33, 41, 49, 60, 65, 73, 81, 89, 97] ([⟨b44, [Value.slice (some p) lst cap1], 22⟩, ⟨b6, [.int .i64 0, .int .i64 0, .slice none 0 0], 25⟩, ⟨b3, row K, 33⟩]) follows (by kernel_rfl) ?_
 refine d_pure1 rfl rfl rfl (pure_load_agg (i := 2) rfl rfl rfl rfl rfl (by show 0 + 96 ≤ (row K).length; rw [row_len, hK]; decide) (ints_whole _ _ 96 hK)) (by exact SubMem.refl _) ?_
 refine qd rfl rfl rfl rfl ?_
 refine qd rfl rfl rfl rfl ?_
 refine qd rfl rfl rfl rfl ?_
 refine qd rfl rfl rfl rfl ?_
 refine qd rfl rfl rfl rfl ?_
 refine d_as0 rfl rfl rfl (pure_sub_both rfl rfl rfl rfl rfl rfl (by omega) (by omega) (by omega)) (show _ = subS (some p) cap1 1 k lst from by show subS (some p) cap1 1 (k : Int).toNat (lst : Int).toNat = _; rw [Int.toNat_natCast, Int.toNat_natCast]) ?_
 refine d_givesP on.sc rfl rfl rfl fun28 rfl (fun w' Z' hh kp hZ hC => kstream_P K t n ((b.drop k).take (lst - k)) _ w' hZ hK hKb hst2 (by rw [hmid]; exact hs2.mono (fun p x h => h.now kp)) (by omega)) rfl ?_
 rintro u E2 g ⟨v4, rfl, hd⟩
 replace on := on.next g
 clear g hs2
 refine qd rfl rfl rfl rfl ?_
 refine d_pure0 rfl rfl rfl (pure_extract rfl rfl) ?_
 refine d_pure0 rfl rfl rfl (pure_extract rfl rfl) ?_
 refine d_pure0 rfl rfl rfl (pure_assign rfl) ?_
 refine d_pure0 rfl rfl rfl (pure_assign rfl) ?_
 refine d_end (fun a w ok => ?_)
 (refine WPs.run ?_ a w ok; clear ok w a)
 have hdl := hid_len K t n ((b.drop k).take (lst - k))
 have hdb := hid_bytes K t n ((b.drop k).take (lst - k))
 generalize hid K t n ((b.drop k).take (lst - k)) = H at *
 repeat refine s_seqs ?_
 refine s_reg ?_
 refine qm rfl rfl ?_
 refine step_pure rfl (pure_neq rfl rfl) ?_
 refine Vc.step_end (fun a w ok => ?_)
 (refine WPs.run ?_ a w ok; clear ok w a)
 repeat refine s_seqs ?_
 refine s_cond_no rfl rfl ?_
 refine s_skip fun a w ok => WPs.run ?_ a w ok
 clear ok w a
 repeat refine s_seqs ?_
 refine s_reg ?_
 refine qm rfl rfl ?_
 refine step_givesP on.sc rfl fun39 rfl (fun w' Z' hh kp hZ hC => read_P H _ w' hZ (hd.mono (Cz.now kp)) hdb (by omega)) ?_
 rintro u E3 g ⟨v7, rfl, hr⟩
 replace on := on.next g
 clear g hd
 refine qm rfl rfl ?_
 refine qx rfl rfl rfl ?_
 refine qx rfl rfl rfl ?_
 refine qa rfl rfl ?_
 refine qa rfl rfl ?_
 refine Vc.step_end (fun a w ok => ?_)
 (refine WPs.run ?_ a w ok; clear ok w a)
 cases hd : rdAll H with
 | none =>
  rw [hd] at hrd hr
  obtain ⟨b7, c7, rfl, hc7⟩ := hr.slice
  repeat refine s_seqs ?_
  refine s_reg ?_
  refine qm rfl rfl ?_
  refine step_pure rfl (pure_neq rfl rfl) ?_
  refine qm rfl rfl ?_
  refine qp rfl rfl rfl ?_
  refine qp rfl rfl rfl ?_
  refine qp rfl rfl rfl ?_
  refine step_pure rfl (pure_pick_yes rfl rfl) ?_
  refine Vc.step_end (fun a w ok => ?_)
  (refine WPs.run ?_ a w ok; clear ok w a)
  repeat refine s_seqs ?_
  refine s_cond_yes rfl rfl ?_
  repeat refine s_seqs ?_
  refine s_reg ?_
  refine step_pure rfl (pure_load_agg (i := 1) rfl rfl rfl rfl rfl (Nat.le_of_ble_eq_true rfl) rfl) ?_
  refine step_store_agg 1 rfl rfl rfl (of_one rfl) rfl rfl rfl rfl (Nat.le_of_ble_eq_true rfl) rfl ?_
  refine qa rfl rfl ?_
  refine Vc.step_end (fun a w ok => ?_)
  (refine WPs.run ?_ a w ok; clear ok w a)
  exact s_ret fun a w ok => ends_givesP on (.inr rfl) ok (res_cell_tmp (i := 1) Try.results17 rfl rfl rfl rfl rfl (Nat.le_of_ble_eq_true rfl) rfl rfl) (opR_mono K frm b) (opR_bad hrd)
 | some l =>
 rw [hd] at hrd hr
 replace hr : FrsC (Cz Z E3) v7 l := hr
 replace hrd : opRd K frm b = some (if l.length = 0 then none else some ⟨t, n, l⟩) := hrd
 obtain ⟨b7, c7, rfl, hc7⟩ := hr.slice
 repeat refine s_seqs ?_
 refine s_reg ?_
 refine qm rfl rfl ?_
 refine step_pure rfl (pure_neq rfl rfl) ?_
 refine qm rfl rfl ?_
 refine qm rfl rfl ?_
 refine step_pure rfl (pure_len_slice rfl rfl rfl) ?_
 refine step_pure rfl (pure_eql rfl rfl) ?_
 refine step_pure rfl (pure_pick_no rfl rfl) ?_
 refine Vc.step_end (fun a w ok => ?_)
 (refine WPs.run ?_ a w ok; clear ok w a)
 repeat refine s_seqs ?_
 refine s_cond rfl (fun h => ?_) (fun h => ?_)
 ·rw [if_pos (by simpa using h)] at hrd
  repeat refine s_seqs ?_
  refine s_reg ?_
  refine step_pure rfl (pure_load_agg (i := 1) rfl rfl rfl rfl rfl (Nat.le_of_ble_eq_true rfl) rfl) ?_
  refine step_store_agg 1 rfl rfl rfl (of_one rfl) rfl rfl rfl rfl (Nat.le_of_ble_eq_true rfl) rfl ?_
  refine qa rfl rfl ?_
  refine Vc.step_end (fun a w ok => ?_)
  (refine WPs.run ?_ a w ok; clear ok w a)
  exact s_ret fun a w ok => ends_givesP on (.inr rfl) ok (res_cell_tmp (i := 1) Try.results17 rfl rfl rfl rfl rfl (Nat.le_of_ble_eq_true rfl) rfl rfl) (opR_mono K frm b) (opR_bad hrd)
 ·rw [if_neg (by simpa using h)] at hrd
  refine s_skip fun a w ok => WPs.run ?_ a w ok
  clear ok w a
  repeat refine s_seqs ?_
  refine s_reg ?_
  refine qm rfl rfl ?_
  refine qm rfl rfl ?_
  refine qm rfl rfl ?_
  refine step_pure rfl (pure_build_struct (pl := [(0, 1), (1, 1), (2, 1)]) rfl zero25 rfl rfl rfl rfl) ?_
  refine step_store_agg 1 rfl rfl rfl (of_one rfl) rfl rfl rfl rfl (Nat.le_of_ble_eq_true rfl) rfl ?_
  refine qa rfl rfl ?_
  refine Vc.step_end (fun a w ok => ?_)
  (refine WPs.run ?_ a w ok; clear ok w a)
  exact s_ret fun a w ok => ends_givesP on (.inr rfl) ok (res_cell_tmp (i := 1) Try.results17 rfl rfl rfl rfl rfl (Nat.le_of_ble_eq_true rfl) rfl rfl) (opR_mono K frm b) (opR_yes hrd hr)
end Go.Proofs.Ythieegnhjoehbaa
