/- Cells moved: walked. -/
import Derived.Test.YtadginombcjbeaaG3
namespace Go.Proofs.Ytadginombcjbeaa
open Go.RowKit Go.Vc
set_option linter.unusedVariables false
theorem Plc.less {l : List Ce} {off o k k' : Nat} (h : Plc l off o k) (hk : k' ≤ k) : Plc l off o k' := ⟨fun hp => h.at_ (by omega), h.le, by have := h.in_; omega⟩
theorem Plc.of_len {l l' : List Ce} {off o k : Nat} (h : Plc l off o k) (hl : l'.length = l.length) : Plc l' off o k := ⟨h.at_, h.le, by have := h.in_; omega⟩
theorem splice_two {l a b : List Ce} {o : Nat} (h : o + a.length + b.length ≤ l.length) : splice (splice l o a) (o + a.length) b = splice l o (a ++ b) := by
 have h1 : (splice l o a).length = l.length := splice_len (by omega)
 refine ext_getD ?_ fun j hj => ?_
 ·rw [splice_len (by omega), h1, splice_len (by rw [List.length_append]; omega)]
 ·rw [splice_getD _ _ _ _ (by omega), splice_getD _ _ _ _ (by omega), splice_getD _ _ _ _ (by rw [List.length_append]; omega), List.length_append]
  by_cases h2 : o ≤ j ∧ j < o + a.length
  ·rw [if_neg (by omega), if_pos h2, if_pos (by omega), List.getD_eq_getElem?_getD, List.getD_eq_getElem?_getD, List.getElem?_append_left (by omega)]
  ·by_cases h3 : o + a.length ≤ j ∧ j < o + a.length + b.length
   ·rw [if_pos h3, if_pos (by omega), List.getD_eq_getElem?_getD, List.getD_eq_getElem?_getD, List.getElem?_append_right (by omega), show j - o - a.length = j - (o + a.length) by omega]
   ·rw [if_neg h3, if_neg h2, if_neg (by omega)]
theorem splice_two' {l a b : List Ce} {o : Nat} (h : o + a.length + b.length ≤ l.length) : splice (splice l (o + a.length) b) o a = splice l o (a ++ b) := by
 have h1 : (splice l (o + a.length) b).length = l.length := splice_len (by omega)
 refine ext_getD ?_ fun j hj => ?_
 ·rw [splice_len (by omega), h1, splice_len (by rw [List.length_append]; omega)]
 ·rw [splice_getD _ _ _ _ (by omega), splice_getD _ _ _ _ (by omega), splice_getD _ _ _ _ (by rw [List.length_append]; omega), List.length_append]
  by_cases h2 : o ≤ j ∧ j < o + a.length
  ·rw [if_pos h2, if_pos (by omega), List.getD_eq_getElem?_getD, List.getD_eq_getElem?_getD, List.getElem?_append_left (by omega)]
  ·by_cases h3 : o + a.length ≤ j ∧ j < o + a.length + b.length
   ·rw [if_neg h2, if_pos h3, if_pos (by omega), List.getD_eq_getElem?_getD, List.getD_eq_getElem?_getD, List.getElem?_append_right (by omega), show j - o - a.length = j - (o + a.length) by omega]
   ·rw [if_neg h2, if_neg h3, if_neg (by omega)]
theorem moveL_up (p : List Ce) (N : Int) (h : 0 ≤ clampI N (-(p.length : Int)) p.length) : moveL p N = p.drop (clampI N (-(p.length : Int)) p.length).toNat ++ List.replicate (clampI N (-(p.length : Int)) p.length).toNat blC := by
 unfold moveL
 unfold clampI at *
 by_cases hN : 0 ≤ N
 ·rw [if_pos hN]
  by_cases hle : N ≤ p.length
  ·rw [show min (max N (-(p.length : Int))) p.length = N by omega, Nat.min_eq_left (by omega)]
  ·rw [show min (max N (-(p.length : Int))) p.length = p.length by omega, Int.toNat_natCast, Nat.min_eq_right (by omega), List.drop_of_length_le (by omega), List.drop_of_length_le (Nat.le_refl _)]
 ·have h0 : p.length = 0 := by omega
  rw [if_neg hN, h0]
  have : p = [] := List.eq_nil_of_length_eq_zero h0
  subst this
  rw [Nat.min_zero, show (min (max N (-((0 : Nat) : Int))) ((0 : Nat) : Int)).toNat = 0 by omega, List.drop_nil, List.take_nil, List.append_nil, List.nil_append]
theorem moveL_dn (p : List Ce) (N : Int) (h : ¬ 0 ≤ clampI N (-(p.length : Int)) p.length) : moveL p N = List.replicate (-(clampI N (-(p.length : Int)) p.length)).toNat blC ++ p.take (p.length - (-(clampI N (-(p.length : Int)) p.length)).toNat) := by
 unfold moveL
 unfold clampI at *
 rw [if_neg (by omega)]
 by_cases hle : -(p.length : Int) ≤ N
 ·rw [show min (max N (-(p.length : Int))) p.length = N by omega, Nat.min_eq_left (by omega)]
 ·rw [show min (max N (-(p.length : Int))) p.length = -(p.length : Int) by omega, Nat.min_eq_right (by omega), show (-(-(p.length : Int))).toNat = p.length by omega, show p.length - (-N).toNat = 0 by omega, Nat.sub_self]
set_option maxHeartbeats 1000000 in
theorem move_W (l : List Ce) (tl : List Value) (bc off o k cap : Nat) (N : Int) (w : World) {Z : Nat → Prop} (hm : Has w [⟨bc, ceR l ++ tl, tC⟩]) (hZ : ∀ j, w.heap.size ≤ j → Z j) (hZ0 : ∀ j ∈ blks [⟨bc, ceR l ++ tl, tC⟩], Z j)
  (hp : Plc l off o k) (hk : k ≤ cap) (hl : 0 < l.length) (hle : l.length ≤ maxLen) : Wm tb 87 [.slice (some ⟨bc, off, none⟩) k cap, .int .i64 N] w Z [⟨bc, ceR l ++ tl, tC⟩] (ClR bc (splice l o (moveL ((l.drop o).take k) N)) tl) := by
 have hmx : maxLen ≤ 9223372036854775807 := by decide
 have hin := hp.in_
 have hsl : ((l.drop o).take k).length = k := by rw [List.length_take, List.length_drop]; omega
 have hup := moveL_up ((l.drop o).take k) N
 have hdn := moveL_dn ((l.drop o).take k) N
 rw [hsl] at hup hdn
 have hcr := clampI_in N (lo := -(k : Int)) (hi := k) (by omega)
 refine wm_of (fn := Try.f87) Try.func87 rfl Try.ntmps87 rfl hm hZ hZ0 (clR_mono _ _ _) (fun on => ?_)
 have hlive := ce_live (tl := tl) hl
 have hlen : (ceR l ++ tl).length = l.length * 2 + tl.length := by rw [List.length_append, ceR_len]
 have hsA : ∀ off' o' k' cap', Plc l off' o' k' → k' ≤ cap' → ∀ w', Has w' [⟨bc, ceR l ++ tl, tC⟩] → Keep w w' (blks [⟨bc, ceR l ++ tl, tC⟩]) → SlC (fun p x => w'.cell? p = some x) 2 (.slice (some ⟨bc, off', none⟩) k' cap') k' (ceR ((l.drop o').take k')) := fun off' o' k' cap' h1 h2 w' hh kp => plc_slc (j := 0) hh rfl h1 h2
 have hbl := fun (l' : List Ce) (h : l'.length = l.length) (off' o' k' cap' : Nat) (h1 : Plc l' off' o' k') (w' : World) (Z' : Nat → Prop) (h2 : Has w' [⟨bc, ceR l' ++ tl, tC⟩]) (h3 : ∀ j, w'.heap.size ≤ j → Z' j) (h4 : ∀ j ∈ blks [⟨bc, ceR l' ++ tl, tC⟩], Z' j) => blank_W l' tl bc off' o' k' cap' w' h2 h3 h4 h1 (by omega) (by omega)
 generalize hm0 : [(⟨bc, ceR l ++ tl, tC⟩ : Ent)] = m0 at on ⊢
 repeat refine s_seqs ?_
 refine s_reg ?_
 refine qm rfl rfl ?_
 refine qm rfl rfl ?_
 refine step_pure rfl (pure_len_slice rfl rfl rfl) ?_
 refine step_as rfl (pure_neg rfl) (show _ = Value.int .i64 (-(k : Int)) from congrArg (Value.int .i64) (by rw [wrap_i64 (by omega) (by omega)]; omega)) ?_
 refine qm rfl rfl ?_
 refine step_pure rfl (pure_len_slice rfl rfl rfl) ?_
 refine step_gives rfl fun30 rfl (fun w _ _ => clamp_any _ _ _ w) ?_
 refine qa rfl rfl ?_
 refine Vc.step_end (fun a w ok => ?_)
 first | (refine WPs.run ?_ a w ok; clear ok w a) | skip
 generalize clampI N (-(k : Int)) k = c at *
 repeat refine s_seqs ?_
 refine s_reg ?_
 refine qm rfl rfl ?_
 refine step_pure rfl (pure_geq rfl rfl) ?_
 refine Vc.step_end (fun a w ok => ?_)
 first | (refine WPs.run ?_ a w ok; clear ok w a) | skip
 repeat refine s_seqs ?_
 refine s_cond rfl (fun h => ?_) (fun h => ?_)
 ·have hc0 : 0 ≤ c := of_decide_eq_true h
  clear h hdn
  rw [hup hc0]
  clear hup
  obtain ⟨d, rfl⟩ : ∃ d : Nat, c = d := ⟨c.toNat, by omega⟩
  have hdk : d ≤ k := by omega
  rw [Int.toNat_natCast]
  obtain ⟨off1, he1, ha1, hb1⟩ := subS_at bc off cap d k hk
  have hp1 := plc_sub hp hdk (Nat.le_refl _) ha1 hb1
  have hs1 := hsA off1 (o + d) (k - d) (cap - d) hp1 (by omega)
  have hnl1 : (((l.drop o).take k).drop d).length = k - d := by rw [List.length_drop, hsl]
  rw [show ((l.drop (o + d)).take (k - d)) = ((l.drop o).take k).drop d by rw [List.drop_take, List.drop_drop]] at hs1
  have hw1 := plc_wr (tl := tl) (hp.less (show k - d ≤ k by omega)) hnl1
  have hl1 : (splice l o (((l.drop o).take k).drop d)).length = l.length := splice_len (by rw [hnl1]; omega)
  obtain ⟨off2, he2, ha2, hb2⟩ := subS_at bc off cap (k - d) k hk
  have hp2 := (plc_sub hp (show k - d ≤ k by omega) (Nat.le_refl _) ha2 hb2).of_len hl1
  have hb3 := hbl _ hl1 off2 (o + (k - d)) (k - (k - d)) (cap - (k - d)) hp2
  have hfin := splice_two (l := l) (a := ((l.drop o).take k).drop d) (b := List.replicate d blC) (o := o) (by rw [hnl1, List.length_replicate]; omega)
  rw [hnl1] at hfin
  rw [show k - (k - d) = d by omega] at hb3 he2
  rw [hfin] at hb3
  clear hbl hfin
  have hce := ceR_one (((l.drop o).take k).drop d)
  have hcl : (ceR (((l.drop o).take k).drop d)).length = (k - d) * 2 := by rw [ceR_len, hnl1]
  generalize ceR (((l.drop o).take k).drop d) = nw at *
  generalize splice l o (((l.drop o).take k).drop d ++ List.replicate d blC) = lf at *
  generalize splice l o (((l.drop o).take k).drop d) = l1 at *
  generalize ceR l ++ tl = cs0 at *
  subst hm0
  have hof := hp.le
  repeat refine s_seqs ?_
  refine s_reg ?_
  refine qm rfl rfl ?_
  refine qm rfl rfl ?_
  refine qm rfl rfl ?_
  refine step_as rfl (pure_sub_lo rfl rfl rfl rfl rfl (by omega) (by omega)) (show _ = Value.slice (some ⟨bc, off1, none⟩) (k - d) (cap - d) from he1) ?_
  refine step_eff rfl rfl (eff_copy (i := 0) (q := k - d) (news := nw) rfl rfl rfl rfl rfl rfl rfl rfl (by show Nat.min (k - d) k = _; exact Nat.min_eq_left (by omega)) hcl (src_slc hs1) hce (by show off + nw.length ≤ cs0.length; omega) hlive) ?_
  rintro v m' ⟨rfl, rfl⟩
  rw [show setAt [(⟨bc, cs0, tC⟩ : Ent)] 0 (splice cs0 off nw) = [⟨bc, ceR l1 ++ tl, tC⟩] from by rw [← hw1]; rfl]
  refine Vc.step_end (fun a w ok => ?_)
  first | (refine WPs.run ?_ a w ok; clear ok w a) | skip
  repeat refine s_seqs ?_
  refine s_reg ?_
  refine qm rfl rfl ?_
  refine qm rfl rfl ?_
  refine step_pure rfl (pure_len_slice rfl rfl rfl) ?_
  refine qm rfl rfl ?_
  first | refine step_pure rfl (pure_sub64 rfl rfl (by omega) (by omega)) ?_ | refine step_pure rfl (pure_sub rfl rfl) ?_
  refine step_as rfl (pure_sub_lo rfl rfl rfl rfl rfl (by omega) (by omega)) (show subS (some ⟨bc, off, none⟩) cap 2 ((k : Int) - (d : Int)).toNat k = Value.slice (some ⟨bc, off2, none⟩) d (cap - (k - d)) from by rw [show ((k : Int) - (d : Int)).toNat = k - d by omega]; exact he2) ?_
  refine step_wm [⟨bc, _, tC⟩] [] on.sc rfl fun85 rfl (List.Perm.refl _) (fun w' Z' hh kp h0 hZ hZ0 hC => hb3 w' Z' h0 hZ hZ0) ?_
  rintro u m1 E3 g ⟨rfl, rfl⟩
  replace on := on.next g
  refine Vc.step_end (fun a w ok => ?_)
  first | (refine WPs.run ?_ a w ok; clear ok w a) | skip
  exact s_ret fun a w ok => ends_wm on (.inr rfl) ok (res_none rfl) (m1 := [_]) (mr := []) (List.Perm.refl _) (clR_mono _ _ _) ⟨rfl, rfl⟩
 ·have hc0 : ¬ 0 ≤ c := of_decide_eq_false h
  clear h hup
  rw [hdn hc0]
  clear hdn
  obtain ⟨d, rfl⟩ : ∃ d : Nat, c = -(d : Int) := ⟨(-c).toNat, by omega⟩
  have hdk : d ≤ k := by omega
  have hd0 : 0 < d := by omega
  rw [show (-(-(d : Int))).toNat = d by omega]
  obtain ⟨off1, he1, ha1, hb1⟩ := subS_at bc off cap d k hk
  have hp1 := plc_sub hp hdk (Nat.le_refl _) ha1 hb1
  have hs1 := hsA off o k cap hp hk
  have hnl1 : (((l.drop o).take k).take (k - d)).length = k - d := by rw [List.length_take, hsl]; omega
  have hw1 := plc_wr (tl := tl) hp1 hnl1
  have hl1 : (splice l (o + d) (((l.drop o).take k).take (k - d))).length = l.length := splice_len (by rw [hnl1]; omega)
  obtain ⟨off2, he2, ha2, hb2⟩ := subS_at bc off cap 0 d (by omega)
  have hp2 := (plc_sub hp (Nat.zero_le d) hdk ha2 hb2).of_len hl1
  have hb3 := hbl _ hl1 off2 (o + 0) (d - 0) (cap - 0) hp2
  have hfin := splice_two' (l := l) (a := List.replicate d blC) (b := ((l.drop o).take k).take (k - d)) (o := o) (by rw [hnl1, List.length_replicate]; omega)
  rw [List.length_replicate] at hfin
  rw [Nat.sub_zero, Nat.add_zero] at hb3
  rw [Nat.sub_zero] at hb3 he2
  rw [Nat.sub_zero] at he2
  rw [hfin] at hb3
  clear hbl hfin
  have hce := ceR_one (((l.drop o).take k).take (k - d))
  have hcl : (ceR (((l.drop o).take k).take (k - d))).length = (k - d) * 2 := by rw [ceR_len, hnl1]
  have hsp := src_part (B := tb) (show k - d ≤ k by omega) (E := ⟨w, blks m0, []⟩) (m := m0) (fun w' hh kp => hs1 w' (by rw [hm0]; exact hh) (by rw [hm0]; exact kp))
  rw [ceR_take] at hsp
  generalize ceR (((l.drop o).take k).take (k - d)) = nw at *
  generalize splice l o (List.replicate d blC ++ ((l.drop o).take k).take (k - d)) = lf at *
  generalize splice l (o + d) (((l.drop o).take k).take (k - d)) = l1 at *
  generalize ceR l ++ tl = cs0 at *
  subst hm0
  have hof := hp.le
  have hng : IntKind.i64.wrap (0 - -(d : Int)) = d := by rw [wrap_i64 (by omega) (by omega)]; omega
  refine s_skip fun a w ok => WPs.run ?_ a w ok
  clear ok w a
  repeat refine s_seqs ?_
  refine s_reg ?_
  refine qm rfl rfl ?_
  refine qm rfl rfl ?_
  refine step_as rfl (pure_neg rfl) (show _ = Value.int .i64 (d : Int) from congrArg (Value.int .i64) hng) ?_
  refine step_as rfl (pure_sub_lo rfl rfl rfl rfl rfl (by omega) (by omega)) (show _ = Value.slice (some ⟨bc, off1, none⟩) (k - d) (cap - d) from he1) ?_
  refine qm rfl rfl ?_
  refine step_eff rfl rfl (eff_copy (i := 0) (q := k - d) (news := nw) rfl rfl rfl rfl rfl rfl rfl rfl (by show Nat.min k (k - d) = _; exact Nat.min_eq_right (by omega)) hcl hsp hce (by show off1 + nw.length ≤ cs0.length; omega) hlive) ?_
  rintro v m' ⟨rfl, rfl⟩
  rw [show setAt [(⟨bc, cs0, tC⟩ : Ent)] 0 (splice cs0 off1 nw) = [⟨bc, ceR l1 ++ tl, tC⟩] from by rw [← hw1]; rfl]
  refine Vc.step_end (fun a w ok => ?_)
  first | (refine WPs.run ?_ a w ok; clear ok w a) | skip
  repeat refine s_seqs ?_
  refine s_reg ?_
  refine qm rfl rfl ?_
  refine qm rfl rfl ?_
  refine step_as rfl (pure_neg rfl) (show _ = Value.int .i64 (d : Int) from congrArg (Value.int .i64) hng) ?_
  refine step_as rfl (pure_sub_hi rfl rfl rfl rfl rfl (by omega) (by omega)) (show subS (some ⟨bc, off, none⟩) cap 2 0 d = Value.slice (some ⟨bc, off2, none⟩) d cap from he2) ?_
  refine step_wm [⟨bc, _, tC⟩] [] on.sc rfl fun85 rfl (List.Perm.refl _) (fun w' Z' hh kp h0 hZ hZ0 hC => hb3 w' Z' h0 hZ hZ0) ?_
  rintro u m1 E3 g ⟨rfl, rfl⟩
  replace on := on.next g
  refine Vc.step_end (fun a w ok => ?_)
  exact ends_wm on (.inl rfl) ok (res_none rfl) (m1 := [_]) (mr := []) (List.Perm.refl _) (clR_mono _ _ _) ⟨rfl, rfl⟩
end Go.Proofs.Ytadginombcjbeaa
