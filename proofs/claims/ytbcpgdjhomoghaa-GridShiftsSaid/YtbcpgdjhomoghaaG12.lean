/- Cells of another size: walked. -/
import Derived.Test.YtbcpgdjhomoghaaG11
import Derived.Test.YtbcpgdjhomoghaaG1
namespace Go.Proofs.Ytbcpgdjhomoghaa
open Go.RowKit Go.Vc
set_option linter.unusedVariables false
def szL (l : List Ce) (was w n y : Nat) : List Ce := (List.range n).map fun i => if i % w < was ∧ i / w < y then l.getD (i / w * was + i % w) blC else blC
theorem szL_len (l : List Ce) (was w n y : Nat) : (szL l was w n y).length = n := by unfold szL; rw [List.length_map, List.length_range]
theorem szL_get (l : List Ce) (was w n y i : Nat) (h : i < n) : (szL l was w n y).getD i blC = if i % w < was ∧ i / w < y then l.getD (i / w * was + i % w) blC else blC := by
 unfold szL
 rw [List.getD_eq_getElem?_getD, List.getElem?_map, List.getElem?_range h]
 rfl
theorem szL_zero (l : List Ce) (was w n : Nat) : szL l was w n 0 = List.replicate n blC := by
 refine ext_getD (by rw [szL_len, List.length_replicate]) fun i hi => ?_
 rw [szL_len] at hi
 rw [szL_get _ _ _ _ _ _ hi, if_neg (by rintro ⟨_, h⟩; exact Nat.not_lt_zero _ h), getD_replicate]
theorem szL_end (l : List Ce) (was had w h : Nat) : szL l was w (w * h) (min had h) = sizedL l was had w h := by
 refine ext_getD (by rw [szL_len, sizedL_len]) fun i hi => ?_
 rw [szL_len] at hi
 rw [szL_get _ _ _ _ _ _ hi, sizedL_get _ _ _ _ _ _ hi]
 have hw : 0 < w := by
  rcases Nat.eq_zero_or_pos w with h0 | h0
  ·subst h0; omega
  ·exact h0
 have h1 : i / w < h := by rw [Nat.div_lt_iff_lt_mul hw, Nat.mul_comm]; exact hi
 by_cases h2 : i % w < was ∧ i / w < had
 ·rw [if_pos h2, if_pos ⟨h2.1, by omega⟩]
 ·rw [if_neg h2, if_neg (by omega)]
theorem szL_next {l : List Ce} {was had w h y q : Nat} (hl : l.length = was * had) (hy : y < had) (hyh : y < h) (hw : 0 < w) (hq : q = Nat.min was w) :
  splice (szL l was w (w * h) y) (y * w) ((l.drop (y * was)).take q) = szL l was w (w * h) (y + 1) := by
 have hq1 : q ≤ was := by rw [hq]; exact Nat.min_le_left ..
 have hq2 : q ≤ w := by rw [hq]; exact Nat.min_le_right ..
 have h1 : (y + 1) * was ≤ was * had := by rw [Nat.mul_comm was had]; exact Nat.mul_le_mul_right _ hy
 have h2 : (y + 1) * w ≤ w * h := by rw [Nat.mul_comm w h]; exact Nat.mul_le_mul_right _ hyh
 rw [Nat.add_mul, Nat.one_mul] at h1 h2
 have hsl : ((l.drop (y * was)).take q).length = q := by rw [List.length_take, List.length_drop]; omega
 refine ext_getD (by rw [splice_len (by rw [hsl, szL_len]; omega), szL_len, szL_len]) fun i hi => ?_
 rw [splice_len (by rw [hsl, szL_len]; omega), szL_len] at hi
 rw [splice_getD _ _ _ _ (by rw [hsl, szL_len]; omega), hsl, szL_get _ _ _ _ _ _ hi, szL_get _ _ _ _ _ _ hi]
 have hmod := Nat.mod_lt i hw
 have hdiv := Nat.div_add_mod i w
 by_cases h3 : y * w ≤ i ∧ i < y * w + q
 ·rw [if_pos h3, sub_get _ _ _ _ (by omega)]
  have hd : i / w = y := by
   refine (Nat.div_eq_iff hw).2 ⟨h3.1, ?_⟩
   omega
  rw [hd, Nat.mul_comm w y] at hdiv
  rw [hd, if_pos ⟨by omega, by omega⟩]
  congr 1
  omega
 ·rw [if_neg h3]
  by_cases h4 : i % w < was ∧ i / w < y
  ·rw [if_pos h4, if_pos ⟨h4.1, by omega⟩]
  ·rw [if_neg h4]
   by_cases h5 : i % w < was ∧ i / w < y + 1
   ·have hd : i / w = y := by omega
    rw [hd, Nat.mul_comm w y] at hdiv
    have hqm : i % w < q := by rw [hq]; exact Nat.lt_min.2 ⟨h5.1, hmod⟩
    omega
   ·rw [if_neg h5]
def OwR (l : List Ce) (u : Value) (m1 : Mem) (C : Addr → Value → Prop) : Prop := ∃ b, u = .slice (some ⟨b, 0, none⟩) l.length l.length ∧ m1 = [⟨b, ceR l, tC⟩]
theorem owR_mono {l : List Ce} : ∀ v m1 (C C' : Addr → Value → Prop), (∀ p x, C p x → C' p x) → OwR l v m1 C → OwR l v m1 C' := fun _ _ _ _ _ h => h
set_option maxHeartbeats 2000000 in
theorem sized_W (l : List Ce) (v : Value) (was had W H : Nat) (w : World) {Z : Nat → Prop} (hZ : ∀ j, w.heap.size ≤ j → Z j) (hv : SlC (At w) 2 v (was * had) (ceR l)) (hl : l.length = was * had)
  (h1 : 1 ≤ was ∧ was ≤ 64) (h2 : 1 ≤ had ∧ had ≤ 64) (h3 : 1 ≤ W ∧ W ≤ 64) (h4 : 1 ≤ H ∧ H ≤ 64) :
  Wm tb 35 [v, .int .i64 was, .int .i64 had, .int .i64 W, .int .i64 H] w Z [] (OwR (sizedL l was had W H)) := by
 obtain ⟨base, cap, rfl, hcap⟩ := slc_sl hv
 have hb1 : was * had ≤ 64 * 64 := Nat.mul_le_mul h1.2 h2.2
 have hb2 : W * H ≤ 64 * 64 := Nat.mul_le_mul h3.2 h4.2
 have hb3 : 1 * 1 ≤ W * H := Nat.mul_le_mul h3.1 h4.1
 have hwh : IntKind.i64.wrap ((W : Int) * (H : Int)) = ((W * H : Nat) : Int) := by rw [mulN]; exact wrap_i64 (by omega) (by omega)
 have hC0 : ∀ p x, At w p x → Cz (fun _ => True) ⟨w, [], []⟩ p x := fun p x h => ⟨⟨h, by simp⟩, trivial⟩
 replace hv := hv.mono hC0
 clear hC0
 refine wm_of (fn := Try.f35) Try.func35 rfl Try.ntmps35 rfl trivial hZ (by intro b hb; cases hb) owR_mono (fun on => ?_)
 repeat refine s_seqs ?_
 refine s_reg ?_
 refine qa rfl rfl ?_
 refine Vc.step_end (fun a w ok => ?_)
 first | (refine WPs.run ?_ a w ok; clear ok w a) | skip
 repeat refine s_seqs ?_
 refine s_reg ?_
 refine step_gives rfl fun27 rfl (fun w _ _ => empty_any w) ?_
 refine step_buildSlice rfl rfl rfl rfl elem33 (by decide) (by decide) (fill_ce blC) (fun b14 => ?_)
 refine l_let 0 rfl (fun E2 g hc => ?_)
 have hv2 := slis_cz (sl_built uC tC b14 (ceR [blC]) 1 rfl) (hc _ on.sc)
 replace on := on.next g
 replace hv := hv.mono g.cz
 clear g hc
 refine qm rfl rfl ?_
 refine qm rfl rfl ?_
 refine step_as rfl (pure_mul rfl rfl) (congrArg (Value.int .i64) hwh) ?_
 refine step_wm [] _ on.sc rfl fun26 rfl (List.Perm.refl _) (fun w' Z' hh kp h0 hZ hZ0 hC => repeat_W (W * H) _ w' hZ (hv2.mono (Cz.now kp)) (by omega) (by omega)) ?_
 rintro u m1 E3 g ⟨b18, rfl, rfl⟩
 replace on := on.next g
 replace hv := hv.mono g.cz
 clear g hv2
 refine qa rfl rfl ?_
 refine Vc.step_end (fun a w ok => ?_)
 first | (refine WPs.run ?_ a w ok; clear ok w a) | skip
 repeat refine s_seqs ?_
 refine s_reg ?_
 refine qm rfl rfl ?_
 refine qm rfl rfl ?_
 refine step_as rfl (pure_min rfl rfl) (show _ = Value.int .i64 ((min had H : Nat) : Int) from congrArg (Value.int .i64) (by omega)) ?_
 refine qm rfl rfl ?_
 refine Vc.step_end (fun a w ok => ?_)
 first | (refine WPs.run ?_ a w ok; clear ok w a) | skip
 repeat refine s_seqs ?_
 refine s_block ?_
 repeat refine s_seqs ?_
 refine s_loopP (α := Nat) (fun y => [(0, .slice base (was * had) cap), (1, .int .i64 was), (3, .int .i64 W), (11, .slice (some ⟨b18, 0, none⟩) (W * H) (W * H)), (21, .int .i64 ((min had H : Nat) : Int)), (22, .int .i64 y)])
  (fun y => [⟨b18, ceR (szL l was W (W * H) y), tC⟩]) (fun y E => y ≤ min had H) (fun y => min had H - y) 0 (Nat.zero_le _) (by rw [szL_zero]; exact less_of ⟨rfl, rfl, rfl, rfl, rfl, rfl, trivial⟩ rfl) ?_
 intro y E1 hy g
 replace on := on.next g
 replace hv := hv.mono g.cz
 clear g
 repeat refine s_seqs ?_
 refine s_reg ?_
 refine step_pure rfl (pure_lss rfl rfl) ?_
 refine Vc.step_end (fun a w ok => ?_)
 first | (refine WPs.run ?_ a w ok; clear ok w a) | skip
 repeat refine s_seqs ?_
 refine s_cond rfl (fun h => ?_) (fun h => ?_)
 ·have hlt : y < min had H := by have := of_decide_eq_true h; omega
  clear h
  refine s_skip fun a w ok => WPs.run ?_ a w ok
  clear ok w a
  obtain ⟨q, hq⟩ : ∃ q, q = Nat.min was W := ⟨_, rfl⟩
  have hq1 : q ≤ was := by rw [hq]; exact Nat.min_le_left ..
  have hq2 : q ≤ W := by rw [hq]; exact Nat.min_le_right ..
  have hnx := szL_next (l := l) (was := was) (had := had) (w := W) (h := H) (y := y) (q := q) hl (by omega) (by omega) (by omega) hq
  have e1 : (y + 1) * was ≤ was * had := by rw [Nat.mul_comm was had]; exact Nat.mul_le_mul_right _ (by omega)
  have e2 : (y + 1) * W ≤ W * H := by rw [Nat.mul_comm W H]; exact Nat.mul_le_mul_right _ (by omega)
  have d1 : (y + 1) * was - y * was = was := by rw [Nat.add_mul, Nat.one_mul]; omega
  have d2 : (y + 1) * W - y * W = W := by rw [Nat.add_mul, Nat.one_mul]; omega
  have c1 : y * was ≤ (y + 1) * was := Nat.mul_le_mul_right _ (by omega)
  have c2 : y * W ≤ (y + 1) * W := Nat.mul_le_mul_right _ (by omega)
  obtain ⟨off, he, ho1, ho2⟩ := subS_at b18 0 ((y + 1) * W) (y * W) ((y + 1) * W) (Nat.le_refl _)
  have hll := szL_len l was W (W * H) y
  have hp := plc_sub (l := szL l was W (W * H) y) (off := 0) (o := 0) (k := W * H) (off' := off) ⟨fun _ => rfl, Nat.le_refl _, by omega⟩ (lo := y * W) (hi := (y + 1) * W) c2 e2 ho1 ho2
  rw [d2, Nat.zero_add] at hp
  rw [d2] at he
  have hsl : ((l.drop (y * was)).take q).length = q := by rw [List.length_take, List.length_drop]; omega
  have hsp := plc_wr (x := (l.drop (y * was)).take q) (tl := []) (hp.less hq2) hsl
  rw [hnx, List.append_nil, List.append_nil] at hsp
  have hs2 := slc_sub hv c1 (by omega)
  rw [d1, ceR_drop, ceR_take] at hs2
  have hsrc := src_part (B := tb) (m := [⟨b18, ceR (szL l was W (W * H) y), tC⟩]) hq1 (fun w' _ kp => hs2.mono (Cz.now kp))
  rw [ceR_take, List.take_take, Nat.min_eq_left hq1] at hsrc
  have hcl : (ceR (szL l was W (W * H) y)).length = W * H * 2 := by rw [ceR_len, hll]
  have hol := ceR_one ((l.drop (y * was)).take q)
  have hrl : (ceR ((l.drop (y * was)).take q)).length = q * 2 := by rw [ceR_len, hsl]
  have hpi := hp.in_
  have hpl := hp.le
  have k1 : IntKind.i64.wrap ((y : Int) * (W : Int)) = ((y * W : Nat) : Int) := by rw [mulN]; exact wrap_i64 (by omega) (by omega)
  have k2 : IntKind.i64.wrap (((y : Int) + 1) * (W : Int)) = (((y + 1) * W : Nat) : Int) := by rw [show ((y : Int) + 1) = ((y + 1 : Nat) : Int) by omega, mulN]; exact wrap_i64 (by omega) (by omega)
  have k3 : IntKind.i64.wrap ((y : Int) * (was : Int)) = ((y * was : Nat) : Int) := by rw [mulN]; exact wrap_i64 (by omega) (by omega)
  have k4 : IntKind.i64.wrap (((y : Int) + 1) * (was : Int)) = (((y + 1) * was : Nat) : Int) := by rw [show ((y : Int) + 1) = ((y + 1 : Nat) : Int) by omega, mulN]; exact wrap_i64 (by omega) (by omega)
  generalize ceR ((l.drop (y * was)).take q) = nw at *
  generalize y * W = yW at *
  generalize (y + 1) * W = yW1 at *
  generalize y * was = yw at *
  generalize (y + 1) * was = yw1 at *
  repeat refine s_seqs ?_
  refine s_block ?_
  repeat refine s_seqs ?_
  refine s_reg ?_
  refine qm rfl rfl ?_
  refine qa rfl rfl ?_
  refine Vc.step_end (fun a w ok => ?_)
  first | (refine WPs.run ?_ a w ok; clear ok w a) | skip
  repeat refine s_seqs ?_
  refine s_dreg [1, 9, 17, 25, 33, 41, 49, 57, 65, 73, 81, 89, 97, 105, 113, 121, 129, 137, 145, 153, 161, 169, 180] [] follows (by kernel_rfl) ?_
  refine qd rfl rfl rfl rfl ?_
  refine qd rfl rfl rfl rfl ?_
  refine qd rfl rfl rfl rfl ?_
  refine d_as0 rfl rfl rfl (pure_mul rfl rfl) (congrArg (Value.int .i64) k1) ?_
  refine qd rfl rfl rfl rfl ?_
  first | refine d_pure0 rfl rfl rfl (pure_add64 rfl rfl (by omega) (by omega)) ?_ | refine d_pure0 rfl rfl rfl (pure_add rfl rfl) ?_
  refine qd rfl rfl rfl rfl ?_
  refine d_as0 rfl rfl rfl (pure_mul rfl rfl) (congrArg (Value.int .i64) k2) ?_
  refine qd rfl rfl rfl rfl ?_
  first | refine d_pure0 rfl rfl rfl (pure_add64 rfl rfl (by omega) (by omega)) ?_ | refine d_pure0 rfl rfl rfl (pure_add rfl rfl) ?_
  refine qd rfl rfl rfl rfl ?_
  refine d_as0 rfl rfl rfl (pure_mul rfl rfl) (congrArg (Value.int .i64) k2) ?_
  refine d_as0 rfl rfl rfl (pure_sub3 rfl rfl rfl rfl rfl rfl rfl (by omega) (by omega) (by omega) (by omega)) (show _ = Value.slice (some ⟨b18, off, none⟩) W W from by rw [Int.toNat_natCast, Int.toNat_natCast]; exact he) ?_
  refine qd rfl rfl rfl rfl ?_
  refine qd rfl rfl rfl rfl ?_
  refine qd rfl rfl rfl rfl ?_
  refine d_as0 rfl rfl rfl (pure_mul rfl rfl) (congrArg (Value.int .i64) k3) ?_
  refine qd rfl rfl rfl rfl ?_
  first | refine d_pure0 rfl rfl rfl (pure_add64 rfl rfl (by omega) (by omega)) ?_ | refine d_pure0 rfl rfl rfl (pure_add rfl rfl) ?_
  refine qd rfl rfl rfl rfl ?_
  refine d_as0 rfl rfl rfl (pure_mul rfl rfl) (congrArg (Value.int .i64) k4) ?_
  refine d_as0 rfl rfl rfl (pure_sub_both rfl rfl rfl rfl rfl rfl (by omega) (by omega) (by omega)) (show _ = subS base cap 2 yw yw1 from by rw [Int.toNat_natCast, Int.toNat_natCast]) ?_
  refine d_only rfl rfl rfl rfl (eff_copy (i := 0) (q := q) (k := was) (news := nw) rfl rfl rfl rfl rfl rfl rfl (show some (yw1 - yw) = some was from congrArg some d1) hq.symm hrl hsrc hol (by show off + nw.length ≤ (ceR (szL l was W (W * H) y)).length; omega) (by intro h0; have := congrArg List.length h0; rw [hcl] at this; simp only [List.length_nil] at this; omega)) ?_ rfl
  rintro v m' ⟨rfl, rfl⟩
  refine ⟨fun h => (by cases h), ?_⟩
  refine d_end (fun a w ok => ?_)
  first | (refine WPs.run ?_ a w ok; clear ok w a) | skip
  repeat refine s_seqs ?_
  refine s_reg ?_
  first | refine step_pure rfl (pure_add64 rfl rfl (by omega) (by omega)) ?_ | refine step_pure rfl (pure_add rfl rfl) ?_
  refine qm rfl rfl ?_
  refine Vc.step_end (fun a w ok => ?_)
  refine ⟨y + 1, _, by omega, by omega, Gt.refl _, Less.ok ?_ ok⟩
  exact less_of ⟨rfl, rfl, rfl, rfl, rfl, rfl, trivial⟩ (by rw [hsp]; rfl)
 ·have hie : y = min had H := by have := of_decide_eq_false h; omega
  rw [hie, szL_end]
  refine s_exit fun a w ok => WPs.run ?_ a w ok
  clear ok w a
  have hfl := sizedL_len l was had W H
  repeat refine s_seqs ?_
  refine s_reg ?_
  refine qm rfl rfl ?_
  refine qa rfl rfl ?_
  refine Vc.step_end (fun a w ok => ?_)
  first | (refine WPs.run ?_ a w ok; clear ok w a) | skip
  exact s_ret fun a w ok => ends_wm on (.inr rfl) ok (res_tmp Try.results35 rfl) (m1 := [_]) (mr := []) (List.Perm.refl _) owR_mono ⟨b18, by rw [hfl], rfl⟩
end Go.Proofs.Ytbcpgdjhomoghaa
