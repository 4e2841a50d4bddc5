/- The document's Sum of a text: walked. -/
import Derived.Test.YthieegnhjoehbaaS5
namespace Go.Proofs.Ythieegnhjoehbaa
open Go.RowKit Go.Vc
set_option linter.unusedVariables false
theorem rturned_z (x : W) {z : Int} (w : World) (h1 : 1 ≤ z) (h2 : z ≤ 31) : Gives tb 80 [.int .u32 (wd x), .int .u64 z] w (.int .u32 (wd (rotr x z.toNat))) := by
 obtain ⟨k, rfl⟩ : ∃ k : Nat, z = k := ⟨z.toNat, by omega⟩
 rw [Int.toNat_natCast]
 exact rturned_any x k w (by omega) (by omega)
theorem wd_top : wd 4294967295#32 = 4294967295 := by decide
theorem xor_top (x : W) : Value.int .u32 (bits .xor .u32 (wd x) 4294967295) = .int .u32 (wd (x ^^^ 4294967295#32)) := by rw [← wd_xor, wd_top]
theorem subT_getD (T : List Int) (o n j : Nat) (h : j < n) : ((T.drop o).take n).getD j 0 = T.getD (o + j) 0 := by
 rw [List.getD_eq_getElem?_getD, List.getD_eq_getElem?_getD, List.getElem?_take, if_pos h, List.getElem?_drop]
set_option maxHeartbeats 4000000 in
set_option maxRecDepth 100000 in
theorem rshaSum_any (B : List Int) (v : Value) (w : World) (hv : SlC (At w) 1 v B.length (row B)) (hb : Bytes B) (hle : B.length ≤ 900000) : Gives tb 54 [v] w (.agg (row (shaF B)).toArray) := by
 refine gives_ofk (fn := Try.f54) Try.func54 rfl Try.ntmps54 rfl (fun on => ?_)
 have hsF : shaF B = outB (absV firstV ((padT B).length / 64) (padT B)) := rfl
 have hsl := shaF_len B
 rw [hsF] at hsl ⊢
 have hf := fun w => rfirst_any w
 have hpart := fun w => rparts_any w
 have hKl := kW_len
 have hvl : firstV.l.length = 8 := rfl
 have hrn : ∀ V Sc i, rndsW V Sc (i + 1) = rndW (rndsW V Sc i) (kW.getD i 0) (Sc.getD i 0) := fun _ _ _ => rfl
 have hr0 : ∀ V Sc, rndsW V Sc 0 = V := fun _ _ => rfl
 have hmixV : ∀ V b, mixV V b = addV V (rndsW V (sched b 64) 64) := fun _ _ => rfl
 have hasc := fun V k L => absV_succ V k L
 have hab0 : ∀ V L, absV V 0 L = V := fun _ _ => rfl
 generalize firstV = F0 at *
 generalize kW = K at *
 generalize absV = AV at *
 generalize mixV = MX at *
 generalize rndsW = RW at *
 repeat refine s_seqs ?_
 refine s_reg ?_
 refine step_alloc rfl zero30 (fun b2 => ?_)
 refine Vc.step_end (fun a w ok => ?_)
 (refine WPs.run ?_ a w ok; clear ok w a)
 repeat refine s_seqs ?_
 refine s_reg ?_
 refine step_gives rfl fun77 rfl (fun w _ _ => hf w) ?_
 refine step_alloc rfl zero113 (fun b3 => ?_)
 refine step_store_agg 0 rfl rfl rfl (wRow_one _) rfl (by rw [wRow_len]; exact hvl) rfl rfl (Nat.le_of_ble_eq_true rfl) (splice_all (by rw [wRow_len, hvl]; rfl)) ?_
 refine Vc.step_end (fun a w ok => ?_)
 (refine WPs.run ?_ a w ok; clear ok w a)
 repeat refine s_seqs ?_
 refine s_reg ?_
 refine step_gives rfl fun78 rfl (fun w _ _ => hpart w) ?_
 refine step_alloc rfl zero129 (fun b4 => ?_)
 refine step_store_agg 0 rfl rfl rfl (wRow_one _) rfl (by rw [wRow_len]; exact hKl) rfl rfl (Nat.le_of_ble_eq_true rfl) (splice_all (by rw [wRow_len, hKl]; rfl)) ?_
 refine Vc.step_end (fun a w ok => ?_)
 (refine WPs.run ?_ a w ok; clear ok w a)
 repeat refine s_seqs ?_
 refine s_reg ?_
 refine qm rfl rfl ?_
 refine step_givesP on.sc rfl fun79 rfl (fun w' Z' hh kp hZ hC => padded_P B v w' hZ (hv.mono (at_keep kp)) hle) ?_
 rintro u E1 g hT
 replace on := on.next g
 clear g
 refine qa rfl rfl ?_
 refine Vc.step_end (fun a w ok => ?_)
 (refine WPs.run ?_ a w ok; clear ok w a)
 replace hT : SlC (Cz (fun _ => True) E1) 1 u (padT B).length (row (padT B)) := hT
 obtain ⟨hTm, hT64⟩ := padT_mod B
 have hTb := padT_bytes hb
 generalize padT B = T at *
 obtain ⟨tb5, tc5, rfl, htc5⟩ := slc_str hT
 have hT2 : T.length ≤ 1000000 := by omega
 have hT9 : 9 ≤ T.length := by omega
 clear hTm hsF
 obtain ⟨base5, cap5, he5, -, -, hcel⟩ := hT
 cases he5
 obtain ⟨p, rfl, hcl⟩ := hcel (by intro h; have := row_len T; rw [h] at this; have : 0 = T.length := this; omega)
 replace hcel : ∀ j x, (row T)[j]? = some x → Cel E1 (p.add j) x := fun j x h => Cz.cel _ _ (hcl j x h)
 repeat refine s_seqs ?_
 refine s_reg ?_
 refine qa rfl rfl ?_
 refine Vc.step_end (fun a w ok => ?_)
 (refine WPs.run ?_ a w ok; clear ok w a)
 repeat refine s_seqs ?_
 refine s_meet [(2, .pointer (some ⟨b2, 0, none⟩)), (3, .pointer (some ⟨b3, 0, none⟩))] [⟨b3, wRow (AV F0 (T.length / 64) T).l, 113⟩, ⟨b2, row (zeros 32), 30⟩] ?_ (fun a w ok => WPs.run ?_ a w ok)
 ·repeat refine c_seq ?_
  refine c_block ?_
  repeat refine c_seq ?_
  refine c_loop (α := Nat) (fun q => [(2, .pointer (some ⟨b2, 0, none⟩)), (3, .pointer (some ⟨b3, 0, none⟩)), (4, .pointer (some ⟨b4, 0, none⟩)), (5, .slice (some p) T.length tc5), (6, .int .i64 (64 * (q : Int)))])
   (fun q => [⟨b4, wRow K, 129⟩, ⟨b3, wRow (AV F0 q T).l, 113⟩, ⟨b2, row (zeros 32), 30⟩]) (fun q => 64 * q ≤ T.length) (fun q => T.length - 64 * q) 0 (Nat.zero_le _) (less_of ⟨rfl, rfl, rfl, rfl, rfl, trivial⟩ (by rw [hab0]; rfl)) ?_
  intro q hq
  repeat refine c_seq ?_
  refine c_region ?_
  refine qm rfl rfl ?_
  refine qm rfl rfl ?_
  refine step_pure rfl (pure_len_slice rfl rfl rfl) ?_
  refine step_pure rfl (pure_lss rfl rfl) ?_
  refine step_nil ?_
  repeat refine c_seq ?_
  refine c_cond rfl (fun h => ?_) (fun h => ?_)
  ·have hqt : 64 * q + 64 ≤ T.length := by have := of_decide_eq_true h; omega
   clear h
   refine c_skip ?_
   have hsc := hasc F0 q T
   rw [hmixV] at hsc
   obtain ⟨B1, hB1⟩ : ∃ x, x = (T.drop (64 * q)).take 64 := ⟨_, rfl⟩
   have hBg : ∀ j, j < 64 → B1.getD j 0 = T.getD (64 * q + j) 0 := fun j h => by rw [hB1]; exact subT_getD T _ 64 j h
   rw [← hB1] at hsc
   clear hB1
   obtain ⟨V2, hV2⟩ : ∃ x, x = AV F0 (q + 1) T := ⟨_, rfl⟩
   rw [← hV2] at hsc
   generalize AV F0 q T = V at *
   repeat refine c_seq ?_
   refine c_meet [(2, .pointer (some ⟨b2, 0, none⟩)), (3, .pointer (some ⟨b3, 0, none⟩)), (4, .pointer (some ⟨b4, 0, none⟩)), (5, .slice (some p) T.length tc5), (6, .int .i64 (64 * (q : Int)))]
    [⟨b4, wRow K, 129⟩, ⟨b3, wRow V2.l, 113⟩, ⟨b2, row (zeros 32), 30⟩] ?_ ?_
   ·repeat refine c_seq ?_
    refine c_block ?_
    repeat refine c_seq ?_
    refine c_region ?_
    refine step_pure rfl (pure_build_arr rfl zero129 rfl rfl rfl rfl) ?_
    refine step_alloc rfl zero129 (fun b7 => ?_)
    refine step_store_agg 0 rfl rfl rfl (of_one rfl) rfl rfl rfl rfl (Nat.le_of_ble_eq_true rfl) (show _ = wRow (wAt B1 0) from rfl) ?_
    refine step_nil ?_
    repeat refine c_seq ?_
    refine c_region ?_
    refine qa rfl rfl ?_
    refine step_nil ?_
    repeat refine c_seq ?_
    refine c_meet [(2, .pointer (some ⟨b2, 0, none⟩)), (3, .pointer (some ⟨b3, 0, none⟩)), (4, .pointer (some ⟨b4, 0, none⟩)), (5, .slice (some p) T.length tc5), (6, .int .i64 (64 * (q : Int))), (7, .pointer (some ⟨b7, 0, none⟩))]
     [⟨b7, wRow (sched B1 64), 129⟩, ⟨b4, wRow K, 129⟩, ⟨b3, wRow V.l, 113⟩, ⟨b2, row (zeros 32), 30⟩] ?_ ?_
    ·repeat refine c_seq ?_
     refine c_block ?_
     repeat refine c_seq ?_
     refine c_loop (α := Nat) (fun i => [(2, .pointer (some ⟨b2, 0, none⟩)), (3, .pointer (some ⟨b3, 0, none⟩)), (4, .pointer (some ⟨b4, 0, none⟩)), (5, .slice (some p) T.length tc5), (6, .int .i64 (64 * (q : Int))), (7, .pointer (some ⟨b7, 0, none⟩)), (8, .int .i64 i)])
      (fun i => [⟨b7, wRow (wAt B1 i), 129⟩, ⟨b4, wRow K, 129⟩, ⟨b3, wRow V.l, 113⟩, ⟨b2, row (zeros 32), 30⟩]) (fun i => i ≤ 64) (fun i => 64 - i) 0 (by decide) (less_of ⟨rfl, rfl, rfl, rfl, rfl, rfl, rfl, trivial⟩ rfl) ?_
     intro i hi
     repeat refine c_seq ?_
     refine c_region ?_
     refine qm rfl rfl ?_
     refine step_pure rfl (pure_lss rfl rfl) ?_
     refine step_nil ?_
     repeat refine c_seq ?_
     refine c_cond rfl (fun h => ?_) (fun h => ?_)
     ·have hlt : i < 64 := by have := of_decide_eq_true h; omega
      clear h
      refine c_skip ?_
      repeat refine c_seq ?_
      refine c_meet [(2, .pointer (some ⟨b2, 0, none⟩)), (3, .pointer (some ⟨b3, 0, none⟩)), (4, .pointer (some ⟨b4, 0, none⟩)), (5, .slice (some p) T.length tc5), (6, .int .i64 (64 * (q : Int))), (7, .pointer (some ⟨b7, 0, none⟩)), (8, .int .i64 i)]
       [⟨b7, wRow (wAt B1 (i + 1)), 129⟩, ⟨b4, wRow K, 129⟩, ⟨b3, wRow V.l, 113⟩, ⟨b2, row (zeros 32), 30⟩] ?_ ?_
      ·repeat refine c_seq ?_
       refine c_block ?_
       have hset := fun {x : W} => wAt_set (x := x) B1 hlt
       have hgt := fun {k : Nat} (h : k < i) => wAt_get B1 h hi
       have hln := wRow_len (wAt B1 i)
       rw [wAt_len B1 hi] at hln
       repeat refine c_seq ?_
       refine c_region ?_
       refine qm rfl rfl ?_
       refine step_pure rfl (pure_lss rfl rfl) ?_
       refine step_nil ?_
       repeat refine c_seq ?_
       refine c_cond rfl (fun h => ?_) (fun h => ?_)
       ·have h16 : i < 16 := by have := of_decide_eq_true h; omega
        clear h hgt
        have e0 := hTb.at (64 * q + 4 * i)
        have e1 := hTb.at (64 * q + 4 * i + 1)
        have e2 := hTb.at (64 * q + 4 * i + 2)
        have e3 := hTb.at (64 * q + 4 * i + 3)
        have g0 := hcel _ _ (row_get T (64 * q + 4 * i) (by omega))
        have g1 := hcel _ _ (row_get T (64 * q + 4 * i + 1) (by omega))
        have g2 := hcel _ _ (row_get T (64 * q + 4 * i + 2) (by omega))
        have g3 := hcel _ _ (row_get T (64 * q + 4 * i + 3) (by omega))
        have hwd : (if i < 16 then word B1 i else nextW (sched B1 i) i) = wOf (((B1.getD (4 * i) 0 * 16777216 + B1.getD (4 * i + 1) 0 * 65536) + B1.getD (4 * i + 2) 0 * 256) + B1.getD (4 * i + 3) 0) := if_pos h16
        rw [hBg _ (by omega), hBg _ (by omega), hBg _ (by omega), hBg _ (by omega), ← Nat.add_assoc, ← Nat.add_assoc, ← Nat.add_assoc] at hwd
        rw [hwd, ← word_add _ _ _ _ e0 e1 e2 e3] at hset
        clear hwd
        generalize T.getD (64 * q + 4 * i) 0 = c0 at *
        generalize T.getD (64 * q + 4 * i + 1) 0 = c1 at *
        generalize T.getD (64 * q + 4 * i + 2) 0 = c2 at *
        generalize T.getD (64 * q + 4 * i + 3) 0 = c3 at *
        generalize wRow (wAt B1 i) = Y at *
        have had : ∀ k : Nat, ∀ z : Int, z = (64 * q + 4 * i + k : Nat) → Value.pointer (some (p.add (z.toNat * 1))) = Value.pointer (some (p.add (64 * q + 4 * i + k))) := fun k z h => by rw [h, Int.toNat_natCast, Nat.mul_one]
        repeat refine c_seq ?_
        refine c_region ?_
        refine qm rfl rfl ?_
        refine qm rfl rfl ?_
        refine step_pure rfl (pure_mul64 rfl rfl (by omega) (by omega)) ?_
        refine step_pure rfl (pure_add64 rfl rfl (by omega) (by omega)) ?_
        refine qa rfl rfl ?_
        refine step_nil ?_
        repeat refine c_seq ?_
        refine d_region [1, 9, 17, 25, 35, 41, 49, 57, 65, 73, 81, 91, 97, 105, 113, 121, 129, 137, 145, 155, 161, 169, 177, 185, 193, 201, 209, 219, 225, 233, 241, 252] follows (by kernel_rfl) ?_
        refine qd rfl rfl rfl rfl ?_
        refine qd rfl rfl rfl rfl ?_
        refine qd rfl rfl rfl rfl ?_
        refine d_as0 rfl rfl rfl (pure_indexAddr_at rfl rfl rfl rfl rfl (by omega) (by omega)) (had 0 _ (by omega)) ?_
        refine d_pure1 rfl rfl rfl (pure_cel rfl rfl rfl g0) (by exact SubMem.refl _) ?_
        refine d_as0 rfl rfl rfl (pure_conv rfl rfl rfl rfl) (conv_byte e0) ?_
        refine d_pure0 rfl rfl rfl (pure_wshl (k := 24) (by decide) rfl rfl) ?_
        refine qd rfl rfl rfl rfl ?_
        refine qd rfl rfl rfl rfl ?_
        refine d_pure0 rfl rfl rfl (pure_add64 rfl rfl (by omega) (by omega)) ?_
        refine d_as0 rfl rfl rfl (pure_indexAddr_at rfl rfl rfl rfl rfl (by omega) (by omega)) (had 1 _ (by omega)) ?_
        refine d_pure1 rfl rfl rfl (pure_cel rfl rfl rfl g1) (by exact SubMem.refl _) ?_
        refine d_as0 rfl rfl rfl (pure_conv rfl rfl rfl rfl) (conv_byte e1) ?_
        refine d_pure0 rfl rfl rfl (pure_wshl (k := 16) (by decide) rfl rfl) ?_
        refine d_pure0 rfl rfl rfl (pure_wadd rfl rfl) ?_
        refine qd rfl rfl rfl rfl ?_
        refine qd rfl rfl rfl rfl ?_
        refine d_pure0 rfl rfl rfl (pure_add64 rfl rfl (by omega) (by omega)) ?_
        refine d_as0 rfl rfl rfl (pure_indexAddr_at rfl rfl rfl rfl rfl (by omega) (by omega)) (had 2 _ (by omega)) ?_
        refine d_pure1 rfl rfl rfl (pure_cel rfl rfl rfl g2) (by exact SubMem.refl _) ?_
        refine d_as0 rfl rfl rfl (pure_conv rfl rfl rfl rfl) (conv_byte e2) ?_
        refine d_pure0 rfl rfl rfl (pure_wshl (k := 8) (by decide) rfl rfl) ?_
        refine d_pure0 rfl rfl rfl (pure_wadd rfl rfl) ?_
        refine qd rfl rfl rfl rfl ?_
        refine qd rfl rfl rfl rfl ?_
        refine d_pure0 rfl rfl rfl (pure_add64 rfl rfl (by omega) (by omega)) ?_
        refine d_as0 rfl rfl rfl (pure_indexAddr_at rfl rfl rfl rfl rfl (by omega) (by omega)) (had 3 _ (by omega)) ?_
        refine d_pure1 rfl rfl rfl (pure_cel rfl rfl rfl g3) (by exact SubMem.refl _) ?_
        refine d_as0 rfl rfl rfl (pure_conv rfl rfl rfl rfl) (conv_byte e3) ?_
        refine d_pure0 rfl rfl rfl (pure_wadd rfl rfl) ?_
        refine d_pure0 rfl rfl rfl (pure_ix (off' := i) rfl rfl rfl rfl rfl (by omega) (by omega) (by show 0 + (i : Int).toNat * 1 = _; omega)) ?_
        refine d_store 0 rfl rfl rfl rfl rfl rfl rfl rfl rfl rfl (by show i < Y.length; omega) (hset rfl) rfl rfl ?_
        refine d_nil ?_
        refine c_exit ?_
        exact less_of ⟨rfl, rfl, rfl, rfl, rfl, rfl, rfl, trivial⟩ rfl
       ·have h16 : ¬ i < 16 := by have := of_decide_eq_false h; omega
        clear h
        refine c_skip ?_
        have hwd : (if i < 16 then word B1 i else nextW (sched B1 i) i) = nextW (sched B1 i) i := if_neg h16
        have hnx : nextW (sched B1 i) i = (((sched B1 i).getD (i - 16) 0 + (sched B1 i).getD (i - 7) 0) + sg0 ((sched B1 i).getD (i - 15) 0)) + sg1 ((sched B1 i).getD (i - 2) 0) := rfl
        rw [hwd, hnx] at hset
        clear hwd hnx
        have g0 := hgt (k := i - 16) (by omega)
        have g1 := hgt (k := i - 7) (by omega)
        have g2 := hgt (k := i - 15) (by omega)
        have g3 := hgt (k := i - 2) (by omega)
        clear hgt
        generalize (sched B1 i).getD (i - 16) 0 = x0 at *
        generalize (sched B1 i).getD (i - 7) 0 = x1 at *
        generalize (sched B1 i).getD (i - 15) 0 = x2 at *
        generalize (sched B1 i).getD (i - 2) 0 = x3 at *
        generalize wRow (wAt B1 i) = Y at *
        repeat refine c_seq ?_
        refine c_region ?_
        refine qm rfl rfl ?_
        refine step_pure rfl (pure_sub64 rfl rfl (by omega) (by omega)) ?_
        refine step_pure rfl (pure_ix (off' := i - 15) rfl rfl rfl rfl rfl (by omega) (by omega) (by show 0 + ((i : Int) - 15).toNat * 1 = _; omega)) ?_
        refine step_pure rfl (pure_load (i := 0) rfl rfl rfl rfl rfl g2) ?_
        refine qa rfl rfl ?_
        refine step_nil ?_
        repeat refine c_seq ?_
        refine c_region ?_
        refine qm rfl rfl ?_
        refine step_pure rfl (pure_sub64 rfl rfl (by omega) (by omega)) ?_
        refine step_pure rfl (pure_ix (off' := i - 2) rfl rfl rfl rfl rfl (by omega) (by omega) (by show 0 + ((i : Int) - 2).toNat * 1 = _; omega)) ?_
        refine step_pure rfl (pure_load (i := 0) rfl rfl rfl rfl rfl g3) ?_
        refine qa rfl rfl ?_
        refine step_nil ?_
        repeat refine c_seq ?_
        refine d_region [1, 9, 17, 25, 35, 41, 49, 57, 67, 73, 81, 91, 97, 107, 113, 121, 129, 137, 145, 153, 163, 169, 179, 185, 193, 201, 209, 217, 225, 236] follows (by kernel_rfl) ?_
        refine qd rfl rfl rfl rfl ?_
        refine qd rfl rfl rfl rfl ?_
        refine d_pure0 rfl rfl rfl (pure_sub64 rfl rfl (by omega) (by omega)) ?_
        refine d_pure0 rfl rfl rfl (pure_ix (off' := i - 16) rfl rfl rfl rfl rfl (by omega) (by omega) (by show 0 + ((i : Int) - 16).toNat * 1 = _; omega)) ?_
        refine d_pure1 rfl rfl rfl (pure_load (i := 0) rfl rfl rfl rfl rfl g0) (by exact SubMem.refl _) ?_
        refine qd rfl rfl rfl rfl ?_
        refine d_pure0 rfl rfl rfl (pure_sub64 rfl rfl (by omega) (by omega)) ?_
        refine d_pure0 rfl rfl rfl (pure_ix (off' := i - 7) rfl rfl rfl rfl rfl (by omega) (by omega) (by show 0 + ((i : Int) - 7).toNat * 1 = _; omega)) ?_
        refine d_pure1 rfl rfl rfl (pure_load (i := 0) rfl rfl rfl rfl rfl g1) (by exact SubMem.refl _) ?_
        refine d_pure0 rfl rfl rfl (pure_wadd rfl rfl) ?_
        refine qd rfl rfl rfl rfl ?_
        refine d_gives rfl rfl rfl fun80 rfl (fun w _ _ => rturned_z _ w (by decide) (by decide)) (by exact SubMem.refl _) ?_
        refine qd rfl rfl rfl rfl ?_
        refine d_gives rfl rfl rfl fun80 rfl (fun w _ _ => rturned_z _ w (by decide) (by decide)) (by exact SubMem.refl _) ?_
        refine d_pure0 rfl rfl rfl (pure_wxor rfl rfl) ?_
        refine qd rfl rfl rfl rfl ?_
        refine d_pure0 rfl rfl rfl (pure_wshr (k := 3) (by decide) rfl rfl) ?_
        refine d_pure0 rfl rfl rfl (pure_wxor rfl rfl) ?_
        refine d_pure0 rfl rfl rfl (pure_wadd rfl rfl) ?_
        refine qd rfl rfl rfl rfl ?_
        refine d_gives rfl rfl rfl fun80 rfl (fun w _ _ => rturned_z _ w (by decide) (by decide)) (by exact SubMem.refl _) ?_
        refine qd rfl rfl rfl rfl ?_
        refine d_gives rfl rfl rfl fun80 rfl (fun w _ _ => rturned_z _ w (by decide) (by decide)) (by exact SubMem.refl _) ?_
        refine d_pure0 rfl rfl rfl (pure_wxor rfl rfl) ?_
        refine qd rfl rfl rfl rfl ?_
        refine d_pure0 rfl rfl rfl (pure_wshr (k := 10) (by decide) rfl rfl) ?_
        refine d_pure0 rfl rfl rfl (pure_wxor rfl rfl) ?_
        refine d_pure0 rfl rfl rfl (pure_wadd rfl rfl) ?_
        refine d_pure0 rfl rfl rfl (pure_ix (off' := i) rfl rfl rfl rfl rfl (by omega) (by omega) (by show 0 + (i : Int).toNat * 1 = _; omega)) ?_
        refine d_store 0 rfl rfl rfl rfl rfl rfl rfl rfl rfl rfl (by show i < Y.length; omega) (hset rfl) rfl rfl ?_
        refine d_nil ?_
        exact less_of ⟨rfl, rfl, rfl, rfl, rfl, rfl, rfl, trivial⟩ rfl
      ·repeat refine c_seq ?_
       refine c_region ?_
       refine qm rfl rfl ?_
       refine step_pure rfl (pure_add64 rfl rfl (by omega) (by omega)) ?_
       refine qa rfl rfl ?_
       refine step_nil ?_
       exact ⟨i + 1, hlt, by omega, less_of ⟨rfl, rfl, rfl, rfl, rfl, rfl, rfl, trivial⟩ rfl⟩
     ·have h64 : i = 64 := by have := of_decide_eq_false h; omega
      subst h64
      refine c_exit ?_
      rw [wAt_end]
      exact less_of ⟨rfl, rfl, rfl, rfl, rfl, rfl, trivial⟩ rfl
    have hS : (sched B1 64).length = 64 := sched_len B1 64
    generalize sched B1 64 = Sc at *
    have hrnd := hrn V Sc
    have hr00 := hr0 V Sc
    generalize RW V Sc = U at *
    repeat refine c_seq ?_
    refine c_region ?_
    refine step_pure rfl (pure_load_agg (i := 2) (vs := wRow V.l) rfl rfl rfl rfl rfl (Nat.le_of_ble_eq_true rfl) (by rfl)) ?_
    refine step_alloc rfl zero113 (fun b12 => ?_)
    refine step_store_agg 0 rfl rfl rfl (wRow_one _) rfl rfl rfl rfl (Nat.le_of_ble_eq_true rfl) (show _ = wRow V.l from rfl) ?_
    refine step_nil ?_
    repeat refine c_seq ?_
    refine c_region ?_
    refine qa rfl rfl ?_
    refine step_nil ?_
    repeat refine c_seq ?_
    refine c_meet [(2, .pointer (some ⟨b2, 0, none⟩)), (3, .pointer (some ⟨b3, 0, none⟩)), (4, .pointer (some ⟨b4, 0, none⟩)), (5, .slice (some p) T.length tc5), (6, .int .i64 (64 * (q : Int))), (12, .pointer (some ⟨b12, 0, none⟩))]
     [⟨b12, wRow (U 64).l, 113⟩, ⟨b7, wRow Sc, 129⟩, ⟨b4, wRow K, 129⟩, ⟨b3, wRow V.l, 113⟩, ⟨b2, row (zeros 32), 30⟩] ?_ ?_
    ·repeat refine c_seq ?_
     refine c_block ?_
     repeat refine c_seq ?_
     refine c_loop (α := Nat) (fun i => [(2, .pointer (some ⟨b2, 0, none⟩)), (3, .pointer (some ⟨b3, 0, none⟩)), (4, .pointer (some ⟨b4, 0, none⟩)), (5, .slice (some p) T.length tc5), (6, .int .i64 (64 * (q : Int))), (7, .pointer (some ⟨b7, 0, none⟩)), (12, .pointer (some ⟨b12, 0, none⟩)), (13, .int .i64 i)])
      (fun i => [⟨b12, wRow (U i).l, 113⟩, ⟨b7, wRow Sc, 129⟩, ⟨b4, wRow K, 129⟩, ⟨b3, wRow V.l, 113⟩, ⟨b2, row (zeros 32), 30⟩]) (fun i => i ≤ 64) (fun i => 64 - i) 0 (by decide) (less_of ⟨rfl, rfl, rfl, rfl, rfl, rfl, rfl, rfl, trivial⟩ (by rw [hr00] <;> rfl)) ?_
     intro i hi
     repeat refine c_seq ?_
     refine c_region ?_
     refine qm rfl rfl ?_
     refine step_pure rfl (pure_lss rfl rfl) ?_
     refine step_nil ?_
     repeat refine c_seq ?_
     refine c_cond rfl (fun h => ?_) (fun h => ?_)
     ·have hlt : i < 64 := by have := of_decide_eq_true h; omega
      clear h
      refine c_skip ?_
      have hn := hrnd i
      have gk := wRow_get K i (by omega)
      have gs := wRow_get Sc i (by omega)
      obtain ⟨u', hu'⟩ : ∃ x, x = U (i + 1) := ⟨_, rfl⟩
      rw [← hu'] at hn
      generalize hU : U i = u at *
      clear hU
      generalize K.getD i 0 = kx at *
      generalize Sc.getD i 0 = sx at *
      generalize wRow K = Kr at *
      generalize wRow Sc = Sr at *
      repeat refine c_seq ?_
      refine c_meet [(2, .pointer (some ⟨b2, 0, none⟩)), (3, .pointer (some ⟨b3, 0, none⟩)), (4, .pointer (some ⟨b4, 0, none⟩)), (5, .slice (some p) T.length tc5), (6, .int .i64 (64 * (q : Int))), (7, .pointer (some ⟨b7, 0, none⟩)), (12, .pointer (some ⟨b12, 0, none⟩)), (13, .int .i64 i)]
       [⟨b12, wRow u'.l, 113⟩, ⟨b7, Sr, 129⟩, ⟨b4, Kr, 129⟩, ⟨b3, wRow V.l, 113⟩, ⟨b2, row (zeros 32), 30⟩] ?_ ?_
      ·repeat refine c_seq ?_
       refine c_block ?_
       repeat refine c_seq ?_
       refine c_region ?_
       refine step_pure rfl (pure_ix rfl rfl rfl rfl rfl (by decide) (by decide) rfl) ?_
       refine step_pure rfl (pure_load (i := 0) rfl rfl rfl rfl rfl rfl) ?_
       refine step_pure rfl (pure_ix rfl rfl rfl rfl rfl (by decide) (by decide) rfl) ?_
       refine step_pure rfl (pure_load (i := 0) rfl rfl rfl rfl rfl rfl) ?_
       refine step_pure rfl (pure_wand rfl rfl) ?_
       refine step_pure rfl (pure_ix rfl rfl rfl rfl rfl (by decide) (by decide) rfl) ?_
       refine step_pure rfl (pure_load (i := 0) rfl rfl rfl rfl rfl rfl) ?_
       refine step_as rfl (pure_xor rfl rfl) (xor_top u.e) ?_
       refine step_pure rfl (pure_ix rfl rfl rfl rfl rfl (by decide) (by decide) rfl) ?_
       refine step_pure rfl (pure_load (i := 0) rfl rfl rfl rfl rfl rfl) ?_
       refine step_pure rfl (pure_wand rfl rfl) ?_
       refine step_as rfl (pure_wor rfl rfl) (congrArg (fun z => Value.int .u32 (wd z)) (ch_or u.e u.f u.g)) ?_
       refine qa rfl rfl ?_
       refine step_nil ?_
       repeat refine c_seq ?_
       refine c_region ?_
       refine step_pure rfl (pure_ix rfl rfl rfl rfl rfl (by decide) (by decide) rfl) ?_
       refine step_pure rfl (pure_load (i := 0) rfl rfl rfl rfl rfl rfl) ?_
       refine step_pure rfl (pure_ix rfl rfl rfl rfl rfl (by decide) (by decide) rfl) ?_
       refine step_pure rfl (pure_load (i := 0) rfl rfl rfl rfl rfl rfl) ?_
       refine step_pure rfl (pure_wand rfl rfl) ?_
       refine step_pure rfl (pure_ix rfl rfl rfl rfl rfl (by decide) (by decide) rfl) ?_
       refine step_pure rfl (pure_load (i := 0) rfl rfl rfl rfl rfl rfl) ?_
       refine step_pure rfl (pure_ix rfl rfl rfl rfl rfl (by decide) (by decide) rfl) ?_
       refine step_pure rfl (pure_load (i := 0) rfl rfl rfl rfl rfl rfl) ?_
       refine step_pure rfl (pure_wand rfl rfl) ?_
       refine step_pure rfl (pure_wor rfl rfl) ?_
       refine step_pure rfl (pure_ix rfl rfl rfl rfl rfl (by decide) (by decide) rfl) ?_
       refine step_pure rfl (pure_load (i := 0) rfl rfl rfl rfl rfl rfl) ?_
       refine step_pure rfl (pure_ix rfl rfl rfl rfl rfl (by decide) (by decide) rfl) ?_
       refine step_pure rfl (pure_load (i := 0) rfl rfl rfl rfl rfl rfl) ?_
       refine step_pure rfl (pure_wand rfl rfl) ?_
       refine step_as rfl (pure_wor rfl rfl) (congrArg (fun z => Value.int .u32 (wd z)) (mj_or u.a u.b u.c)) ?_
       refine qa rfl rfl ?_
       refine step_nil ?_
       repeat refine c_seq ?_
       refine d_region [1, 11, 17, 27, 35, 41, 51, 59, 65, 73, 83, 91, 97, 105, 113, 121, 129, 137, 147, 153, 161, 169, 179, 185, 193] follows (by kernel_rfl) ?_
       refine d_pure0 rfl rfl rfl (pure_ix rfl rfl rfl rfl rfl (by decide) (by decide) rfl) ?_
       refine d_pure1 rfl rfl rfl (pure_load (i := 0) rfl rfl rfl rfl rfl rfl) (by exact SubMem.refl _) ?_
       refine d_pure0 rfl rfl rfl (pure_ix rfl rfl rfl rfl rfl (by decide) (by decide) rfl) ?_
       refine d_pure1 rfl rfl rfl (pure_load (i := 0) rfl rfl rfl rfl rfl rfl) (by exact SubMem.refl _) ?_
       refine d_gives rfl rfl rfl fun80 rfl (fun w _ _ => rturned_z _ w (by decide) (by decide)) (by exact SubMem.refl _) ?_
       refine d_pure0 rfl rfl rfl (pure_ix rfl rfl rfl rfl rfl (by decide) (by decide) rfl) ?_
       refine d_pure1 rfl rfl rfl (pure_load (i := 0) rfl rfl rfl rfl rfl rfl) (by exact SubMem.refl _) ?_
       refine d_gives rfl rfl rfl fun80 rfl (fun w _ _ => rturned_z _ w (by decide) (by decide)) (by exact SubMem.refl _) ?_
       refine d_pure0 rfl rfl rfl (pure_wxor rfl rfl) ?_
       refine d_pure0 rfl rfl rfl (pure_ix rfl rfl rfl rfl rfl (by decide) (by decide) rfl) ?_
       refine d_pure1 rfl rfl rfl (pure_load (i := 0) rfl rfl rfl rfl rfl rfl) (by exact SubMem.refl _) ?_
       refine d_gives rfl rfl rfl fun80 rfl (fun w _ _ => rturned_z _ w (by decide) (by decide)) (by exact SubMem.refl _) ?_
       refine d_pure0 rfl rfl rfl (pure_wxor rfl rfl) ?_
       refine d_pure0 rfl rfl rfl (pure_wadd rfl rfl) ?_
       refine qd rfl rfl rfl rfl ?_
       refine d_pure0 rfl rfl rfl (pure_wadd rfl rfl) ?_
       refine qd rfl rfl rfl rfl ?_
       refine d_pure0 rfl rfl rfl (pure_ix (off' := i) rfl rfl rfl rfl rfl (by omega) (by omega) (by show 0 + (i : Int).toNat * 1 = _; omega)) ?_
       refine d_pure1 rfl rfl rfl (pure_load (i := 2) rfl rfl rfl rfl rfl gk) (by exact SubMem.refl _) ?_
       refine d_pure0 rfl rfl rfl (pure_wadd rfl rfl) ?_
       refine qd rfl rfl rfl rfl ?_
       refine d_pure0 rfl rfl rfl (pure_ix (off' := i) rfl rfl rfl rfl rfl (by omega) (by omega) (by show 0 + (i : Int).toNat * 1 = _; omega)) ?_
       refine d_pure1 rfl rfl rfl (pure_load (i := 1) rfl rfl rfl rfl rfl gs) (by exact SubMem.refl _) ?_
       refine d_pure0 rfl rfl rfl (pure_wadd rfl rfl) ?_
       refine d_pure0 rfl rfl rfl (pure_assign rfl) ?_
       refine d_nil ?_
       repeat refine c_seq ?_
       refine d_region [1, 11, 19, 25, 35, 43, 49, 57, 67, 75, 81, 89, 97, 105] follows (by kernel_rfl) ?_
       refine d_pure0 rfl rfl rfl (pure_ix rfl rfl rfl rfl rfl (by decide) (by decide) rfl) ?_
       refine d_pure1 rfl rfl rfl (pure_load (i := 0) rfl rfl rfl rfl rfl rfl) (by exact SubMem.refl _) ?_
       refine d_gives rfl rfl rfl fun80 rfl (fun w _ _ => rturned_z _ w (by decide) (by decide)) (by exact SubMem.refl _) ?_
       refine d_pure0 rfl rfl rfl (pure_ix rfl rfl rfl rfl rfl (by decide) (by decide) rfl) ?_
       refine d_pure1 rfl rfl rfl (pure_load (i := 0) rfl rfl rfl rfl rfl rfl) (by exact SubMem.refl _) ?_
       refine d_gives rfl rfl rfl fun80 rfl (fun w _ _ => rturned_z _ w (by decide) (by decide)) (by exact SubMem.refl _) ?_
       refine d_pure0 rfl rfl rfl (pure_wxor rfl rfl) ?_
       refine d_pure0 rfl rfl rfl (pure_ix rfl rfl rfl rfl rfl (by decide) (by decide) rfl) ?_
       refine d_pure1 rfl rfl rfl (pure_load (i := 0) rfl rfl rfl rfl rfl rfl) (by exact SubMem.refl _) ?_
       refine d_gives rfl rfl rfl fun80 rfl (fun w _ _ => rturned_z _ w (by decide) (by decide)) (by exact SubMem.refl _) ?_
       refine d_pure0 rfl rfl rfl (pure_wxor rfl rfl) ?_
       refine qd rfl rfl rfl rfl ?_
       refine d_pure0 rfl rfl rfl (pure_wadd rfl rfl) ?_
       refine d_pure0 rfl rfl rfl (pure_assign rfl) ?_
       refine d_nil ?_
       repeat refine c_seq ?_
       refine c_region ?_
       refine qm rfl rfl ?_
       refine qm rfl rfl ?_
       refine step_pure rfl (pure_wadd rfl rfl) ?_
       refine step_pure rfl (pure_ix rfl rfl rfl rfl rfl (by decide) (by decide) rfl) ?_
       refine step_pure rfl (pure_load (i := 0) rfl rfl rfl rfl rfl rfl) ?_
       refine step_pure rfl (pure_ix rfl rfl rfl rfl rfl (by decide) (by decide) rfl) ?_
       refine step_pure rfl (pure_load (i := 0) rfl rfl rfl rfl rfl rfl) ?_
       refine step_pure rfl (pure_ix rfl rfl rfl rfl rfl (by decide) (by decide) rfl) ?_
       refine step_pure rfl (pure_load (i := 0) rfl rfl rfl rfl rfl rfl) ?_
       refine step_pure rfl (pure_ix rfl rfl rfl rfl rfl (by decide) (by decide) rfl) ?_
       refine step_pure rfl (pure_load (i := 0) rfl rfl rfl rfl rfl rfl) ?_
       refine qm rfl rfl ?_
       refine step_pure rfl (pure_wadd rfl rfl) ?_
       refine step_pure rfl (pure_ix rfl rfl rfl rfl rfl (by decide) (by decide) rfl) ?_
       refine step_pure rfl (pure_load (i := 0) rfl rfl rfl rfl rfl rfl) ?_
       refine step_pure rfl (pure_ix rfl rfl rfl rfl rfl (by decide) (by decide) rfl) ?_
       refine step_pure rfl (pure_load (i := 0) rfl rfl rfl rfl rfl rfl) ?_
       refine step_pure rfl (pure_ix rfl rfl rfl rfl rfl (by decide) (by decide) rfl) ?_
       refine step_pure rfl (pure_load (i := 0) rfl rfl rfl rfl rfl rfl) ?_
       refine step_pure rfl (pure_build_arr rfl zero113 rfl rfl rfl rfl) ?_
       refine step_store_agg 0 rfl rfl rfl (of_one rfl) rfl rfl rfl rfl (Nat.le_of_ble_eq_true rfl) rfl ?_
       refine step_nil ?_
       exact less_of ⟨rfl, rfl, rfl, rfl, rfl, rfl, rfl, rfl, trivial⟩ (by rw [hn]; rfl)
      ·repeat refine c_seq ?_
       refine c_region ?_
       refine qm rfl rfl ?_
       refine step_pure rfl (pure_add64 rfl rfl (by omega) (by omega)) ?_
       refine qa rfl rfl ?_
       refine step_nil ?_
       exact ⟨i + 1, by show i + 1 ≤ 64; omega, by omega, less_of ⟨rfl, rfl, rfl, rfl, rfl, rfl, rfl, rfl, trivial⟩ (by rw [hu'])⟩
     ·have h64 : i = 64 := by have := of_decide_eq_false h; omega
      subst h64
      refine c_exit ?_
      exact less_of ⟨rfl, rfl, rfl, rfl, rfl, rfl, trivial⟩ rfl
    generalize U 64 = u at *
    subst hsc
    repeat refine c_seq ?_
    refine c_region ?_
    refine qa rfl rfl ?_
    refine step_nil ?_
    repeat refine c_seq ?_
    refine c_block ?_
    repeat refine c_seq ?_
    refine c_loop (α := Nat) (fun i => [(2, .pointer (some ⟨b2, 0, none⟩)), (3, .pointer (some ⟨b3, 0, none⟩)), (4, .pointer (some ⟨b4, 0, none⟩)), (5, .slice (some p) T.length tc5), (6, .int .i64 (64 * (q : Int))), (12, .pointer (some ⟨b12, 0, none⟩)), (18, .int .i64 i)])
     (fun i => [⟨b12, wRow u.l, 113⟩, ⟨b7, wRow Sc, 129⟩, ⟨b4, wRow K, 129⟩, ⟨b3, wRow (addAt V u i), 113⟩, ⟨b2, row (zeros 32), 30⟩]) (fun i => i ≤ 8) (fun i => 8 - i) 0 (by decide)
     (less_of ⟨rfl, rfl, rfl, rfl, rfl, rfl, rfl, trivial⟩ rfl) ?_
    intro i hi
    repeat refine c_seq ?_
    refine c_region ?_
    refine qm rfl rfl ?_
    refine step_pure rfl (pure_lss rfl rfl) ?_
    refine step_nil ?_
    repeat refine c_seq ?_
    refine c_cond rfl (fun h => ?_) (fun h => ?_)
    ·have hlt : i < 8 := by have := of_decide_eq_true h; omega
     clear h
     refine c_skip ?_
     have gv := wRow_get (addAt V u i) i (by rw [addAt_len V u hi]; exact hlt)
     have gu := wRow_get u.l i hlt
     have hs := (addAt_step V u hlt).2
     have hset := wRow_set (addAt V u i) i (V.l.getD i 0 + u.l.getD i 0)
     rw [hs] at hset
     rw [(addAt_step V u hlt).1] at gv
     have hln : (wRow (addAt V u i)).length = 8 := by rw [wRow_len, addAt_len V u hi]
     clear hs
     repeat refine c_seq ?_
     refine c_meet [(2, .pointer (some ⟨b2, 0, none⟩)), (3, .pointer (some ⟨b3, 0, none⟩)), (4, .pointer (some ⟨b4, 0, none⟩)), (5, .slice (some p) T.length tc5), (6, .int .i64 (64 * (q : Int))), (12, .pointer (some ⟨b12, 0, none⟩)), (18, .int .i64 i)]
      [⟨b12, wRow u.l, 113⟩, ⟨b7, wRow Sc, 129⟩, ⟨b4, wRow K, 129⟩, ⟨b3, wRow (addAt V u (i + 1)), 113⟩, ⟨b2, row (zeros 32), 30⟩] ?_ ?_
     ·repeat refine c_seq ?_
      refine c_block ?_
      generalize V.l.getD i 0 = xv at *
      generalize u.l.getD i 0 = xu at *
      generalize wRow (addAt V u i) = Y at *
      generalize wRow u.l = Ur at *
      repeat refine c_seq ?_
      refine d_region [1, 9, 17, 27, 33, 41, 51, 57, 65, 76] follows (by kernel_rfl) ?_
      refine qd rfl rfl rfl rfl ?_
      refine qd rfl rfl rfl rfl ?_
      refine d_pure0 rfl rfl rfl (pure_ix (off' := i) rfl rfl rfl rfl rfl (by omega) (by omega) (by show 0 + (i : Int).toNat * 1 = _; omega)) ?_
      refine d_pure1 rfl rfl rfl (pure_load (i := 3) rfl rfl rfl rfl rfl gv) (by exact SubMem.refl _) ?_
      refine qd rfl rfl rfl rfl ?_
      refine d_pure0 rfl rfl rfl (pure_ix (off' := i) rfl rfl rfl rfl rfl (by omega) (by omega) (by show 0 + (i : Int).toNat * 1 = _; omega)) ?_
      refine d_pure1 rfl rfl rfl (pure_load (i := 0) rfl rfl rfl rfl rfl gu) (by exact SubMem.refl _) ?_
      refine d_pure0 rfl rfl rfl (pure_wadd rfl rfl) ?_
      refine d_pure0 rfl rfl rfl (pure_ix (off' := i) rfl rfl rfl rfl rfl (by omega) (by omega) (by show 0 + (i : Int).toNat * 1 = _; omega)) ?_
      refine d_store 3 rfl rfl rfl rfl rfl rfl rfl rfl rfl rfl (by show i < Y.length; omega) hset rfl rfl ?_
      refine d_nil ?_
      exact less_of ⟨rfl, rfl, rfl, rfl, rfl, rfl, rfl, trivial⟩ rfl
     ·repeat refine c_seq ?_
      refine c_region ?_
      refine qm rfl rfl ?_
      refine step_pure rfl (pure_add64 rfl rfl (by omega) (by omega)) ?_
      refine qa rfl rfl ?_
      refine step_nil ?_
      exact ⟨i + 1, hlt, by omega, less_of ⟨rfl, rfl, rfl, rfl, rfl, rfl, rfl, trivial⟩ rfl⟩
    ·have h8 : i = 8 := by have := of_decide_eq_false h; omega
     subst h8
     refine c_exit ?_
     exact less_sub ⟨rfl, rfl, rfl, rfl, rfl, trivial⟩ (by repeat (first | exact List.Sublist.refl _ | exact List.nil_sublist _ | apply List.Sublist.cons_cons | apply List.Sublist.cons))
   ·repeat refine c_seq ?_
    refine c_region ?_
    refine qm rfl rfl ?_
    refine step_pure rfl (pure_add64 rfl rfl (by omega) (by omega)) ?_
    refine qa rfl rfl ?_
    refine step_nil ?_
    exact ⟨q + 1, by show 64 * (q + 1) ≤ _; omega, by show T.length - 64 * (q + 1) < T.length - 64 * q; omega, less_of ⟨rfl, rfl, rfl, rfl, by show some (Value.int .i64 (64 * (q : Int) + 64)) = some (Value.int .i64 (64 * ((q + 1 : Nat) : Int))); rw [show (64 * (q : Int) + 64) = 64 * ((q + 1 : Nat) : Int) by omega], trivial⟩ (by rw [hV2])⟩
  ·have hqe : q = T.length / 64 := by have := of_decide_eq_false h; omega
   subst hqe
   refine c_exit ?_
   exact less_sub ⟨rfl, rfl, trivial⟩ (by repeat (first | exact List.Sublist.refl _ | exact List.nil_sublist _ | apply List.Sublist.cons_cons | apply List.Sublist.cons))
 generalize AV F0 (T.length / 64) T = V at *
 clear hcel hasc hmixV hrn hr0 hf hpart
 repeat refine s_seqs ?_
 refine s_reg ?_
 refine step_pure rfl (pure_build_arr rfl zero30 rfl rfl rfl rfl) ?_
 refine step_alloc rfl zero30 (fun b19 => ?_)
 refine step_store_agg 0 rfl rfl rfl (of_one rfl) rfl rfl rfl rfl (Nat.le_of_ble_eq_true rfl) (show _ = row (fillAt (outB V) 0) from by rw [fillAt_zero, hsl]; rfl) ?_
 refine Vc.step_end (fun a w ok => ?_)
 (refine WPs.run ?_ a w ok; clear ok w a)
 repeat refine s_seqs ?_
 refine s_reg ?_
 refine qa rfl rfl ?_
 refine Vc.step_end (fun a w ok => ?_)
 (refine WPs.run ?_ a w ok; clear ok w a)
 have hfe : fillAt (outB V) 32 = outB V := by
  have := fillAt_end (outB V)
  rw [hsl] at this
  exact this
 repeat refine s_seqs ?_
 refine s_meet [(2, .pointer (some ⟨b2, 0, none⟩)), (19, .pointer (some ⟨b19, 0, none⟩))] [⟨b19, row (outB V), 30⟩, ⟨b2, row (zeros 32), 30⟩] ?_ (fun a w ok => WPs.run ?_ a w ok)
 ·repeat refine c_seq ?_
  refine c_block ?_
  repeat refine c_seq ?_
  refine c_loop (α := Nat) (fun i => [(2, .pointer (some ⟨b2, 0, none⟩)), (3, .pointer (some ⟨b3, 0, none⟩)), (19, .pointer (some ⟨b19, 0, none⟩)), (20, .int .i64 i)]) (fun i => [⟨b19, row (fillAt (outB V) i), 30⟩, ⟨b3, wRow V.l, 113⟩, ⟨b2, row (zeros 32), 30⟩])
   (fun i => i ≤ 32) (fun i => 32 - i) 0 (by decide) (less_of ⟨rfl, rfl, rfl, rfl, trivial⟩ rfl) ?_
  intro i hi
  repeat refine c_seq ?_
  refine c_region ?_
  refine qm rfl rfl ?_
  refine step_pure rfl (pure_lss rfl rfl) ?_
  refine step_nil ?_
  repeat refine c_seq ?_
  refine c_cond rfl (fun h => ?_) (fun h => ?_)
  ·have hlt : i < 32 := by have := of_decide_eq_true h; omega
   clear h
   refine c_skip ?_
   have hg := wRow_get V.l (i / 4) (by show i / 4 < 8; omega)
   have hs := fillAt_set (outB V) (i := i) (by omega) (outB_get V hlt).symm
   have hfl := fillAt_len (outB V) (i := i) (by omega)
   have hu64 : IntKind.u64.wrap (24 - 8 * ((i : Int) % 4)) = 24 - 8 * ((i : Int) % 4) := by rw [IntKind.wrap_u64]; omega
   repeat refine c_seq ?_
   refine c_meet [(2, .pointer (some ⟨b2, 0, none⟩)), (3, .pointer (some ⟨b3, 0, none⟩)), (19, .pointer (some ⟨b19, 0, none⟩)), (20, .int .i64 i)] [⟨b19, row (fillAt (outB V) (i + 1)), 30⟩, ⟨b3, wRow V.l, 113⟩, ⟨b2, row (zeros 32), 30⟩] ?_ ?_
   ·repeat refine c_seq ?_
    refine c_block ?_
    repeat refine c_seq ?_
    refine c_region ?_
    refine qm rfl rfl ?_
    refine qm rfl rfl ?_
    refine step_pure rfl (pure_quo_pos rfl rfl (by omega) (by omega) (by decide)) ?_
    refine step_pure rfl (pure_ix (off' := i / 4) rfl rfl rfl rfl rfl (by omega) (by omega) (by show 0 + ((i : Int) / 4).toNat * 1 = _; omega)) ?_
    refine step_pure rfl (pure_load (i := 1) rfl rfl rfl rfl rfl hg) ?_
    refine qm rfl rfl ?_
    refine step_pure rfl (pure_rem_pos rfl rfl (by omega) (by decide)) ?_
    refine step_pure rfl (pure_mul64 rfl rfl (by omega) (by omega)) ?_
    refine step_pure rfl (pure_sub64 rfl rfl (by omega) (by omega)) ?_
    refine step_as rfl (pure_conv rfl rfl rfl rfl) (congrArg (Value.int .u64) hu64) ?_
    refine step_pure rfl (pure_shr rfl rfl (by omega)) ?_
    refine step_as rfl (pure_conv rfl rfl rfl rfl) (show _ = Value.int .u8 ((wd (V.l.getD (i / 4) 0) / 2 ^ (24 - 8 * (i % 4))) % 256) from by rw [wrap_u8, show (min (24 - 8 * ((i : Int) % 4)).toNat IntKind.u32.bits) = 24 - 8 * (i % 4) from by show min _ 32 = _; omega]) ?_
    refine step_pure rfl (pure_ix (off' := i) rfl rfl rfl rfl rfl (by omega) (by omega) (by show 0 + (i : Int).toNat * 1 = _; omega)) ?_
    refine step_store 0 rfl rfl rfl rfl rfl rfl rfl rfl (by show i < (row (fillAt (outB V) i)).length; rw [row_len]; omega) hs ?_
    refine step_nil ?_
    exact less_of ⟨rfl, rfl, rfl, rfl, trivial⟩ rfl
   ·repeat refine c_seq ?_
    refine c_region ?_
    refine qm rfl rfl ?_
    refine step_pure rfl (pure_add64 rfl rfl (by omega) (by omega)) ?_
    refine qa rfl rfl ?_
    refine step_nil ?_
    exact ⟨i + 1, hlt, by omega, less_of ⟨rfl, rfl, rfl, rfl, trivial⟩ rfl⟩
  ·have hie : i = 32 := by have := of_decide_eq_false h; omega
   subst hie
   refine c_exit ?_
   rw [hfe]
   exact less_sub ⟨rfl, rfl, trivial⟩ (by repeat (first | exact List.Sublist.refl _ | exact List.nil_sublist _ | apply List.Sublist.cons_cons | apply List.Sublist.cons))
 repeat refine s_seqs ?_
 refine s_reg ?_
 refine step_pure rfl (pure_load_agg (i := 0) rfl rfl rfl rfl rfl (by show 0 + 32 ≤ (row (outB V)).length; rw [row_len, hsl]; decide) (ints_whole _ _ 32 hsl)) ?_
 refine step_store_agg 1 rfl rfl rfl (row_one _) rfl (by rw [row_len]; exact hsl) rfl rfl (by show 0 + 32 ≤ (row (zeros 32)).length; rw [row_len, zeros_len]; decide) (splice_all (by rw [row_len, row_len, zeros_len, hsl])) ?_
 refine Vc.step_end (fun a w ok => ?_)
 (refine WPs.run ?_ a w ok; clear ok w a)
 exact s_ret fun a w ok => ends_k on (.inr rfl) ok (res_cell_agg (i := 1) Try.results54 rfl rfl rfl rfl rfl (by show 0 + 32 ≤ (row (outB V)).length; rw [row_len, hsl]; decide) (ints_whole _ _ 32 hsl))
end Go.Proofs.Ythieegnhjoehbaa
