/- Terminals compared; the calls at the head of all laws of terminals: walked. -/
import Derived.Test.YtadginombcjbeaaT18
namespace Go.Proofs.Ytadginombcjbeaa
open Go.RowKit Go.Vc
set_option linter.unusedVariables false
set_option maxHeartbeats 1000000 in
theorem tsame_eq (t : Tm) (cs1 cs2 : List Value) (w : World) (h1 : ScV (At w) t.s cs1) (h2 : ScV (At w) t.s cs2) (k1 : t.s.cells.length ≤ maxLen) (k2 : t.s.main.length ≤ maxLen) (h8 : Ac8 t.pa.act) :
  Gives tb 12 [.agg (tmL t.ut t.pa cs1).toArray, .agg (tmL t.ut t.pa cs2).toArray] w (.bool true) := by
 obtain ⟨ut, pa, s⟩ := t
 dsimp only at *
 replace h1 := scv_cz h1
 replace h2 := scv_cz h2
 obtain ⟨hl1, ho1⟩ := scv_form h1
 obtain ⟨hl2, ho2⟩ := scv_form h2
 have hL1 := tmL_len (u := ut) h8 hl1
 have hL2 := tmL_len (u := ut) h8 hl2
 have hb1 : ∀ v ∈ tmL ut pa cs1, v.oneCell' = true := tm_one ho1
 have hb2 : ∀ v ∈ tmL ut pa cs2, v.oneCell' = true := tm_one ho2
 have hsc : ∀ {cs : List Value}, cs.length = 16 → ((tmL ut pa cs).drop 16).take 16 = cs := fun {cs} hl => by
  show ((paC pa ++ cs).drop 13).take 16 = cs
  rw [List.drop_left' (pa_len h8)]
  exact List.take_of_length_le (Nat.le_of_eq hl)
 have hsp : ∀ cs : List Value, ((tmL ut pa cs).drop 3).take 13 = paC pa := fun cs => List.take_left' (pa_len h8)
 refine gives_ofk (fn := Try.f12) Try.func12 rfl Try.ntmps12 rfl (fun on => ?_)
 repeat refine s_seqs ?_
 refine s_reg ?_
 refine step_box_agg rfl rfl (fun b2 => ?_)
 refine step_box_agg rfl rfl (fun b3 => ?_)
 refine qa rfl rfl ?_
 refine Vc.step_end (fun a w ok => ?_)
 first | (refine WPs.run ?_ a w ok; clear ok w a) | skip
 repeat refine s_seqs ?_
 refine s_reg ?_
 refine step_pure rfl (pure_fieldAddr rfl rfl rfl rfl rfl (by decide)) ?_
 refine step_pure rfl (pure_load_agg (i := 1) (vs := cs1) rfl rfl rfl rfl rfl (by show 16 + 16 ≤ (tmL ut pa cs1).length; rw [hL1]; decide) (hsc hl1)) ?_
 refine step_pure rfl (pure_fieldAddr rfl rfl rfl rfl rfl (by decide)) ?_
 refine step_pure rfl (pure_load_agg (i := 0) (vs := cs2) rfl rfl rfl rfl rfl (by show 16 + 16 ≤ (tmL ut pa cs2).length; rw [hL2]; decide) (hsc hl2)) ?_
 refine step_gives rfl fun11 rfl (fun w' hh kp => same_eq s _ _ w' (h1.mono (Cz.now kp)) (h2.mono (Cz.now kp)) k1 k2) ?_
 refine qa rfl rfl ?_
 refine Vc.step_end (fun a w ok => ?_)
 first | (refine WPs.run ?_ a w ok; clear ok w a) | skip
 repeat refine s_seqs ?_
 refine s_reg ?_
 refine step_pure rfl (pure_fieldAddr rfl rfl rfl rfl rfl (by decide)) ?_
 refine step_pure rfl (pure_load_agg (i := 1) (vs := utC ut) rfl rfl rfl rfl rfl (by show 0 + 3 ≤ (tmL ut pa cs1).length; rw [hL1]; decide) rfl) ?_
 refine step_pure rfl (pure_fieldAddr rfl rfl rfl rfl rfl (by decide)) ?_
 refine step_pure rfl (pure_load_agg (i := 0) (vs := utC ut) rfl rfl rfl rfl rfl (by show 0 + 3 ≤ (tmL ut pa cs2).length; rw [hL2]; decide) rfl) ?_
 refine step_pure rfl (pure_eql_ut rfl rfl) ?_
 refine qm rfl rfl ?_
 first | refine step_pure rfl (pure_fieldAddr rfl rfl rfl rfl rfl (by decide)) ?_ | refine qp rfl rfl rfl ?_
 first | refine step_pure rfl (pure_load_agg (i := 1) (vs := paC pa) rfl rfl rfl rfl rfl (by show 3 + 13 ≤ (tmL ut pa cs1).length; rw [hL1]; decide) (hsp cs1)) ?_ | refine qp rfl rfl rfl ?_
 first | refine step_pure rfl (pure_fieldAddr rfl rfl rfl rfl rfl (by decide)) ?_ | refine qp rfl rfl rfl ?_
 first | refine step_pure rfl (pure_load_agg (i := 0) (vs := paC pa) rfl rfl rfl rfl rfl (by show 3 + 13 ≤ (tmL ut pa cs2).length; rw [hL2]; decide) (hsp cs2)) ?_ | refine qp rfl rfl rfl ?_
 first | refine step_pure rfl (pure_eql_pa h8 rfl rfl) ?_ | refine qp rfl rfl rfl ?_
 first | refine step_pure rfl (pure_pick_yes rfl rfl) ?_ | refine step_pure rfl (pure_pick_no rfl rfl) ?_ | refine step_pure rfl (pure_pick_bool rfl rfl rfl) ?_
 refine qm rfl rfl ?_
 first | refine qm rfl rfl ?_ | refine qp rfl rfl rfl ?_
 first | refine step_pure rfl (pure_pick_yes rfl rfl) ?_ | refine step_pure rfl (pure_pick_no rfl rfl) ?_ | refine step_pure rfl (pure_pick_bool rfl rfl rfl) ?_
 refine qa rfl rfl ?_
 refine Vc.step_end (fun a w ok => ?_)
 first | (refine WPs.run ?_ a w ok; clear ok w a) | skip
 exact s_ret fun a w ok => ends_k on (.inr rfl) ok (res_tmp Try.results12 rfl)
theorem pure_eql_ce {E : Env} {rs : Rs} {m : Mem} {dst : Option Tmp} {ty : TypeId} {pos : String} {aft : Array Edge} {gd : Option (Nat × Bool)} {x y : Operand} {U : TypeId} {a b p q : Int}
  (hx : ev rs x = some (.agg [Value.int .i64 a, .int .i64 b].toArray)) (hy : ev rs y = some (.agg [Value.int .i64 p, .int .i64 q].toArray)) :
  Pure tb E rs m ⟨dst, .binOp .eql 48 x y U, ty, pos, aft, gd⟩ (.bool (a == p && b == q)) := by
 refine ⟨fun a' w hr hh hk => ?_⟩
 have key := run_eq_ce 9998 a b p q w
 simp [execOp, ev_ok hr hx, ev_ok hr hy, eqGuard, binOp, guardCe, Op.equal, Op.maxDepth, key]
def scA : Scr := ⟨4, 2, [(97, 0), (98, 0), (32, 0), (32, 0), (99, 0), (100, 0), (32, 0), (32, 0)], 2, 1, 0, 0, 1, false, true, false, false, 0, 0, 0, []⟩
def scB : Scr := ⟨4, 2, [(97, 0), (122, 17), (32, 0), (32, 0), (32, 0), (32, 0), (32, 0), (32, 0)], 2, 0, 17, 0, 1, false, true, false, false, 0, 0, 0, []⟩
def bsA : List Int := [97, 98, 13, 10, 99, 100]
def bsB : List Int := [97, 98, 99, 100, 27, 91, 49, 59, 50, 72, 27, 91, 75, 27, 91, 51, 49, 59, 49, 109, 122]
theorem feedA_is : tmFeed ⟨zUt, zPa, newS 4 2⟩ bsA = ⟨zUt, zPa, scA⟩ := by kernel_rfl
theorem feedB_is : tmFeed ⟨zUt, zPa, newS 4 2⟩ bsB = ⟨zUt, zPa, scB⟩ := by kernel_rfl
abbrev uB : Ty := ty5
theorem fillA6 : fillL (fun i => some (i * uB.size, uB.size)) (rowOf [Value.int .u8 0] (6 * uB.size)) [(0, .int .u8 97), (1, .int .u8 98), (2, .int .u8 13), (3, .int .u8 10), (4, .int .u8 99), (5, .int .u8 100)] = some (row bsA) := by kernel_rfl
theorem fillB21 : fillL (fun i => some (i * uB.size, uB.size)) (rowOf [Value.int .u8 0] (21 * uB.size)) [(0, .int .u8 97), (1, .int .u8 98), (2, .int .u8 99), (3, .int .u8 100), (4, .int .u8 27), (5, .int .u8 91), (6, .int .u8 49), (7, .int .u8 59), (8, .int .u8 50), (9, .int .u8 72), (10, .int .u8 27), (11, .int .u8 91), (12, .int .u8 75), (13, .int .u8 27), (14, .int .u8 91),
 (15, .int .u8 51), (16, .int .u8 49), (17, .int .u8 59), (18, .int .u8 49), (19, .int .u8 109), (20, .int .u8 122)] = some (row bsB) := by kernel_rfl
theorem slc_blk0 {C : Addr → Value → Prop} {b k : Nat} {l : List Int} (hl : l.length = k) (hc : ∀ j y, (row l)[j]? = some y → C ⟨b, j, none⟩ y) : SlC C 1 (.slice (some ⟨b, 0, none⟩) k k) l.length (row l) := by
 subst hl
 refine ⟨_, _, rfl, Nat.le_refl _, by rw [ints_len, Nat.mul_one], fun hne => ⟨_, rfl, fun j x hx => ?_⟩⟩
 rw [add_none, Nat.zero_add]
 exact hc j x hx
theorem cellsZ {C : Addr → Value → Prop} {Z : Nat → Prop} {E : Env} {p : Addr} {i : Nat} {x y : Int} (hC : C = Cz Z E) (h : ∀ j v, [Value.int .i64 x, .int .i64 y][j]? = some v → C ((p.add (i * 2)).add j) v) : Cel E ((p.add (i * 2)).add 0) (.int .i64 x) := by
 subst hC
 exact (h 0 _ rfl).1
set_option maxHeartbeats 4000000 in
theorem tawake_any (w : World) : Gives tb 7 [] w (.bool true) := by
 refine gives_ofk (fn := Try.f7) Try.func7 rfl Try.ntmps7 rfl (fun on => ?_)
 have hA := feedA_is
 have hB := feedB_is
 have hmx : 10 ≤ maxLen := by decide
 repeat refine s_seqs ?_
 refine s_reg ?_
 refine qa rfl rfl ?_
 refine Vc.step_end (fun a w ok => ?_)
 first | (refine WPs.run ?_ a w ok; clear ok w a) | skip
 repeat refine s_seqs ?_
 refine s_reg ?_
 refine step_givesP on.sc rfl fun15 rfl (fun w' Z' hh kp hZ hC => tnew_P 4 2 w' hZ) ?_
 rintro u E1 g ⟨cs1, rfl, hs1⟩
 replace on := on.next g
 clear g
 obtain ⟨hl1, ho1⟩ := scv_form hs1
 refine qm rfl rfl ?_
 refine qx rfl rfl rfl ?_
 refine qx rfl rfl rfl ?_
 refine step_alloc rfl zero34 (fun b1 => ?_)
 refine step_store_agg 0 rfl rfl rfl (tm_one ho1) rfl (tmL_len zAc8 hl1) rfl rfl (Nat.le_of_ble_eq_true rfl) (splice_all (tmL_len zAc8 hl1)) ?_
 refine qa rfl rfl ?_
 refine Vc.step_end (fun a w ok => ?_)
 first | (refine WPs.run ?_ a w ok; clear ok w a) | skip
 repeat refine s_seqs ?_
 refine s_reg ?_
 refine step_pure rfl (pure_load_agg (i := 0) (vs := tmL zUt zPa cs1) rfl rfl rfl rfl rfl (by show 0 + 32 ≤ (tmL zUt zPa cs1).length; rw [tmL_len zAc8 hl1]; decide) (load_all (tmL_len zAc8 hl1))) ?_
 refine step_buildSlice rfl rfl rfl rfl elem5 (by decide) (by decide) fillA6 (fun b14 => ?_)
 refine step_mark 0 rfl rfl rfl rfl rfl rfl rfl rfl (by intro h; cases h) (fun E2 g hc => ?_)
 have hv2 := slc_blk0 (l := bsA) (k := 6) rfl (hc _ on.sc)
 replace on := on.next g
 replace hs1 := hs1.mono g.cz
 clear g hc
 refine step_givesP on.sc rfl fun10 rfl (fun w' Z' hh kp hZ hC => feed_P ⟨zUt, zPa, newS 4 2⟩ cs1 bsA _ w' hZ (hs1.mono (Cz.now kp)) (by show 8 ≤ maxLen; omega) (by show 0 ≤ maxLen; omega) zAc8 (hv2.mono (Cz.now kp)) (by decide)) ?_
 rw [hA]
 rintro u E3 g ⟨cs3, rfl, hs3⟩
 replace on := on.next g
 replace hs1 := hs1.mono g.cz
 clear g hv2 hA
 obtain ⟨hl3, ho3⟩ := scv_form hs3
 refine step_alloc rfl zero34 (fun b3 => ?_)
 refine step_store_agg 0 rfl rfl rfl (tm_one ho3) rfl (tmL_len zAc8 hl3) rfl rfl (Nat.le_of_ble_eq_true rfl) (splice_all (tmL_len zAc8 hl3)) ?_
 refine Vc.step_end (fun a w ok => ?_)
 first | (refine WPs.run ?_ a w ok; clear ok w a) | skip
 repeat refine s_seqs ?_
 refine s_reg ?_
 refine step_pure rfl (pure_load_agg (i := 1) (vs := tmL zUt zPa cs1) rfl rfl rfl rfl rfl (by show 0 + 32 ≤ (tmL zUt zPa cs1).length; rw [tmL_len zAc8 hl1]; decide) (load_all (tmL_len zAc8 hl1))) ?_
 refine step_buildSlice rfl rfl rfl rfl elem5 (by decide) (by decide) fillB21 (fun b18 => ?_)
 refine step_mark 0 rfl rfl rfl rfl rfl rfl rfl rfl (by intro h; cases h) (fun E4 g hc => ?_)
 have hv4 := slc_blk0 (l := bsB) (k := 21) rfl (hc _ on.sc)
 replace on := on.next g
 replace hs1 := hs1.mono g.cz
 replace hs3 := hs3.mono g.cz
 clear g hc
 refine step_givesP on.sc rfl fun10 rfl (fun w' Z' hh kp hZ hC => feed_P ⟨zUt, zPa, newS 4 2⟩ cs1 bsB _ w' hZ (hs1.mono (Cz.now kp)) (by show 8 ≤ maxLen; omega) (by show 0 ≤ maxLen; omega) zAc8 (hv4.mono (Cz.now kp)) (by decide)) ?_
 rw [hB]
 rintro u E5 g ⟨cs5, rfl, hs5⟩
 replace on := on.next g
 replace hs3 := hs3.mono g.cz
 clear g hv4 hB hs1
 obtain ⟨hl5, ho5⟩ := scv_form hs5
 refine step_alloc rfl zero34 (fun b4 => ?_)
 refine step_store_agg 0 rfl rfl rfl (tm_one ho5) rfl (tmL_len zAc8 hl5) rfl rfl (Nat.le_of_ble_eq_true rfl) (splice_all (tmL_len zAc8 hl5)) ?_
 refine Vc.step_end (fun a w ok => ?_)
 first | (refine WPs.run ?_ a w ok; clear ok w a) | skip
 repeat refine s_seqs ?_
 refine s_reg ?_
 refine step_givesP on.sc rfl fun15 rfl (fun w' Z' hh kp hZ hC => tnew_P 0 2 w' hZ) ?_
 rintro u E6 g ⟨cs6, rfl, hs6⟩
 replace on := on.next g
 replace hs3 := hs3.mono g.cz
 replace hs5 := hs5.mono g.cz
 clear g
 obtain ⟨hl6, ho6⟩ := scv_form hs6
 refine qm rfl rfl ?_
 refine qx rfl rfl rfl ?_
 refine qx rfl rfl rfl ?_
 refine step_alloc rfl zero34 (fun b5 => ?_)
 refine step_store_agg 0 rfl rfl rfl (tm_one ho6) rfl (tmL_len zAc8 hl6) rfl rfl (Nat.le_of_ble_eq_true rfl) (splice_all (tmL_len zAc8 hl6)) ?_
 refine qa rfl rfl ?_
 refine Vc.step_end (fun a w ok => ?_)
 first | (refine WPs.run ?_ a w ok; clear ok w a) | skip
 clear hs6 hl3 ho3 hl5 ho5 hl6 ho6 hl1 ho1
 obtain ⟨u1, u2, rfl, hca, hma⟩ := hs3
 obtain ⟨u3, u4, rfl, hcb, hmb⟩ := hs5
 obtain ⟨pa, ka, e1, qa0⟩ := slc_ce hca (i := 0) (by decide)
 subst e1
 obtain ⟨p1, k1, e1, qa1⟩ := slc_ce hca (i := 1) (by decide)
 cases e1
 obtain ⟨p1, k1, e1, qa2⟩ := slc_ce hca (i := 2) (by decide)
 cases e1
 obtain ⟨p1, k1, e1, qa4⟩ := slc_ce hca (i := 4) (by decide)
 cases e1
 obtain ⟨p1, k1, e1, qa5⟩ := slc_ce hca (i := 5) (by decide)
 cases e1
 obtain ⟨pb, kb, e1, qb0⟩ := slc_ce hcb (i := 0) (by decide)
 subst e1
 obtain ⟨p1, k1, e1, qb1⟩ := slc_ce hcb (i := 1) (by decide)
 cases e1
 obtain ⟨p1, k1, e1, qb2⟩ := slc_ce hcb (i := 2) (by decide)
 cases e1
 obtain ⟨p1, k1, e1, qb3⟩ := slc_ce hcb (i := 3) (by decide)
 cases e1
 clear hca hma hcb hmb
 repeat refine s_seqs ?_
 refine s_reg ?_
 refine step_pure rfl (pure_fieldAddr rfl rfl rfl rfl rfl (by decide)) ?_
 refine step_pure rfl (pure_fieldAddr rfl rfl rfl rfl rfl (by decide)) ?_
 first | refine step_pure rfl (pure_load (i := 0) rfl rfl rfl rfl rfl rfl) ?_ | refine step_pure rfl (pure_load (i := 1) rfl rfl rfl rfl rfl rfl) ?_ | refine step_pure rfl (pure_load (i := 2) rfl rfl rfl rfl rfl rfl) ?_ | refine step_pure rfl (pure_load (i := 3) rfl rfl rfl rfl rfl rfl) ?_ | refine step_pure rfl (pure_load (i := 4) rfl rfl rfl rfl rfl rfl) ?_ | refine step_pure rfl (pure_load (i := 5) rfl rfl rfl rfl rfl rfl) ?_
 refine step_pure rfl (pure_len_slice rfl rfl rfl) ?_
 refine step_pure rfl (pure_neq rfl rfl) ?_
 refine qm rfl rfl ?_
 first | refine step_pure rfl (pure_fieldAddr rfl rfl rfl rfl rfl (by decide)) ?_ | refine qp rfl rfl rfl ?_
 first | refine step_pure rfl (pure_fieldAddr rfl rfl rfl rfl rfl (by decide)) ?_ | refine qp rfl rfl rfl ?_
 first | refine step_pure rfl (pure_load (i := 0) rfl rfl rfl rfl rfl rfl) ?_ | refine step_pure rfl (pure_load (i := 1) rfl rfl rfl rfl rfl rfl) ?_ | refine step_pure rfl (pure_load (i := 2) rfl rfl rfl rfl rfl rfl) ?_ | refine step_pure rfl (pure_load (i := 3) rfl rfl rfl rfl rfl rfl) ?_ | refine step_pure rfl (pure_load (i := 4) rfl rfl rfl rfl rfl rfl) ?_ | refine step_pure rfl (pure_load (i := 5) rfl rfl rfl rfl rfl rfl) ?_ | refine qp rfl rfl rfl ?_
 first | refine step_pure rfl (pure_len_slice rfl rfl rfl) ?_ | refine qp rfl rfl rfl ?_
 first | refine step_pure rfl (pure_neq rfl rfl) ?_ | refine qp rfl rfl rfl ?_
 first | refine step_pure rfl (pure_pick_yes rfl rfl) ?_ | refine step_pure rfl (pure_pick_no rfl rfl) ?_ | refine step_pure rfl (pure_pick_bool rfl rfl rfl) ?_
 refine Vc.step_end (fun a w ok => ?_)
 first | (refine WPs.run ?_ a w ok; clear ok w a) | skip
 repeat refine s_seqs ?_
 refine s_cond_no rfl rfl ?_
 refine s_skip fun a w ok => WPs.run ?_ a w ok
 clear ok w a
 repeat refine s_seqs ?_
 refine s_reg ?_
 refine step_pure rfl (pure_fieldAddr rfl rfl rfl rfl rfl (by decide)) ?_
 refine step_pure rfl (pure_fieldAddr rfl rfl rfl rfl rfl (by decide)) ?_
 first | refine step_pure rfl (pure_load (i := 0) rfl rfl rfl rfl rfl rfl) ?_ | refine step_pure rfl (pure_load (i := 1) rfl rfl rfl rfl rfl rfl) ?_ | refine step_pure rfl (pure_load (i := 2) rfl rfl rfl rfl rfl rfl) ?_ | refine step_pure rfl (pure_load (i := 3) rfl rfl rfl rfl rfl rfl) ?_ | refine step_pure rfl (pure_load (i := 4) rfl rfl rfl rfl rfl rfl) ?_ | refine step_pure rfl (pure_load (i := 5) rfl rfl rfl rfl rfl rfl) ?_
 refine qa rfl rfl ?_
 refine Vc.step_end (fun a w ok => ?_)
 first | (refine WPs.run ?_ a w ok; clear ok w a) | skip
 repeat refine s_seqs ?_
 refine s_reg ?_
 refine step_pure rfl (pure_fieldAddr rfl rfl rfl rfl rfl (by decide)) ?_
 refine step_pure rfl (pure_fieldAddr rfl rfl rfl rfl rfl (by decide)) ?_
 first | refine step_pure rfl (pure_load (i := 0) rfl rfl rfl rfl rfl rfl) ?_ | refine step_pure rfl (pure_load (i := 1) rfl rfl rfl rfl rfl rfl) ?_ | refine step_pure rfl (pure_load (i := 2) rfl rfl rfl rfl rfl rfl) ?_ | refine step_pure rfl (pure_load (i := 3) rfl rfl rfl rfl rfl rfl) ?_ | refine step_pure rfl (pure_load (i := 4) rfl rfl rfl rfl rfl rfl) ?_ | refine step_pure rfl (pure_load (i := 5) rfl rfl rfl rfl rfl rfl) ?_
 refine qa rfl rfl ?_
 refine Vc.step_end (fun a w ok => ?_)
 first | (refine WPs.run ?_ a w ok; clear ok w a) | skip
 repeat refine s_seqs ?_
 refine s_reg ?_
 refine qm rfl rfl ?_
 refine step_pure rfl (pure_eql rfl rfl) ?_
 refine qm rfl rfl ?_
 first | refine qm rfl rfl ?_ | refine qp rfl rfl rfl ?_
 first | refine step_pure rfl (pure_indexAddr_at rfl rfl rfl rfl rfl (by decide) (by decide)) ?_ | refine qp rfl rfl rfl ?_
 first | refine step_pure rfl (pure_fieldAddr_at rfl rfl rfl rfl rfl (by decide)) ?_ | refine qp rfl rfl rfl ?_
 first | refine step_pure rfl (pure_cel rfl rfl rfl (cellsZ (i := 0) rfl qa0)) ?_ | refine qp rfl rfl rfl ?_
 first | refine step_pure rfl (pure_eql rfl rfl) ?_ | refine qp rfl rfl rfl ?_
 first | refine step_pure rfl (pure_pick_yes rfl rfl) ?_ | refine step_pure rfl (pure_pick_no rfl rfl) ?_ | refine step_pure rfl (pure_pick_bool rfl rfl rfl) ?_
 refine qm rfl rfl ?_
 first | refine qm rfl rfl ?_ | refine qp rfl rfl rfl ?_
 first | refine step_pure rfl (pure_indexAddr_at rfl rfl rfl rfl rfl (by decide) (by decide)) ?_ | refine qp rfl rfl rfl ?_
 first | refine step_pure rfl (pure_fieldAddr_at rfl rfl rfl rfl rfl (by decide)) ?_ | refine qp rfl rfl rfl ?_
 first | refine step_pure rfl (pure_cel rfl rfl rfl (cellsZ (i := 1) rfl qa1)) ?_ | refine qp rfl rfl rfl ?_
 first | refine step_pure rfl (pure_eql rfl rfl) ?_ | refine qp rfl rfl rfl ?_
 first | refine step_pure rfl (pure_pick_yes rfl rfl) ?_ | refine step_pure rfl (pure_pick_no rfl rfl) ?_ | refine step_pure rfl (pure_pick_bool rfl rfl rfl) ?_
 refine qm rfl rfl ?_
 first | refine qm rfl rfl ?_ | refine qp rfl rfl rfl ?_
 first | refine step_pure rfl (pure_indexAddr_at rfl rfl rfl rfl rfl (by decide) (by decide)) ?_ | refine qp rfl rfl rfl ?_
 first | refine step_pure rfl (pure_fieldAddr_at rfl rfl rfl rfl rfl (by decide)) ?_ | refine qp rfl rfl rfl ?_
 first | refine step_pure rfl (pure_cel rfl rfl rfl (cellsZ (i := 2) rfl qa2)) ?_ | refine qp rfl rfl rfl ?_
 first | refine step_pure rfl (pure_eql rfl rfl) ?_ | refine qp rfl rfl rfl ?_
 first | refine step_pure rfl (pure_pick_yes rfl rfl) ?_ | refine step_pure rfl (pure_pick_no rfl rfl) ?_ | refine step_pure rfl (pure_pick_bool rfl rfl rfl) ?_
 refine qm rfl rfl ?_
 first | refine qm rfl rfl ?_ | refine qp rfl rfl rfl ?_
 first | refine step_pure rfl (pure_indexAddr_at rfl rfl rfl rfl rfl (by decide) (by decide)) ?_ | refine qp rfl rfl rfl ?_
 first | refine step_pure rfl (pure_fieldAddr_at rfl rfl rfl rfl rfl (by decide)) ?_ | refine qp rfl rfl rfl ?_
 first | refine step_pure rfl (pure_cel rfl rfl rfl (cellsZ (i := 4) rfl qa4)) ?_ | refine qp rfl rfl rfl ?_
 first | refine step_pure rfl (pure_eql rfl rfl) ?_ | refine qp rfl rfl rfl ?_
 first | refine step_pure rfl (pure_pick_yes rfl rfl) ?_ | refine step_pure rfl (pure_pick_no rfl rfl) ?_ | refine step_pure rfl (pure_pick_bool rfl rfl rfl) ?_
 refine qm rfl rfl ?_
 first | refine qm rfl rfl ?_ | refine qp rfl rfl rfl ?_
 first | refine step_pure rfl (pure_indexAddr_at rfl rfl rfl rfl rfl (by decide) (by decide)) ?_ | refine qp rfl rfl rfl ?_
 first | refine step_pure rfl (pure_fieldAddr_at rfl rfl rfl rfl rfl (by decide)) ?_ | refine qp rfl rfl rfl ?_
 first | refine step_pure rfl (pure_cel rfl rfl rfl (cellsZ (i := 5) rfl qa5)) ?_ | refine qp rfl rfl rfl ?_
 first | refine step_pure rfl (pure_eql rfl rfl) ?_ | refine qp rfl rfl rfl ?_
 first | refine step_pure rfl (pure_pick_yes rfl rfl) ?_ | refine step_pure rfl (pure_pick_no rfl rfl) ?_ | refine step_pure rfl (pure_pick_bool rfl rfl rfl) ?_
 refine qm rfl rfl ?_
 first | refine step_pure rfl (pure_fieldAddr rfl rfl rfl rfl rfl (by decide)) ?_ | refine qp rfl rfl rfl ?_
 first | refine step_pure rfl (pure_fieldAddr rfl rfl rfl rfl rfl (by decide)) ?_ | refine qp rfl rfl rfl ?_
 first | refine step_pure rfl (pure_load (i := 0) rfl rfl rfl rfl rfl rfl) ?_ | refine step_pure rfl (pure_load (i := 1) rfl rfl rfl rfl rfl rfl) ?_ | refine step_pure rfl (pure_load (i := 2) rfl rfl rfl rfl rfl rfl) ?_ | refine step_pure rfl (pure_load (i := 3) rfl rfl rfl rfl rfl rfl) ?_ | refine step_pure rfl (pure_load (i := 4) rfl rfl rfl rfl rfl rfl) ?_ | refine step_pure rfl (pure_load (i := 5) rfl rfl rfl rfl rfl rfl) ?_ | refine qp rfl rfl rfl ?_
 first | refine step_pure rfl (pure_eql rfl rfl) ?_ | refine qp rfl rfl rfl ?_
 first | refine step_pure rfl (pure_pick_yes rfl rfl) ?_ | refine step_pure rfl (pure_pick_no rfl rfl) ?_ | refine step_pure rfl (pure_pick_bool rfl rfl rfl) ?_
 refine qm rfl rfl ?_
 first | refine step_pure rfl (pure_fieldAddr rfl rfl rfl rfl rfl (by decide)) ?_ | refine qp rfl rfl rfl ?_
 first | refine step_pure rfl (pure_fieldAddr rfl rfl rfl rfl rfl (by decide)) ?_ | refine qp rfl rfl rfl ?_
 first | refine step_pure rfl (pure_load (i := 0) rfl rfl rfl rfl rfl rfl) ?_ | refine step_pure rfl (pure_load (i := 1) rfl rfl rfl rfl rfl rfl) ?_ | refine step_pure rfl (pure_load (i := 2) rfl rfl rfl rfl rfl rfl) ?_ | refine step_pure rfl (pure_load (i := 3) rfl rfl rfl rfl rfl rfl) ?_ | refine step_pure rfl (pure_load (i := 4) rfl rfl rfl rfl rfl rfl) ?_ | refine step_pure rfl (pure_load (i := 5) rfl rfl rfl rfl rfl rfl) ?_ | refine qp rfl rfl rfl ?_
 first | refine step_pure rfl (pure_eql rfl rfl) ?_ | refine qp rfl rfl rfl ?_
 first | refine step_pure rfl (pure_pick_yes rfl rfl) ?_ | refine step_pure rfl (pure_pick_no rfl rfl) ?_ | refine step_pure rfl (pure_pick_bool rfl rfl rfl) ?_
 refine qm rfl rfl ?_
 first | refine qm rfl rfl ?_ | refine qp rfl rfl rfl ?_
 first | refine step_pure rfl (pure_indexAddr_at rfl rfl rfl rfl rfl (by decide) (by decide)) ?_ | refine qp rfl rfl rfl ?_
 first | refine step_pure rfl (pure_fieldAddr_at rfl rfl rfl rfl rfl (by decide)) ?_ | refine qp rfl rfl rfl ?_
 first | refine step_pure rfl (pure_cel rfl rfl rfl (cellsZ (i := 0) rfl qb0)) ?_ | refine qp rfl rfl rfl ?_
 first | refine step_pure rfl (pure_eql rfl rfl) ?_ | refine qp rfl rfl rfl ?_
 first | refine step_pure rfl (pure_pick_yes rfl rfl) ?_ | refine step_pure rfl (pure_pick_no rfl rfl) ?_ | refine step_pure rfl (pure_pick_bool rfl rfl rfl) ?_
 refine qm rfl rfl ?_
 first | refine qm rfl rfl ?_ | refine qp rfl rfl rfl ?_
 first | refine step_pure rfl (pure_indexAddr_at rfl rfl rfl rfl rfl (by decide) (by decide)) ?_ | refine qp rfl rfl rfl ?_
 first | refine step_pure rfl (pure_cel_agg (vs := [.int .i64 122, .int .i64 17]) rfl rfl rfl rfl (fun j x hx => (qb1 j x hx).1)) ?_ | refine qp rfl rfl rfl ?_
 first | refine step_pure rfl (pure_build_struct (pl := [(0, 1), (1, 1)]) rfl zero48 rfl rfl rfl rfl) ?_ | refine qp rfl rfl rfl ?_
 first | refine step_pure rfl (pure_eql_ce rfl rfl) ?_ | refine qp rfl rfl rfl ?_
 first | refine step_pure rfl (pure_pick_yes rfl rfl) ?_ | refine step_pure rfl (pure_pick_no rfl rfl) ?_ | refine step_pure rfl (pure_pick_bool rfl rfl rfl) ?_
 refine qm rfl rfl ?_
 first | refine qm rfl rfl ?_ | refine qp rfl rfl rfl ?_
 first | refine step_pure rfl (pure_indexAddr_at rfl rfl rfl rfl rfl (by decide) (by decide)) ?_ | refine qp rfl rfl rfl ?_
 first | refine step_pure rfl (pure_fieldAddr_at rfl rfl rfl rfl rfl (by decide)) ?_ | refine qp rfl rfl rfl ?_
 first | refine step_pure rfl (pure_cel rfl rfl rfl (cellsZ (i := 2) rfl qb2)) ?_ | refine qp rfl rfl rfl ?_
 first | refine step_pure rfl (pure_eql rfl rfl) ?_ | refine qp rfl rfl rfl ?_
 first | refine step_pure rfl (pure_pick_yes rfl rfl) ?_ | refine step_pure rfl (pure_pick_no rfl rfl) ?_ | refine step_pure rfl (pure_pick_bool rfl rfl rfl) ?_
 refine qm rfl rfl ?_
 first | refine qm rfl rfl ?_ | refine qp rfl rfl rfl ?_
 first | refine step_pure rfl (pure_indexAddr_at rfl rfl rfl rfl rfl (by decide) (by decide)) ?_ | refine qp rfl rfl rfl ?_
 first | refine step_pure rfl (pure_fieldAddr_at rfl rfl rfl rfl rfl (by decide)) ?_ | refine qp rfl rfl rfl ?_
 first | refine step_pure rfl (pure_cel rfl rfl rfl (cellsZ (i := 3) rfl qb3)) ?_ | refine qp rfl rfl rfl ?_
 first | refine step_pure rfl (pure_eql rfl rfl) ?_ | refine qp rfl rfl rfl ?_
 first | refine step_pure rfl (pure_pick_yes rfl rfl) ?_ | refine step_pure rfl (pure_pick_no rfl rfl) ?_ | refine step_pure rfl (pure_pick_bool rfl rfl rfl) ?_
 refine qm rfl rfl ?_
 first | refine qm rfl rfl ?_ | refine qp rfl rfl rfl ?_
 first | refine step_pure rfl (pure_eql rfl rfl) ?_ | refine qp rfl rfl rfl ?_
 first | refine step_pure rfl (pure_pick_yes rfl rfl) ?_ | refine step_pure rfl (pure_pick_no rfl rfl) ?_ | refine step_pure rfl (pure_pick_bool rfl rfl rfl) ?_
 refine qa rfl rfl ?_
 refine Vc.step_end (fun a w ok => ?_)
 first | (refine WPs.run ?_ a w ok; clear ok w a) | skip
 exact s_ret fun a w ok => ends_k on (.inr rfl) ok (res_tmp Try.results7 rfl)
end Go.Proofs.Ytadginombcjbeaa
