/- Put and Resize: walked. -/
import Derived.Test.YtbcpgdjhomoghaaG15
namespace Go.Proofs.Ytbcpgdjhomoghaa
open Go.RowKit Go.Vc
set_option linter.unusedVariables false
set_option maxHeartbeats 1000000 in
theorem put_P (s : Scr) (cs : List Value) (x : Int) (w : World) {Z : Nat → Prop} (hZ : ∀ j, w.heap.size ≤ j → Z j) (hs : ScV (At w) s cs) (h1 : s.cells.length ≤ maxLen) (h2 : s.main.length ≤ maxLen) :
  GivesP tb 9 [.agg cs.toArray, .int .i64 x] w Z (ScR (doF (putF x) s)) := by
 replace hs := scv_cz hs
 obtain ⟨hcl, hco⟩ := scv_form hs
 obtain ⟨a1, l1, c1, a2, l2, c2, rfl⟩ := scv_agg hs
 refine givesP_of (fn := Try.f9) Try.func9 rfl Try.ntmps9 rfl hZ scR_mono (fun on => ?_)
 rw [show putF x = fun s => setF (putN x) (preF s) from rfl]
 repeat refine s_seqs ?_
 refine s_reg ?_
 refine step_box_agg rfl rfl (fun b2 => ?_)
 refine step_box rfl rfl rfl (fun b3 => ?_)
 refine step_alloc rfl zero27 (fun b4 => ?_)
 refine Vc.step_end (fun a w ok => ?_)
 first | (refine WPs.run ?_ a w ok; clear ok w a) | skip
 repeat refine s_seqs ?_
 refine s_reg ?_
 first | refine step_pure rfl (pure_load (i := 0) rfl rfl rfl rfl rfl rfl) ?_ | refine step_pure rfl (pure_load (i := 1) rfl rfl rfl rfl rfl rfl) ?_ | refine step_pure rfl (pure_load (i := 2) rfl rfl rfl rfl rfl rfl) ?_ | refine step_pure rfl (pure_load (i := 3) rfl rfl rfl rfl rfl rfl) ?_ | refine step_pure rfl (pure_load (i := 4) rfl rfl rfl rfl rfl rfl) ?_ | refine step_pure rfl (pure_load (i := 5) rfl rfl rfl rfl rfl rfl) ?_
 refine step_gives rfl fun25 rfl (fun w _ _ => within_any _ _ _ w) ?_
 refine step_pure rfl (pure_not rfl) ?_
 refine Vc.step_end (fun a w ok => ?_)
 first | (refine WPs.run ?_ a w ok; clear ok w a) | skip
 repeat refine s_seqs ?_
 refine s_meet [(2, .pointer (some ⟨b2, 0, none⟩)), (3, .pointer (some ⟨b3, 0, none⟩)), (4, .pointer (some ⟨b4, 0, none⟩))] [⟨b4, scC zScr (.slice none 0 0) (.slice none 0 0), tSc⟩, ⟨b3, [.int .i64 (putN x)], 3⟩, ⟨b2, scC s (.slice a1 l1 c1) (.slice a2 l2 c2), tSc⟩] ?_ (fun a w ok => WPs.run ?_ a w ok)
 ·unfold putN
  repeat refine c_seq ?_
  refine c_cond rfl (fun h => ?_) (fun h => ?_)
  ·rw [if_neg (show ¬(32 ≤ x ∧ x ≤ 1114111) from fun hx => by rw [decide_eq_true hx] at h; cases h)]
   repeat refine c_seq ?_
   refine c_region ?_
   refine step_store 1 rfl rfl rfl rfl rfl rfl rfl rfl (Nat.le_of_ble_eq_true rfl) rfl ?_
   refine step_nil ?_
   exact less_of ⟨rfl, rfl, rfl, trivial⟩ rfl
  ·rw [if_pos (show 32 ≤ x ∧ x ≤ 1114111 from Decidable.byContradiction fun hx => by rw [decide_eq_false hx] at h; cases h)]
   refine c_skip ?_
   exact less_of ⟨rfl, rfl, rfl, trivial⟩ rfl
 generalize putN x = y at *
 refine s_let 1 rfl (fun E0 g0 hc0 => ?_)
 replace hc0 := hc0 _ on.sc 0 _ rfl
 replace on := on.next g0
 replace hs := hs.mono g0.cz
 clear g0
 repeat refine s_seqs ?_
 refine s_reg ?_
 first | refine step_pure rfl (pure_load_agg (i := 0) rfl rfl rfl rfl rfl (by first | decide | exact Nat.le_of_ble_eq_true rfl) rfl) ?_ | refine step_pure rfl (pure_load_agg (i := 1) rfl rfl rfl rfl rfl (by first | decide | exact Nat.le_of_ble_eq_true rfl) rfl) ?_ | refine step_pure rfl (pure_load_agg (i := 2) rfl rfl rfl rfl rfl (by first | decide | exact Nat.le_of_ble_eq_true rfl) rfl) ?_ | refine step_pure rfl (pure_load_agg (i := 3) rfl rfl rfl rfl rfl (by first | decide | exact Nat.le_of_ble_eq_true rfl) rfl) ?_ | refine step_pure rfl (pure_load_agg (i := 4) rfl rfl rfl rfl rfl (by first | decide | exact Nat.le_of_ble_eq_true rfl) rfl) ?_ | refine step_pure rfl (pure_load_agg (i := 5) rfl rfl rfl rfl rfl (by first | decide | exact Nat.le_of_ble_eq_true rfl) rfl) ?_
 refine step_pure rfl (pure_makeFunc rfl) ?_
 refine step_givesP on.sc rfl fun28 rfl (fun w' Z' hh kp hZ hC => done_P s _ (fun s => setF y (preF s)) 29 [.pointer (some ⟨b3, 0, none⟩)] w' hZ (hs.mono (Cz.now kp)) h1 h2 fun29 (fun hok => does_sr (kp_put hok y) (fun w2 Z2 bs bc n cap v2 tl hC2 hP => put1_W hP b3 y (hC2 _ _ (hC _ _ hc0))))) ?_
 rintro v E5 g ⟨cs', rfl, hs'⟩
 replace on := on.next g
 obtain ⟨hl5, ho5⟩ := scv_form hs'
 refine step_store_agg 0 rfl rfl rfl ho5 rfl hl5 rfl rfl (Nat.le_of_ble_eq_true rfl) (splice_all hl5) ?_
 refine Vc.step_end (fun a w ok => ?_)
 first | (refine WPs.run ?_ a w ok; clear ok w a) | skip
 exact s_ret fun a w ok => ends_givesP on (.inr rfl) ok (res_cell_agg (i := 0) Try.results9 rfl rfl rfl rfl rfl (by show 0 + 16 ≤ cs'.length; omega) (by show (cs'.drop 0).take 16 = cs'; rw [List.drop_zero]; exact List.take_of_length_le (by omega))) scR_mono ⟨cs', rfl, hs'⟩
def rsE (s : Scr) (W H : Int) : Int := if (scOk s && !(side W && side H)) = true then 170 else 0
def RsR (W H : Int) (s : Scr) (u : Value) (C : Addr → Value → Prop) : Prop := ∃ cs, u = .tuple #[.agg cs.toArray, .int .i64 (rsE s W H)] ∧ ScV C (doF (resizeF W H) s) cs
theorem rsR_mono {W H : Int} {s : Scr} : ∀ v (C C' : Addr → Value → Prop), (∀ p x, C p x → C' p x) → RsR W H s v C → RsR W H s v C' := by
 rintro v C C' hC ⟨cs, rfl, h⟩
 exact ⟨cs, rfl, h.mono hC⟩
set_option maxHeartbeats 2000000 in
theorem resize_P (s : Scr) (cs : List Value) (W H : Int) (w : World) {Z : Nat → Prop} (hZ : ∀ j, w.heap.size ≤ j → Z j) (hs : ScV (At w) s cs) (h1 : s.cells.length ≤ maxLen) (h2 : s.main.length ≤ maxLen) :
  GivesP tb 13 [.agg cs.toArray, .int .i64 W, .int .i64 H] w Z (RsR W H s) := by
 have hck := fun w' (kp : Keep w w' []) => check_any s cs w' (hs.mono (at_keep kp)) h1 h2
 have hwi : ∀ n w, Gives tb 25 [.int .i64 n, .int .i64 1, .int .i64 64] w (.bool (side n)) := fun n w => within_any n 1 64 w
 replace hs := scv_cz hs
 obtain ⟨hcl, hco⟩ := scv_form hs
 obtain ⟨a1, l1, c1, a2, l2, c2, rfl⟩ := scv_agg hs
 refine givesP_of (fn := Try.f13) Try.func13 rfl Try.ntmps13 rfl hZ rsR_mono (fun on => ?_)
 repeat refine s_seqs ?_
 refine s_reg ?_
 refine step_box_agg rfl rfl (fun b3 => ?_)
 refine step_box rfl rfl rfl (fun b4 => ?_)
 refine step_box rfl rfl rfl (fun b5 => ?_)
 refine step_alloc rfl zero27 (fun b6 => ?_)
 refine qa rfl rfl ?_
 refine Vc.step_end (fun a w ok => ?_)
 first | (refine WPs.run ?_ a w ok; clear ok w a) | skip
 repeat refine s_seqs ?_
 refine s_reg ?_
 refine step_alloc rfl zero28 (fun b8 => ?_)
 first | refine step_store 0 rfl rfl rfl rfl rfl rfl rfl rfl (by first | decide | exact Nat.le_of_ble_eq_true rfl) rfl ?_ | refine step_store 1 rfl rfl rfl rfl rfl rfl rfl rfl (by first | decide | exact Nat.le_of_ble_eq_true rfl) rfl ?_ | refine step_store 2 rfl rfl rfl rfl rfl rfl rfl rfl (by first | decide | exact Nat.le_of_ble_eq_true rfl) rfl ?_ | refine step_store 3 rfl rfl rfl rfl rfl rfl rfl rfl (by first | decide | exact Nat.le_of_ble_eq_true rfl) rfl ?_ | refine step_store 4 rfl rfl rfl rfl rfl rfl rfl rfl (by first | decide | exact Nat.le_of_ble_eq_true rfl) rfl ?_ | refine step_store 5 rfl rfl rfl rfl rfl rfl rfl rfl (by first | decide | exact Nat.le_of_ble_eq_true rfl) rfl ?_
 refine Vc.step_end (fun a w ok => ?_)
 first | (refine WPs.run ?_ a w ok; clear ok w a) | skip
 repeat refine s_seqs ?_
 refine s_meet [(3, .pointer (some ⟨b3, 0, none⟩)), (4, .pointer (some ⟨b4, 0, none⟩)), (5, .pointer (some ⟨b5, 0, none⟩)), (6, .pointer (some ⟨b6, 0, none⟩)), (8, .pointer (some ⟨b8, 0, none⟩)), (21, .bool (scOk s && !(side W && side H)))]
  [⟨b8, [.int .i64 0], 28⟩, ⟨b6, scC zScr (.slice none 0 0) (.slice none 0 0), tSc⟩, ⟨b5, [.int .i64 H], 3⟩, ⟨b4, [.int .i64 W], 3⟩, ⟨b3, scC s (.slice a1 l1 c1) (.slice a2 l2 c2), tSc⟩] ?_ (fun a w ok => WPs.run ?_ a w ok)
 ·unfold ckE at hck
  cases hok : scOk s with
  | false =>
   rw [hok, if_neg (by decide)] at hck
   repeat refine c_seq ?_
   refine c_region ?_
   first | refine step_pure rfl (pure_load_agg (i := 0) rfl rfl rfl rfl rfl (by first | decide | exact Nat.le_of_ble_eq_true rfl) rfl) ?_ | refine step_pure rfl (pure_load_agg (i := 1) rfl rfl rfl rfl rfl (by first | decide | exact Nat.le_of_ble_eq_true rfl) rfl) ?_ | refine step_pure rfl (pure_load_agg (i := 2) rfl rfl rfl rfl rfl (by first | decide | exact Nat.le_of_ble_eq_true rfl) rfl) ?_ | refine step_pure rfl (pure_load_agg (i := 3) rfl rfl rfl rfl rfl (by first | decide | exact Nat.le_of_ble_eq_true rfl) rfl) ?_ | refine step_pure rfl (pure_load_agg (i := 4) rfl rfl rfl rfl rfl (by first | decide | exact Nat.le_of_ble_eq_true rfl) rfl) ?_ | refine step_pure rfl (pure_load_agg (i := 5) rfl rfl rfl rfl rfl (by first | decide | exact Nat.le_of_ble_eq_true rfl) rfl) ?_
   refine step_gives rfl fun11 rfl (fun w' hh kp => hck w' kp) ?_
   refine step_pure rfl (pure_eql rfl rfl) ?_
   refine qm rfl rfl ?_
   refine qp rfl rfl rfl ?_
   refine qp rfl rfl rfl ?_
   refine qp rfl rfl rfl ?_
   refine qp rfl rfl rfl ?_
   refine qp rfl rfl rfl ?_
   refine qp rfl rfl rfl ?_
   refine qp rfl rfl rfl ?_
   refine qp rfl rfl rfl ?_
   refine step_pure rfl (pure_pick_no rfl rfl) ?_
   refine step_nil ?_
   exact less_of ⟨rfl, rfl, rfl, rfl, rfl, rfl, trivial⟩ rfl
  | true =>
   rw [hok, if_pos rfl] at hck
   repeat refine c_seq ?_
   refine c_region ?_
   first | refine step_pure rfl (pure_load_agg (i := 0) rfl rfl rfl rfl rfl (by first | decide | exact Nat.le_of_ble_eq_true rfl) rfl) ?_ | refine step_pure rfl (pure_load_agg (i := 1) rfl rfl rfl rfl rfl (by first | decide | exact Nat.le_of_ble_eq_true rfl) rfl) ?_ | refine step_pure rfl (pure_load_agg (i := 2) rfl rfl rfl rfl rfl (by first | decide | exact Nat.le_of_ble_eq_true rfl) rfl) ?_ | refine step_pure rfl (pure_load_agg (i := 3) rfl rfl rfl rfl rfl (by first | decide | exact Nat.le_of_ble_eq_true rfl) rfl) ?_ | refine step_pure rfl (pure_load_agg (i := 4) rfl rfl rfl rfl rfl (by first | decide | exact Nat.le_of_ble_eq_true rfl) rfl) ?_ | refine step_pure rfl (pure_load_agg (i := 5) rfl rfl rfl rfl rfl (by first | decide | exact Nat.le_of_ble_eq_true rfl) rfl) ?_
   refine step_gives rfl fun11 rfl (fun w' hh kp => hck w' kp) ?_
   refine step_pure rfl (pure_eql rfl rfl) ?_
   refine qm rfl rfl ?_
   first | refine step_pure rfl (pure_load (i := 0) rfl rfl rfl rfl rfl rfl) ?_ | refine step_pure rfl (pure_load (i := 1) rfl rfl rfl rfl rfl rfl) ?_ | refine step_pure rfl (pure_load (i := 2) rfl rfl rfl rfl rfl rfl) ?_ | refine step_pure rfl (pure_load (i := 3) rfl rfl rfl rfl rfl rfl) ?_ | refine step_pure rfl (pure_load (i := 4) rfl rfl rfl rfl rfl rfl) ?_ | refine step_pure rfl (pure_load (i := 5) rfl rfl rfl rfl rfl rfl) ?_
   refine step_gives rfl fun25 rfl (fun w _ _ => hwi _ w) ?_
   refine step_pure rfl (pure_not rfl) ?_
   refine qm rfl rfl ?_
   refine step_split (t := 16) rfl (fun h16 => ?_) (fun h16 => ?_)
   ·refine qp rfl rfl rfl ?_
    refine qp rfl rfl rfl ?_
    refine qp rfl rfl rfl ?_
    refine step_pure rfl (pure_pick_yes rfl rfl) ?_
    refine step_pure rfl (pure_pick_yes rfl rfl) ?_
    refine step_nil ?_
    refine less_of ⟨rfl, rfl, rfl, rfl, rfl, ?_, trivial⟩ rfl
    refine congrArg some (congrArg Value.bool ?_)
    simp_all
   ·first | refine step_pure rfl (pure_load (i := 0) rfl rfl rfl rfl rfl rfl) ?_ | refine step_pure rfl (pure_load (i := 1) rfl rfl rfl rfl rfl rfl) ?_ | refine step_pure rfl (pure_load (i := 2) rfl rfl rfl rfl rfl rfl) ?_ | refine step_pure rfl (pure_load (i := 3) rfl rfl rfl rfl rfl rfl) ?_ | refine step_pure rfl (pure_load (i := 4) rfl rfl rfl rfl rfl rfl) ?_ | refine step_pure rfl (pure_load (i := 5) rfl rfl rfl rfl rfl rfl) ?_
    refine step_gives rfl fun25 rfl (fun w _ _ => hwi _ w) ?_
    refine step_pure rfl (pure_not rfl) ?_
    refine step_pure rfl (pure_pick_no rfl rfl) ?_
    refine step_pure rfl (pure_pick_yes rfl rfl) ?_
    refine step_nil ?_
    refine less_of ⟨rfl, rfl, rfl, rfl, rfl, ?_, trivial⟩ rfl
    refine congrArg some (congrArg Value.bool ?_)
    simp_all
 repeat refine s_seqs ?_
 refine s_meet [(3, .pointer (some ⟨b3, 0, none⟩)), (4, .pointer (some ⟨b4, 0, none⟩)), (5, .pointer (some ⟨b5, 0, none⟩)), (6, .pointer (some ⟨b6, 0, none⟩)), (8, .pointer (some ⟨b8, 0, none⟩))]
  [⟨b8, [.int .i64 (rsE s W H)], 28⟩, ⟨b6, scC zScr (.slice none 0 0) (.slice none 0 0), tSc⟩, ⟨b5, [.int .i64 H], 3⟩, ⟨b4, [.int .i64 W], 3⟩, ⟨b3, scC s (.slice a1 l1 c1) (.slice a2 l2 c2), tSc⟩] ?_ (fun a w ok => WPs.run ?_ a w ok)
 ·unfold rsE
  repeat refine c_seq ?_
  refine c_cond rfl (fun h => ?_) (fun h => ?_)
  ·rw [if_pos h]
   repeat refine c_seq ?_
   refine c_region ?_
   refine step_store 0 rfl rfl rfl rfl rfl rfl rfl rfl (Nat.le_of_ble_eq_true rfl) rfl ?_
   refine step_nil ?_
   exact less_of ⟨rfl, rfl, rfl, rfl, rfl, trivial⟩ rfl
  ·rw [if_neg (by rw [h]; decide)]
   refine c_skip ?_
   exact less_of ⟨rfl, rfl, rfl, rfl, rfl, trivial⟩ rfl
 clear hck hwi
 refine s_let 3 rfl (fun E0 g0 hc0 => ?_)
 replace hc0 := hc0 _ on.sc 0 _ rfl
 replace on := on.next g0
 replace hs := hs.mono g0.cz
 clear g0
 refine s_let 2 rfl (fun E1 g1 hc1 => ?_)
 replace hc1 := hc1 _ on.sc 0 _ rfl
 replace on := on.next g1
 replace hs := hs.mono g1.cz
 replace hc0 := g1.cz _ _ hc0
 clear g1
 refine s_let 0 rfl (fun E2 g2 hc2 => ?_)
 replace hc2 := hc2 _ on.sc 0 _ rfl
 replace on := on.next g2
 replace hs := hs.mono g2.cz
 replace hc0 := g2.cz _ _ hc0
 replace hc1 := g2.cz _ _ hc1
 clear g2
 have hre : scOk s = true → rsE s W H = if (side W && side H) = true then 0 else 170 := by
  intro h
  unfold rsE
  rw [h, Bool.true_and]
  cases side W && side H <;> rfl
 repeat refine s_seqs ?_
 refine s_dreg [3, 9, 25, 20, 36, 41] ([⟨b6, scC zScr (.slice none 0 0) (.slice none 0 0), tSc⟩, ⟨b3, scC s (.slice a1 l1 c1) (.slice a2 l2 c2), tSc⟩]) follows (by kernel_rfl) ?_
 first | refine d_pure1 rfl rfl rfl (pure_load_agg (i := 0) rfl rfl rfl rfl rfl (by first | decide | exact Nat.le_of_ble_eq_true rfl) rfl) (by first | exact SubMem.refl _ | exact (SubMem.refl _).cons | exact (SubMem.refl _).cons.cons | exact (SubMem.refl _).cons.cons.cons | exact (SubMem.refl _).cons.cons.cons.cons | exact (fun w hh => Has.sublist (by repeat (first | exact List.Sublist.refl _ | exact List.nil_sublist _ | apply List.Sublist.cons_cons | apply List.Sublist.cons)) hh)) ?_ | refine d_pure1 rfl rfl rfl (pure_load_agg (i := 1) rfl rfl rfl rfl rfl (by first | decide | exact Nat.le_of_ble_eq_true rfl) rfl) (by first | exact SubMem.refl _ | exact (SubMem.refl _).cons | exact (SubMem.refl _).cons.cons | exact (SubMem.refl _).cons.cons.cons | exact (SubMem.refl _).cons.cons.cons.cons | exact (fun w hh => Has.sublist (by repeat (first | exact List.Sublist.refl _ | exact List.nil_sublist _ | apply List.Sublist.cons_cons | apply List.Sublist.cons)) hh)) ?_ | refine d_pure1 rfl rfl rfl (pure_load_agg (i := 2) rfl rfl rfl rfl rfl (by first | decide | exact Nat.le_of_ble_eq_true rfl) rfl) (by first | exact SubMem.refl _ | exact (SubMem.refl _).cons | exact (SubMem.refl _).cons.cons | exact (SubMem.refl _).cons.cons.cons | exact (SubMem.refl _).cons.cons.cons.cons | exact (fun w hh => Has.sublist (by repeat (first | exact List.Sublist.refl _ | exact List.nil_sublist _ | apply List.Sublist.cons_cons | apply List.Sublist.cons)) hh)) ?_ | refine d_pure1 rfl rfl rfl (pure_load_agg (i := 3) rfl rfl rfl rfl rfl (by first | decide | exact Nat.le_of_ble_eq_true rfl) rfl) (by first | exact SubMem.refl _ | exact (SubMem.refl _).cons | exact (SubMem.refl _).cons.cons | exact (SubMem.refl _).cons.cons.cons | exact (SubMem.refl _).cons.cons.cons.cons | exact (fun w hh => Has.sublist (by repeat (first | exact List.Sublist.refl _ | exact List.nil_sublist _ | apply List.Sublist.cons_cons | apply List.Sublist.cons)) hh)) ?_ | refine d_pure1 rfl rfl rfl (pure_load_agg (i := 4) rfl rfl rfl rfl rfl (by first | decide | exact Nat.le_of_ble_eq_true rfl) rfl) (by first | exact SubMem.refl _ | exact (SubMem.refl _).cons | exact (SubMem.refl _).cons.cons | exact (SubMem.refl _).cons.cons.cons | exact (SubMem.refl _).cons.cons.cons.cons | exact (fun w hh => Has.sublist (by repeat (first | exact List.Sublist.refl _ | exact List.nil_sublist _ | apply List.Sublist.cons_cons | apply List.Sublist.cons)) hh)) ?_ | refine d_pure1 rfl rfl rfl (pure_load_agg (i := 5) rfl rfl rfl rfl rfl (by first | decide | exact Nat.le_of_ble_eq_true rfl) rfl) (by first | exact SubMem.refl _ | exact (SubMem.refl _).cons | exact (SubMem.refl _).cons.cons | exact (SubMem.refl _).cons.cons.cons | exact (SubMem.refl _).cons.cons.cons.cons | exact (fun w hh => Has.sublist (by repeat (first | exact List.Sublist.refl _ | exact List.nil_sublist _ | apply List.Sublist.cons_cons | apply List.Sublist.cons)) hh)) ?_
 refine d_pure0 rfl rfl rfl (pure_makeFunc rfl) ?_
 refine d_pure0 rfl rfl rfl (pure_cel rfl rfl rfl hc2.1) ?_
 refine d_givesP on.sc rfl rfl rfl fun28 rfl (fun w' Z' hh kp hZ hC => done_P s _ (resizeF W H) 34 [.pointer (some ⟨b8, 0, none⟩), .pointer (some ⟨b4, 0, none⟩), .pointer (some ⟨b5, 0, none⟩)] w' hZ (hs.mono (Cz.now kp)) h1 h2 fun34 (fun hok w2 Z2 bs bc n cap v2 tl hC2 hP htl hm => resize1_W hP htl b8 b4 b5 W H (by rw [← hre ((scOk_iff s).2 hok)]; exact hC2 _ _ (hC _ _ hc2)) (hC2 _ _ (hC _ _ hc0)) (hC2 _ _ (hC _ _ hc1)) hm)) rfl ?_
 rintro v E5 g ⟨cs', rfl, hs'⟩
 replace on := on.next g
 obtain ⟨hl5, ho5⟩ := scv_form hs'
 refine d_store_agg 0 rfl rfl rfl rfl rfl ho5 rfl hl5 rfl rfl (Nat.le_of_ble_eq_true rfl) (splice_all hl5) rfl rfl ?_
 refine d_pure0 rfl rfl rfl (pure_assign rfl) ?_
 refine d_end (fun a w ok => ?_)
 first | (refine WPs.run ?_ a w ok; clear ok w a) | skip
 exact s_ret fun a w ok => ends_givesP on (.inr rfl) ok (res_cell_tmp (i := 0) Try.results13 rfl rfl rfl rfl rfl (by show 0 + 16 ≤ cs'.length; omega) (by show (cs'.drop 0).take 16 = cs'; rw [List.drop_zero]; exact List.take_of_length_le (by omega)) rfl) rsR_mono ⟨cs', rfl, hs'⟩
end Go.Proofs.Ytbcpgdjhomoghaa
