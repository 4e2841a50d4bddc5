/- What is done with a copy of a screen: walked. -/
import Derived.Test.YtadginombcjbeaaGA
namespace Go.Proofs.Ytadginombcjbeaa
open Go.RowKit Go.Vc
set_option linter.unusedVariables false
set_option maxHeartbeats 1000000 in
theorem cloneC_any (l : List Ce) (v : Value) (w : World) (hv : SlC (At w) 2 v l.length (ceR l)) (hn : l.length ≤ 100000000000) :
  Makes tb 34 [v] w fun u m' => ∃ base cap e, u = .slice base l.length cap ∧ m' = [e] ∧ SlIs uC tC e base l.length cap (ceR l) := by
 obtain ⟨base0, cap0, rfl, hcap, hlen, hc⟩ := id hv
 refine makes_of (fn := Try.f34) Try.func34 rfl Try.ntmps34 rfl ?_
 repeat refine c_seq ?_
 refine c_region ?_
 refine qa rfl rfl ?_
 refine step_hole ?_
 refine step_nil ?_
 repeat refine c_seq ?_
 refine c_region ?_
 refine qm rfl rfl ?_
 refine step_pure rfl (pure_nil_eql rfl rfl rfl rfl) ?_
 refine step_nil ?_
 repeat refine c_seq ?_
 refine c_cond rfl (fun h => ?_) (fun h => ?_)
 ·have h0 : l = [] := by
   cases base0 with
   | some p => cases h
   | none =>
    cases l with
    | nil => rfl
    | cons x l => obtain ⟨p, hp, _⟩ := hc (by rw [ceR_cons]; simp); cases hp
  subst h0
  repeat refine c_seq ?_
  refine c_region ?_
  refine qa rfl rfl ?_
  refine step_nil ?_
  exact c_ret ⟨_, res_tmp Try.results34 rfl, _, List.Sublist.refl _, none, 0, hole, rfl, rfl, sl_nil _ _ (by decide)⟩
 ·refine c_skip ?_
  repeat refine c_seq ?_
  refine c_region ?_
  refine step_buildSlice0 rfl rfl rfl rfl (fun b5 => ?_)
  refine qm rfl rfl ?_
  refine step_append 0 rfl rfl (sl_empty uC tC b5) rfl rfl rfl rfl rfl elem48 rfl (by decide) rfl rfl hlen (src_slc (fun w' hh kp => hv.mono (at_keep kp))) (ceR_one l) (by omega) (by show _ * 16 ≤ _; omega) (fun base' cap' e' hs' => ?_)
  rw [Nat.zero_add, List.nil_append] at hs'
  rw [Nat.zero_add]
  refine qa rfl rfl ?_
  refine step_nil ?_
  exact c_ret ⟨_, res_tmp Try.results34 rfl, [e'], (by repeat (first | exact List.Sublist.refl _ | exact List.nil_sublist _ | apply List.Sublist.cons_cons | apply List.Sublist.cons)), base', cap', e', rfl, rfl, hs'⟩
theorem slis_ce {e : Ent} {base : Option Addr} {l : List Ce} {cap : Nat} (h : SlIs uC tC e base l.length cap (ceR l)) (h0 : 0 < l.length) : ∃ bc tl, e = ⟨bc, ceR l ++ tl, tC⟩ ∧ base = some ⟨bc, 0, none⟩ ∧ (ceR l ++ tl).length = cap * 2 ∧ l.length ≤ cap := by
 have hx := h.xs
 have hs := h.size
 have hle := h.le
 have hc : e.cells ≠ [] := by
  intro h1
  rw [h1] at hs
  simp only [List.length_nil] at hs
  have : uC.size = 2 := rfl
  rw [this] at hs
  omega
 obtain ⟨h1, h2⟩ := h.at_ hc
 have he : e.cells = ceR l ++ e.cells.drop (l.length * uC.size) := by
  conv => lhs; rw [← List.take_append_drop (l.length * uC.size) e.cells]
  rw [hx]
 refine ⟨e.blk, e.cells.drop (l.length * uC.size), ?_, h1, ?_, hle⟩
 ·rw [← he, ← h2]
 ·rw [← he]
  exact hs
def ScR (s : Scr) (u : Value) (C : Addr → Value → Prop) : Prop := ∃ cs, u = .agg cs.toArray ∧ ScV C s cs
theorem scR_mono {s : Scr} : ∀ v (C C' : Addr → Value → Prop), (∀ p x, C p x → C' p x) → ScR s v C → ScR s v C' := by
 rintro v C C' hC ⟨cs, rfl, h⟩
 exact ⟨cs, rfl, h.mono hC⟩
/-- What a closure does that is given to done. -/
def Does (fid : Nat) (caps : List Value) (s : Scr) (f : Scr → Scr) (w : World) (Z : Nat → Prop) : Prop :=
 ∀ (w' : World) (Z' : Nat → Prop) (bs bc n cap : Nat) (v2 : Value) (tl : List Value),
  (∀ p x, (w.cell? p = some x ∧ Z p.block) → w'.cell? p = some x ∧ Z' p.block ∧ p.block ∉ blks (scM bs bc s (v1S bc n cap) v2 tl)) →
  Pre s v2 tl bs bc n cap w' Z' → (ceR s.cells ++ tl).length = cap * 2 → SlC (fun p x => w'.cell? p = some x ∧ Z' p.block ∧ p.block ∉ blks (scM bs bc s (v1S bc n cap) v2 tl)) 2 v2 s.main.length (ceR s.main) →
  Wm tb fid (.pointer (some ⟨bs, 0, none⟩) :: caps) w' Z' (scM bs bc s (v1S bc n cap) v2 tl) (DoR bs (f s))
theorem scC_one (s : Scr) (a1 a2 : Option Addr) (l1 c1 l2 c2 : Nat) : ∀ v ∈ scC s (.slice a1 l1 c1) (.slice a2 l2 c2), v.oneCell' = true := of_one rfl
set_option maxHeartbeats 2000000 in
theorem done_P (s : Scr) (cs : List Value) (f : Scr → Scr) (fid : Nat) (caps : List Value) (w : World) {Z : Nat → Prop} (hZ : ∀ j, w.heap.size ≤ j → Z j) (hs : ScV (At w) s cs) (h1 : s.cells.length ≤ maxLen) (h2 : s.main.length ≤ maxLen)
  (hf : Fun tb fid) (hdo : ScOk s → Does fid caps s f w Z) : GivesP tb 18 [.agg cs.toArray, .func (.func fid) #[] caps.toArray] w Z (ScR (doF f s)) := by
 have hck := fun w' (kp : Keep w w' []) => check_any s cs w' (hs.mono (at_keep kp)) h1 h2
 obtain ⟨v1, v2, rfl, hc, hm⟩ := hs
 obtain ⟨a1, c1, rfl, hl1⟩ := slc_sl hc
 obtain ⟨a2, c2, rfl, hl2⟩ := slc_sl hm
 have hcz : ∀ p x, At w p x → Cz (fun _ => True) ⟨w, [], []⟩ p x := fun p x h => ⟨⟨h, by simp⟩, trivial⟩
 replace hc := hc.mono hcz
 replace hm := hm.mono hcz
 have hfz : ∀ p x, (w.cell? p = some x ∧ Z p.block) → Cz Z ⟨w, [], []⟩ p x := cz_start
 clear hcz
 refine givesP_of (fn := Try.f18) Try.func18 rfl Try.ntmps18 rfl hZ scR_mono (fun on => ?_)
 unfold ckE at hck
 unfold doF
 cases hok : scOk s with
 | false =>
  rw [hok, if_neg (by decide)] at hck
  repeat refine s_seqs ?_
  refine s_reg ?_
  refine step_box_agg rfl rfl (fun b2 => ?_)
  refine step_alloc rfl zero32 (fun b4 => ?_)
  refine Vc.step_end (fun a w ok => ?_)
  first | (refine WPs.run ?_ a w ok; clear ok w a) | skip
  repeat refine s_seqs ?_
  refine s_reg ?_
  first | refine step_pure rfl (pure_load_agg (i := 0) rfl rfl rfl rfl rfl (by first | decide | exact Nat.le_of_ble_eq_true rfl) rfl) ?_ | refine step_pure rfl (pure_load_agg (i := 1) rfl rfl rfl rfl rfl (by first | decide | exact Nat.le_of_ble_eq_true rfl) rfl) ?_ | refine step_pure rfl (pure_load_agg (i := 2) rfl rfl rfl rfl rfl (by first | decide | exact Nat.le_of_ble_eq_true rfl) rfl) ?_ | refine step_pure rfl (pure_load_agg (i := 3) rfl rfl rfl rfl rfl (by first | decide | exact Nat.le_of_ble_eq_true rfl) rfl) ?_ | refine step_pure rfl (pure_load_agg (i := 4) rfl rfl rfl rfl rfl (by first | decide | exact Nat.le_of_ble_eq_true rfl) rfl) ?_ | refine step_pure rfl (pure_load_agg (i := 5) rfl rfl rfl rfl rfl (by first | decide | exact Nat.le_of_ble_eq_true rfl) rfl) ?_
  refine step_gives rfl fun8 rfl (fun w' hh kp => hck w' kp) ?_
  refine step_pure rfl (pure_neq rfl rfl) ?_
  refine Vc.step_end (fun a w ok => ?_)
  first | (refine WPs.run ?_ a w ok; clear ok w a) | skip
  repeat refine s_seqs ?_
  refine s_cond_yes rfl rfl ?_
  repeat refine s_seqs ?_
  refine s_reg ?_
  refine step_pure rfl (pure_build_struct (pl := [(0, 1), (1, 1), (2, 1), (3, 1), (4, 1), (5, 1), (6, 1), (7, 1), (8, 1), (9, 1), (10, 1), (11, 1), (12, 3), (15, 1)]) rfl zero32 rfl rfl rfl rfl) ?_
  refine step_store_agg 0 rfl rfl rfl (of_one rfl) rfl rfl rfl rfl (Nat.le_of_ble_eq_true rfl) (show _ = scC zScr (.slice none 0 0) (.slice none 0 0) from rfl) ?_
  refine Vc.step_end (fun a w ok => ?_)
  first | (refine WPs.run ?_ a w ok; clear ok w a) | skip
  exact s_ret fun a w ok => ends_givesP on (.inr rfl) ok (res_cell_agg (i := 0) Try.results18 rfl rfl rfl rfl rfl (Nat.le_of_ble_eq_true rfl) rfl) scR_mono ⟨_, rfl, zSc_v⟩
 | true =>
  have hoks := (scOk_iff s).1 hok
  replace hdo := hdo hoks
  obtain ⟨W, q, hw, hq, hw1, hw2, hq1, hq2, hl, hle⟩ := wh_nat hoks
  have hpos := cells_pos hoks
  have hml : s.main.length ≤ 4096 := by
   have := okCells_len hoks.main
   split at this
   ·rw [hw, hq, mulN] at this; omega
   ·omega
  rw [hok, if_pos rfl] at hck
  repeat refine s_seqs ?_
  refine s_reg ?_
  refine step_box_agg rfl rfl (fun b2 => ?_)
  refine step_alloc rfl zero32 (fun b4 => ?_)
  refine Vc.step_end (fun a w ok => ?_)
  first | (refine WPs.run ?_ a w ok; clear ok w a) | skip
  repeat refine s_seqs ?_
  refine s_reg ?_
  first | refine step_pure rfl (pure_load_agg (i := 0) rfl rfl rfl rfl rfl (by first | decide | exact Nat.le_of_ble_eq_true rfl) rfl) ?_ | refine step_pure rfl (pure_load_agg (i := 1) rfl rfl rfl rfl rfl (by first | decide | exact Nat.le_of_ble_eq_true rfl) rfl) ?_ | refine step_pure rfl (pure_load_agg (i := 2) rfl rfl rfl rfl rfl (by first | decide | exact Nat.le_of_ble_eq_true rfl) rfl) ?_ | refine step_pure rfl (pure_load_agg (i := 3) rfl rfl rfl rfl rfl (by first | decide | exact Nat.le_of_ble_eq_true rfl) rfl) ?_ | refine step_pure rfl (pure_load_agg (i := 4) rfl rfl rfl rfl rfl (by first | decide | exact Nat.le_of_ble_eq_true rfl) rfl) ?_ | refine step_pure rfl (pure_load_agg (i := 5) rfl rfl rfl rfl rfl (by first | decide | exact Nat.le_of_ble_eq_true rfl) rfl) ?_
  refine step_gives rfl fun8 rfl (fun w' hh kp => hck w' kp) ?_
  refine step_pure rfl (pure_neq rfl rfl) ?_
  refine Vc.step_end (fun a w ok => ?_)
  first | (refine WPs.run ?_ a w ok; clear ok w a) | skip
  repeat refine s_seqs ?_
  refine s_cond_no rfl rfl ?_
  refine s_skip fun a w ok => WPs.run ?_ a w ok
  clear ok w a
  clear hck
  repeat refine s_seqs ?_
  refine s_reg ?_
  refine step_pure rfl (pure_fieldAddr rfl rfl rfl rfl rfl (by decide)) ?_
  first | refine step_pure rfl (pure_load (i := 0) rfl rfl rfl rfl rfl rfl) ?_ | refine step_pure rfl (pure_load (i := 1) rfl rfl rfl rfl rfl rfl) ?_ | refine step_pure rfl (pure_load (i := 2) rfl rfl rfl rfl rfl rfl) ?_ | refine step_pure rfl (pure_load (i := 3) rfl rfl rfl rfl rfl rfl) ?_ | refine step_pure rfl (pure_load (i := 4) rfl rfl rfl rfl rfl rfl) ?_ | refine step_pure rfl (pure_load (i := 5) rfl rfl rfl rfl rfl rfl) ?_
  refine step_makes rfl fun34 rfl (fun w' hh kp => cloneC_any s.cells _ w' (hc.mono (Cz.now kp)) (by omega)) ?_
  rintro u m1 ⟨base, cap, e, rfl, rfl, hse⟩
  obtain ⟨bc, tl, rfl, rfl, htl, hcap⟩ := slis_ce hse hpos
  clear hse
  refine step_pure rfl (pure_fieldAddr rfl rfl rfl rfl rfl (by decide)) ?_
  refine step_store 2 rfl rfl rfl rfl rfl rfl rfl rfl (Nat.le_of_ble_eq_true rfl) (show _ = scC s (.slice (some ⟨bc, 0, none⟩) s.cells.length cap) (.slice a2 s.main.length c2) from rfl) ?_
  refine Vc.step_end (fun a w ok => ?_)
  first | (refine WPs.run ?_ a w ok; clear ok w a) | skip
  repeat refine s_seqs ?_
  refine s_reg ?_
  refine step_pure rfl (pure_fieldAddr rfl rfl rfl rfl rfl (by decide)) ?_
  first | refine step_pure rfl (pure_load (i := 0) rfl rfl rfl rfl rfl rfl) ?_ | refine step_pure rfl (pure_load (i := 1) rfl rfl rfl rfl rfl rfl) ?_ | refine step_pure rfl (pure_load (i := 2) rfl rfl rfl rfl rfl rfl) ?_ | refine step_pure rfl (pure_load (i := 3) rfl rfl rfl rfl rfl rfl) ?_ | refine step_pure rfl (pure_load (i := 4) rfl rfl rfl rfl rfl rfl) ?_ | refine step_pure rfl (pure_load (i := 5) rfl rfl rfl rfl rfl rfl) ?_
  refine step_hole ?_
  refine step_append 0 rfl rfl (sl_nil uC tC (by decide)) rfl rfl rfl rfl rfl elem48 rfl (by decide) rfl rfl (ceR_len _) (src_slc (fun w' hh kp => hm.mono (Cz.now kp))) (ceR_one s.main) (by omega) (by show _ * 16 ≤ _; omega) (fun base' cap' e' hs' => ?_)
  rw [Nat.zero_add, List.nil_append] at hs'
  rw [Nat.zero_add]
  refine l_let 0 rfl (fun E2 g hcc => ?_)
  have hm2 := slis_cz hs' (hcc _ on.sc)
  replace on := on.next g
  have hfz2 := fun p x h => g.cz p x (hfz p x h)
  clear g hcc hs' hc hm hfz
  refine step_pure rfl (pure_fieldAddr rfl rfl rfl rfl rfl (by decide)) ?_
  refine step_store 2 rfl rfl rfl rfl rfl rfl rfl rfl (Nat.le_of_ble_eq_true rfl) (show _ = scC s (.slice (some ⟨bc, 0, none⟩) s.cells.length cap) (.slice base' s.main.length cap') from rfl) ?_
  refine Vc.step_end (fun a w ok => ?_)
  first | (refine WPs.run ?_ a w ok; clear ok w a) | skip
  repeat refine s_seqs ?_
  refine s_reg ?_
  refine qm rfl rfl ?_
  refine step_wmc (caps := caps) (scM b2 bc s (v1S bc s.cells.length cap) (.slice base' s.main.length cap') tl) [_] on.sc rfl rfl hf rfl rfl (List.Perm.trans (List.Perm.cons _ (List.Perm.swap ..)) (List.Perm.swap ..)) (fun w' Z' hh kp h0 hZ' hZ0 hC => hdo w' Z' b2 bc s.cells.length cap _ tl (fun p x h => hC p x (hfz2 p x h)) ⟨hoks, h0, hZ', hZ0, rfl, hcap⟩ htl (hm2.mono hC)) ?_
  rintro u m1 E3 g ⟨rfl, b7, c7, v7, e7, rfl, hse, hm7⟩
  replace on := on.next g
  clear g hm2 hfz2
  obtain ⟨a7, k7, rfl, _⟩ := slc_sl hm7
  refine Vc.step_end (fun a w ok => ?_)
  first | (refine WPs.run ?_ a w ok; clear ok w a) | skip
  repeat refine s_seqs ?_
  refine s_reg ?_
  first | refine step_pure rfl (pure_load_agg (i := 0) rfl rfl rfl rfl rfl (by first | decide | exact Nat.le_of_ble_eq_true rfl) rfl) ?_ | refine step_pure rfl (pure_load_agg (i := 1) rfl rfl rfl rfl rfl (by first | decide | exact Nat.le_of_ble_eq_true rfl) rfl) ?_ | refine step_pure rfl (pure_load_agg (i := 2) rfl rfl rfl rfl rfl (by first | decide | exact Nat.le_of_ble_eq_true rfl) rfl) ?_ | refine step_pure rfl (pure_load_agg (i := 3) rfl rfl rfl rfl rfl (by first | decide | exact Nat.le_of_ble_eq_true rfl) rfl) ?_ | refine step_pure rfl (pure_load_agg (i := 4) rfl rfl rfl rfl rfl (by first | decide | exact Nat.le_of_ble_eq_true rfl) rfl) ?_ | refine step_pure rfl (pure_load_agg (i := 5) rfl rfl rfl rfl rfl (by first | decide | exact Nat.le_of_ble_eq_true rfl) rfl) ?_
  refine step_store_agg 2 rfl rfl rfl (scC_one (f s) b7 a7 (f s).cells.length c7 (f s).main.length k7) rfl rfl rfl rfl (Nat.le_of_ble_eq_true rfl) (show _ = scC (f s) (.slice b7 (f s).cells.length c7) (.slice a7 (f s).main.length k7) from rfl) ?_
  refine Vc.step_end (fun a w ok => ?_)
  first | (refine WPs.run ?_ a w ok; clear ok w a) | skip
  refine s_let 1 rfl (fun E5 g hcc => ?_)
  exact s_ret fun a w ok => ends_givesP (on.next g) (.inr rfl) ok (res_cell_agg (i := 1) Try.results18 rfl rfl rfl rfl rfl (Nat.le_of_ble_eq_true rfl) rfl) scR_mono ⟨_, rfl, _, _, rfl, slis_cz hse (hcc _ on.sc), hm7.mono g.cz⟩
end Go.Proofs.Ytadginombcjbeaa
