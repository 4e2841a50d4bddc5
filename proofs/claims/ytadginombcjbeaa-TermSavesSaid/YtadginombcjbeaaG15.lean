/- What a screen can be told to do: walked. -/
import Derived.Test.YtadginombcjbeaaG14
namespace Go.Proofs.Ytadginombcjbeaa
open Go.RowKit Go.Vc
set_option linter.unusedVariables false
theorem wm_keeps {B : Tb} {f : FuncId} {vs : List Value} {w : World} {Z : Nat → Prop} {m0 : Mem} {R : Value → Mem → (Addr → Value → Prop) → Prop} (P0 : (Addr → Value → Prop) → Prop) (h : Wm B f vs w Z m0 R)
  (mono0 : ∀ (C C' : Addr → Value → Prop), (∀ p x, C p x → C' p x) → P0 C → P0 C') (h0 : P0 (fun p x => w.cell? p = some x ∧ Z p.block ∧ p.block ∉ blks m0)) : Wm B f vs w Z m0 (fun v m1 C => R v m1 C ∧ P0 C) := by
 refine ⟨fun v m1 C C' hC hR => ⟨h.mono v m1 C C' hC hR.1, mono0 C C' hC hR.2⟩, h.calls.mono ?_⟩
 rintro e w' ⟨v, m1, rfl, h1, h2, h3, h4⟩
 refine ⟨v, m1, rfl, h1, h2, h3, h4, mono0 _ _ (fun p x hp => ⟨cell_keep hp.1 h3 hp.2.2, hp.2.1, fun hb => ?_⟩) h0⟩
 have hlt := cell_lt hp.1
 rcases own_at h2 hb with h5 | h5
 ·have h5 : w.heap.size ≤ p.block := h5
  omega
 ·exact hp.2.2 h5
/-- What keeps a screen's main cells and the number of its cells. -/
structure Kp (s s' : Scr) : Prop where
 main : s'.main = s.main
 len : s'.cells.length = s.cells.length
theorem does_sr {fid : Nat} {caps : List Value} {s : Scr} {f : Scr → Scr} {w : World} {Z : Nat → Prop} (hk : Kp s (f s))
  (h : ∀ (w' : World) (Z' : Nat → Prop) (bs bc n cap : Nat) (v2 : Value) (tl : List Value),
   (∀ p x, (w.cell? p = some x ∧ Z p.block) → w'.cell? p = some x ∧ Z' p.block ∧ p.block ∉ blks (scM bs bc s (v1S bc n cap) v2 tl)) →
   Pre s v2 tl bs bc n cap w' Z' → Wm tb fid (.pointer (some ⟨bs, 0, none⟩) :: caps) w' Z' (scM bs bc s (v1S bc n cap) v2 tl) (SrR bs bc (v1S bc n cap) v2 tl (f s))) : Does fid caps s f w Z := by
 intro w' Z' bs bc n cap v2 tl hC hP htl hm
 refine (wm_keeps (fun C => SlC C 2 v2 s.main.length (ceR s.main)) (h w' Z' bs bc n cap v2 tl hC hP) (fun C C' hC h => h.mono hC) hm).weaken doR_mono ?_
 rintro v m1 C ⟨⟨rfl, rfl⟩, h2⟩
 have hn := hP.hn
 refine ⟨rfl, some ⟨bc, 0, none⟩, cap, v2, ⟨bc, ceR (f s).cells ++ tl, tC⟩, by rw [hk.len, hn], ?_, by rw [hk.main]; exact h2⟩
 refine sl_cells _ tl bc cap ?_
 rw [List.length_append, ceR_len, hk.len]
 rw [List.length_append, ceR_len] at htl
 exact htl
theorem kp_refl (s : Scr) : Kp s s := ⟨rfl, rfl⟩
theorem kp_scroll {s : Scr} {a b N : Int} (h : ScOk s) (hab : 0 ≤ a ∧ a ≤ b ∧ b < s.H) : Kp s (scrollF s a b N) := ⟨rfl, scrollF_len h hab⟩
theorem kp_move (s : Scr) (x y : Int) : Kp s (moveF x y s) := ⟨rfl, rfl⟩
theorem kp_down {s : Scr} (h : ScOk s) : Kp s (downF s) := by
 refine ⟨?_, downF_cells h⟩
 unfold downF
 split
 ·rfl
 ·split <;> rfl
theorem kp_up {s : Scr} (h : ScOk s) : Kp s (upF s) := by
 unfold upF
 split
 ·exact ⟨rfl, scrollF_len h h.rows⟩
 ·split <;> exact ⟨rfl, rfl⟩
theorem kp_lines {s : Scr} (h : ScOk s) (N : Int) : Kp s (linesF N s) := by
 unfold linesF
 split
 ·rename_i h1
  exact kp_scroll h ⟨h.y.1, h1.2, h.rows.2.2⟩
 ·exact kp_refl s
theorem kp_of {s s' : Scr} (h : ScOk s) (h' : ScOk s') (hm : s'.main = s.main) (hW : s'.W = s.W) (hH : s'.H = s.H) : Kp s s' := by
 have h1 := okCells_len h.cells
 have h2 := okCells_len h'.cells
 rw [hW, hH] at h2
 exact ⟨hm, by omega⟩
theorem kp_chars {s : Scr} (h : ScOk s) (N : Int) : Kp s (charsF N s) := kp_of h (charsF_ok h N) rfl rfl rfl
theorem kp_erase {s : Scr} (h : ScOk s) (f t : Int) : Kp s (eraseF f t s) := kp_of h (eraseF_ok h f t) rfl rfl rfl
theorem kp_put {s : Scr} (h : ScOk s) (N : Int) : Kp s (setF N (preF s)) := by
 refine ⟨?_, by show ((preF s).cells.set _ _).length = _; rw [List.length_set, preF_len h]⟩
 show (preF s).main = s.main
 unfold preF
 split
 ·exact (kp_down (x0_ok h)).main
 ·rfl
theorem scv_cz {w : World} {s : Scr} {cs : List Value} (h : ScV (At w) s cs) : ScV (Cz (fun _ => True) ⟨w, [], []⟩) s cs := h.mono fun p x h => ⟨⟨h, by simp⟩, trivial⟩
theorem scv_form {C : Addr → Value → Prop} {s : Scr} {cs : List Value} (h : ScV C s cs) : cs.length = 16 ∧ ∀ v ∈ cs, v.oneCell' = true := by
 obtain ⟨v1, v2, rfl, h1, h2⟩ := h
 obtain ⟨a1, c1, rfl, _⟩ := slc_sl h1
 obtain ⟨a2, c2, rfl, _⟩ := slc_sl h2
 exact ⟨rfl, scC_one s a1 a2 _ c1 _ c2⟩
theorem scv_agg {C : Addr → Value → Prop} {s : Scr} {cs : List Value} (h : ScV C s cs) : ∃ a1 l1 c1 a2 l2 c2, cs = scC s (.slice a1 l1 c1) (.slice a2 l2 c2) := by
 obtain ⟨v1, v2, rfl, h1, h2⟩ := h
 obtain ⟨a1, c1, rfl, _⟩ := slc_sl h1
 obtain ⟨a2, c2, rfl, _⟩ := slc_sl h2
 exact ⟨a1, _, c1, a2, _, c2, rfl⟩
set_option maxHeartbeats 1000000 in
theorem move_P (s : Scr) (cs : List Value) (x : Int) (y : Int) (w : World) {Z : Nat → Prop} (hZ : ∀ j, w.heap.size ≤ j → Z j) (hs : ScV (At w) s cs) (h1 : s.cells.length ≤ maxLen) (h2 : s.main.length ≤ maxLen) :
  GivesP tb 14 [.agg cs.toArray, .int .i64 x, .int .i64 y] w Z (ScR (doF (moveF x y) s)) := by
 replace hs := scv_cz hs
 obtain ⟨hcl, hco⟩ := scv_form hs
 obtain ⟨a1, l1, c1, a2, l2, c2, rfl⟩ := scv_agg hs
 refine givesP_of (fn := Try.f14) Try.func14 rfl Try.ntmps14 rfl hZ scR_mono (fun on => ?_)
 repeat refine s_seqs ?_
 refine s_reg ?_
 refine step_box_agg rfl rfl (fun b3 => ?_)
 refine step_box rfl rfl rfl (fun b4 => ?_)
 refine step_box rfl rfl rfl (fun b5 => ?_)
 refine step_alloc rfl zero32 (fun b6 => ?_)
 refine Vc.step_end (fun a w ok => ?_)
 first | (refine WPs.run ?_ a w ok; clear ok w a) | skip
 refine s_let 1 rfl (fun E1 g1 hc1 => ?_)
 replace hc1 := hc1 _ on.sc 0 _ rfl
 replace on := on.next g1
 replace hs := hs.mono g1.cz
 clear g1
 refine s_let 1 rfl (fun E0 g0 hc0 => ?_)
 replace hc0 := hc0 _ on.sc 0 _ rfl
 replace on := on.next g0
 replace hs := hs.mono g0.cz
 replace hc1 := g0.cz _ _ hc1
 clear g0
 repeat refine s_seqs ?_
 refine s_reg ?_
 first | refine step_pure rfl (pure_load_agg (i := 0) rfl rfl rfl rfl rfl (by first | decide | exact Nat.le_of_ble_eq_true rfl) rfl) ?_ | refine step_pure rfl (pure_load_agg (i := 1) rfl rfl rfl rfl rfl (by first | decide | exact Nat.le_of_ble_eq_true rfl) rfl) ?_ | refine step_pure rfl (pure_load_agg (i := 2) rfl rfl rfl rfl rfl (by first | decide | exact Nat.le_of_ble_eq_true rfl) rfl) ?_ | refine step_pure rfl (pure_load_agg (i := 3) rfl rfl rfl rfl rfl (by first | decide | exact Nat.le_of_ble_eq_true rfl) rfl) ?_ | refine step_pure rfl (pure_load_agg (i := 4) rfl rfl rfl rfl rfl (by first | decide | exact Nat.le_of_ble_eq_true rfl) rfl) ?_ | refine step_pure rfl (pure_load_agg (i := 5) rfl rfl rfl rfl rfl (by first | decide | exact Nat.le_of_ble_eq_true rfl) rfl) ?_
 refine step_pure rfl (pure_makeFunc rfl) ?_
 refine step_givesP on.sc rfl fun18 rfl (fun w' Z' hh kp hZ hC => done_P s _ (moveF x y) 29 [.pointer (some ⟨b4, 0, none⟩), .pointer (some ⟨b5, 0, none⟩)] w' hZ (hs.mono (Cz.now kp)) h1 h2 fun29 (fun hok => does_sr (kp_move s x y) (fun w2 Z2 bs bc n cap v2 tl hC2 hP => move1_W hP b4 b5 x y (hC2 _ _ (hC _ _ hc0)) (hC2 _ _ (hC _ _ hc1))))) ?_
 rintro v E5 g ⟨cs', rfl, hs'⟩
 replace on := on.next g
 obtain ⟨hl5, ho5⟩ := scv_form hs'
 refine step_store_agg 0 rfl rfl rfl ho5 rfl hl5 rfl rfl (Nat.le_of_ble_eq_true rfl) (splice_all hl5) ?_
 refine Vc.step_end (fun a w ok => ?_)
 first | (refine WPs.run ?_ a w ok; clear ok w a) | skip
 exact s_ret fun a w ok => ends_givesP on (.inr rfl) ok (res_cell_agg (i := 0) Try.results14 rfl rfl rfl rfl rfl (by show 0 + 16 ≤ cs'.length; omega) (by show (cs'.drop 0).take 16 = cs'; rw [List.drop_zero]; exact List.take_of_length_le (by omega))) scR_mono ⟨cs', rfl, hs'⟩
set_option maxHeartbeats 1000000 in
theorem down_P (s : Scr) (cs : List Value) (w : World) {Z : Nat → Prop} (hZ : ∀ j, w.heap.size ≤ j → Z j) (hs : ScV (At w) s cs) (h1 : s.cells.length ≤ maxLen) (h2 : s.main.length ≤ maxLen) :
  GivesP tb 39 [.agg cs.toArray] w Z (ScR (doF downF s)) := by
 replace hs := scv_cz hs
 obtain ⟨hcl, hco⟩ := scv_form hs
 obtain ⟨a1, l1, c1, a2, l2, c2, rfl⟩ := scv_agg hs
 refine givesP_of (fn := Try.f39) Try.func39 rfl Try.ntmps39 rfl hZ scR_mono (fun on => ?_)
 repeat refine s_seqs ?_
 refine s_reg ?_
 refine step_box_agg rfl rfl (fun b1 => ?_)
 refine step_alloc rfl zero32 (fun b2 => ?_)
 refine Vc.step_end (fun a w ok => ?_)
 first | (refine WPs.run ?_ a w ok; clear ok w a) | skip
 repeat refine s_seqs ?_
 refine s_reg ?_
 first | refine step_pure rfl (pure_load_agg (i := 0) rfl rfl rfl rfl rfl (by first | decide | exact Nat.le_of_ble_eq_true rfl) rfl) ?_ | refine step_pure rfl (pure_load_agg (i := 1) rfl rfl rfl rfl rfl (by first | decide | exact Nat.le_of_ble_eq_true rfl) rfl) ?_ | refine step_pure rfl (pure_load_agg (i := 2) rfl rfl rfl rfl rfl (by first | decide | exact Nat.le_of_ble_eq_true rfl) rfl) ?_ | refine step_pure rfl (pure_load_agg (i := 3) rfl rfl rfl rfl rfl (by first | decide | exact Nat.le_of_ble_eq_true rfl) rfl) ?_ | refine step_pure rfl (pure_load_agg (i := 4) rfl rfl rfl rfl rfl (by first | decide | exact Nat.le_of_ble_eq_true rfl) rfl) ?_ | refine step_pure rfl (pure_load_agg (i := 5) rfl rfl rfl rfl rfl (by first | decide | exact Nat.le_of_ble_eq_true rfl) rfl) ?_
 refine step_givesP on.sc rfl fun18 rfl (fun w' Z' hh kp hZ hC => done_P s _ downF 38 [] w' hZ (hs.mono (Cz.now kp)) h1 h2 fun38 (fun hok => does_sr (kp_down hok) (fun w2 Z2 bs bc n cap v2 tl hC2 hP => down_W hP))) ?_
 rintro v E5 g ⟨cs', rfl, hs'⟩
 replace on := on.next g
 obtain ⟨hl5, ho5⟩ := scv_form hs'
 refine step_store_agg 0 rfl rfl rfl ho5 rfl hl5 rfl rfl (Nat.le_of_ble_eq_true rfl) (splice_all hl5) ?_
 refine Vc.step_end (fun a w ok => ?_)
 first | (refine WPs.run ?_ a w ok; clear ok w a) | skip
 exact s_ret fun a w ok => ends_givesP on (.inr rfl) ok (res_cell_agg (i := 0) Try.results39 rfl rfl rfl rfl rfl (by show 0 + 16 ≤ cs'.length; omega) (by show (cs'.drop 0).take 16 = cs'; rw [List.drop_zero]; exact List.take_of_length_le (by omega))) scR_mono ⟨cs', rfl, hs'⟩
set_option maxHeartbeats 1000000 in
theorem up_P (s : Scr) (cs : List Value) (w : World) {Z : Nat → Prop} (hZ : ∀ j, w.heap.size ≤ j → Z j) (hs : ScV (At w) s cs) (h1 : s.cells.length ≤ maxLen) (h2 : s.main.length ≤ maxLen) :
  GivesP tb 40 [.agg cs.toArray] w Z (ScR (doF upF s)) := by
 replace hs := scv_cz hs
 obtain ⟨hcl, hco⟩ := scv_form hs
 obtain ⟨a1, l1, c1, a2, l2, c2, rfl⟩ := scv_agg hs
 refine givesP_of (fn := Try.f40) Try.func40 rfl Try.ntmps40 rfl hZ scR_mono (fun on => ?_)
 repeat refine s_seqs ?_
 refine s_reg ?_
 refine step_box_agg rfl rfl (fun b1 => ?_)
 refine step_alloc rfl zero32 (fun b2 => ?_)
 refine Vc.step_end (fun a w ok => ?_)
 first | (refine WPs.run ?_ a w ok; clear ok w a) | skip
 repeat refine s_seqs ?_
 refine s_reg ?_
 first | refine step_pure rfl (pure_load_agg (i := 0) rfl rfl rfl rfl rfl (by first | decide | exact Nat.le_of_ble_eq_true rfl) rfl) ?_ | refine step_pure rfl (pure_load_agg (i := 1) rfl rfl rfl rfl rfl (by first | decide | exact Nat.le_of_ble_eq_true rfl) rfl) ?_ | refine step_pure rfl (pure_load_agg (i := 2) rfl rfl rfl rfl rfl (by first | decide | exact Nat.le_of_ble_eq_true rfl) rfl) ?_ | refine step_pure rfl (pure_load_agg (i := 3) rfl rfl rfl rfl rfl (by first | decide | exact Nat.le_of_ble_eq_true rfl) rfl) ?_ | refine step_pure rfl (pure_load_agg (i := 4) rfl rfl rfl rfl rfl (by first | decide | exact Nat.le_of_ble_eq_true rfl) rfl) ?_ | refine step_pure rfl (pure_load_agg (i := 5) rfl rfl rfl rfl rfl (by first | decide | exact Nat.le_of_ble_eq_true rfl) rfl) ?_
 refine step_givesP on.sc rfl fun18 rfl (fun w' Z' hh kp hZ hC => done_P s _ upF 75 [] w' hZ (hs.mono (Cz.now kp)) h1 h2 fun75 (fun hok => does_sr (kp_up hok) (fun w2 Z2 bs bc n cap v2 tl hC2 hP => up1_W hP))) ?_
 rintro v E5 g ⟨cs', rfl, hs'⟩
 replace on := on.next g
 obtain ⟨hl5, ho5⟩ := scv_form hs'
 refine step_store_agg 0 rfl rfl rfl ho5 rfl hl5 rfl rfl (Nat.le_of_ble_eq_true rfl) (splice_all hl5) ?_
 refine Vc.step_end (fun a w ok => ?_)
 first | (refine WPs.run ?_ a w ok; clear ok w a) | skip
 exact s_ret fun a w ok => ends_givesP on (.inr rfl) ok (res_cell_agg (i := 0) Try.results40 rfl rfl rfl rfl rfl (by show 0 + 16 ≤ cs'.length; omega) (by show (cs'.drop 0).take 16 = cs'; rw [List.drop_zero]; exact List.take_of_length_le (by omega))) scR_mono ⟨cs', rfl, hs'⟩
set_option maxHeartbeats 1000000 in
theorem copy_P (s : Scr) (cs : List Value) (w : World) {Z : Nat → Prop} (hZ : ∀ j, w.heap.size ≤ j → Z j) (hs : ScV (At w) s cs) (h1 : s.cells.length ≤ maxLen) (h2 : s.main.length ≤ maxLen) :
  GivesP tb 9 [.agg cs.toArray] w Z (ScR (doF id s)) := by
 replace hs := scv_cz hs
 obtain ⟨hcl, hco⟩ := scv_form hs
 obtain ⟨a1, l1, c1, a2, l2, c2, rfl⟩ := scv_agg hs
 refine givesP_of (fn := Try.f9) Try.func9 rfl Try.ntmps9 rfl hZ scR_mono (fun on => ?_)
 repeat refine s_seqs ?_
 refine s_reg ?_
 refine step_box_agg rfl rfl (fun b1 => ?_)
 refine step_alloc rfl zero32 (fun b2 => ?_)
 refine Vc.step_end (fun a w ok => ?_)
 first | (refine WPs.run ?_ a w ok; clear ok w a) | skip
 repeat refine s_seqs ?_
 refine s_reg ?_
 first | refine step_pure rfl (pure_load_agg (i := 0) rfl rfl rfl rfl rfl (by first | decide | exact Nat.le_of_ble_eq_true rfl) rfl) ?_ | refine step_pure rfl (pure_load_agg (i := 1) rfl rfl rfl rfl rfl (by first | decide | exact Nat.le_of_ble_eq_true rfl) rfl) ?_ | refine step_pure rfl (pure_load_agg (i := 2) rfl rfl rfl rfl rfl (by first | decide | exact Nat.le_of_ble_eq_true rfl) rfl) ?_ | refine step_pure rfl (pure_load_agg (i := 3) rfl rfl rfl rfl rfl (by first | decide | exact Nat.le_of_ble_eq_true rfl) rfl) ?_ | refine step_pure rfl (pure_load_agg (i := 4) rfl rfl rfl rfl rfl (by first | decide | exact Nat.le_of_ble_eq_true rfl) rfl) ?_ | refine step_pure rfl (pure_load_agg (i := 5) rfl rfl rfl rfl rfl (by first | decide | exact Nat.le_of_ble_eq_true rfl) rfl) ?_
 refine step_givesP on.sc rfl fun18 rfl (fun w' Z' hh kp hZ hC => done_P s _ id 19 [] w' hZ (hs.mono (Cz.now kp)) h1 h2 fun19 (fun hok => does_sr (kp_refl s) (fun w2 Z2 bs bc n cap v2 tl hC2 hP => copy1_W hP))) ?_
 rintro v E5 g ⟨cs', rfl, hs'⟩
 replace on := on.next g
 obtain ⟨hl5, ho5⟩ := scv_form hs'
 refine step_store_agg 0 rfl rfl rfl ho5 rfl hl5 rfl rfl (Nat.le_of_ble_eq_true rfl) (splice_all hl5) ?_
 refine Vc.step_end (fun a w ok => ?_)
 first | (refine WPs.run ?_ a w ok; clear ok w a) | skip
 exact s_ret fun a w ok => ends_givesP on (.inr rfl) ok (res_cell_agg (i := 0) Try.results9 rfl rfl rfl rfl rfl (by show 0 + 16 ≤ cs'.length; omega) (by show (cs'.drop 0).take 16 = cs'; rw [List.drop_zero]; exact List.take_of_length_le (by omega))) scR_mono ⟨cs', rfl, hs'⟩
set_option maxHeartbeats 1000000 in
theorem scroll_P (s : Scr) (cs : List Value) (x : Int) (w : World) {Z : Nat → Prop} (hZ : ∀ j, w.heap.size ≤ j → Z j) (hs : ScV (At w) s cs) (h1 : s.cells.length ≤ maxLen) (h2 : s.main.length ≤ maxLen) :
  GivesP tb 82 [.agg cs.toArray, .int .i64 x] w Z (ScR (doF (fun s => scrollF s s.top s.bot x) s)) := by
 replace hs := scv_cz hs
 obtain ⟨hcl, hco⟩ := scv_form hs
 obtain ⟨a1, l1, c1, a2, l2, c2, rfl⟩ := scv_agg hs
 refine givesP_of (fn := Try.f82) Try.func82 rfl Try.ntmps82 rfl hZ scR_mono (fun on => ?_)
 repeat refine s_seqs ?_
 refine s_reg ?_
 refine step_box_agg rfl rfl (fun b2 => ?_)
 refine step_box rfl rfl rfl (fun b3 => ?_)
 refine step_alloc rfl zero32 (fun b4 => ?_)
 refine Vc.step_end (fun a w ok => ?_)
 first | (refine WPs.run ?_ a w ok; clear ok w a) | skip
 refine s_let 1 rfl (fun E0 g0 hc0 => ?_)
 replace hc0 := hc0 _ on.sc 0 _ rfl
 replace on := on.next g0
 replace hs := hs.mono g0.cz
 clear g0
 repeat refine s_seqs ?_
 refine s_reg ?_
 first | refine step_pure rfl (pure_load_agg (i := 0) rfl rfl rfl rfl rfl (by first | decide | exact Nat.le_of_ble_eq_true rfl) rfl) ?_ | refine step_pure rfl (pure_load_agg (i := 1) rfl rfl rfl rfl rfl (by first | decide | exact Nat.le_of_ble_eq_true rfl) rfl) ?_ | refine step_pure rfl (pure_load_agg (i := 2) rfl rfl rfl rfl rfl (by first | decide | exact Nat.le_of_ble_eq_true rfl) rfl) ?_ | refine step_pure rfl (pure_load_agg (i := 3) rfl rfl rfl rfl rfl (by first | decide | exact Nat.le_of_ble_eq_true rfl) rfl) ?_ | refine step_pure rfl (pure_load_agg (i := 4) rfl rfl rfl rfl rfl (by first | decide | exact Nat.le_of_ble_eq_true rfl) rfl) ?_ | refine step_pure rfl (pure_load_agg (i := 5) rfl rfl rfl rfl rfl (by first | decide | exact Nat.le_of_ble_eq_true rfl) rfl) ?_
 refine step_pure rfl (pure_makeFunc rfl) ?_
 refine step_givesP on.sc rfl fun18 rfl (fun w' Z' hh kp hZ hC => done_P s _ (fun s => scrollF s s.top s.bot x) 91 [.pointer (some ⟨b3, 0, none⟩)] w' hZ (hs.mono (Cz.now kp)) h1 h2 fun91 (fun hok => does_sr (kp_scroll hok hok.rows) (fun w2 Z2 bs bc n cap v2 tl hC2 hP => scroll1_W hP b3 x (hC2 _ _ (hC _ _ hc0))))) ?_
 rintro v E5 g ⟨cs', rfl, hs'⟩
 replace on := on.next g
 obtain ⟨hl5, ho5⟩ := scv_form hs'
 refine step_store_agg 0 rfl rfl rfl ho5 rfl hl5 rfl rfl (Nat.le_of_ble_eq_true rfl) (splice_all hl5) ?_
 refine Vc.step_end (fun a w ok => ?_)
 first | (refine WPs.run ?_ a w ok; clear ok w a) | skip
 exact s_ret fun a w ok => ends_givesP on (.inr rfl) ok (res_cell_agg (i := 0) Try.results82 rfl rfl rfl rfl rfl (by show 0 + 16 ≤ cs'.length; omega) (by show (cs'.drop 0).take 16 = cs'; rw [List.drop_zero]; exact List.take_of_length_le (by omega))) scR_mono ⟨cs', rfl, hs'⟩
set_option maxHeartbeats 1000000 in
theorem lines_P (s : Scr) (cs : List Value) (x : Int) (w : World) {Z : Nat → Prop} (hZ : ∀ j, w.heap.size ≤ j → Z j) (hs : ScV (At w) s cs) (h1 : s.cells.length ≤ maxLen) (h2 : s.main.length ≤ maxLen) :
  GivesP tb 80 [.agg cs.toArray, .int .i64 x] w Z (ScR (doF (linesF x) s)) := by
 replace hs := scv_cz hs
 obtain ⟨hcl, hco⟩ := scv_form hs
 obtain ⟨a1, l1, c1, a2, l2, c2, rfl⟩ := scv_agg hs
 refine givesP_of (fn := Try.f80) Try.func80 rfl Try.ntmps80 rfl hZ scR_mono (fun on => ?_)
 repeat refine s_seqs ?_
 refine s_reg ?_
 refine step_box_agg rfl rfl (fun b2 => ?_)
 refine step_box rfl rfl rfl (fun b3 => ?_)
 refine step_alloc rfl zero32 (fun b4 => ?_)
 refine Vc.step_end (fun a w ok => ?_)
 first | (refine WPs.run ?_ a w ok; clear ok w a) | skip
 refine s_let 1 rfl (fun E0 g0 hc0 => ?_)
 replace hc0 := hc0 _ on.sc 0 _ rfl
 replace on := on.next g0
 replace hs := hs.mono g0.cz
 clear g0
 repeat refine s_seqs ?_
 refine s_reg ?_
 first | refine step_pure rfl (pure_load_agg (i := 0) rfl rfl rfl rfl rfl (by first | decide | exact Nat.le_of_ble_eq_true rfl) rfl) ?_ | refine step_pure rfl (pure_load_agg (i := 1) rfl rfl rfl rfl rfl (by first | decide | exact Nat.le_of_ble_eq_true rfl) rfl) ?_ | refine step_pure rfl (pure_load_agg (i := 2) rfl rfl rfl rfl rfl (by first | decide | exact Nat.le_of_ble_eq_true rfl) rfl) ?_ | refine step_pure rfl (pure_load_agg (i := 3) rfl rfl rfl rfl rfl (by first | decide | exact Nat.le_of_ble_eq_true rfl) rfl) ?_ | refine step_pure rfl (pure_load_agg (i := 4) rfl rfl rfl rfl rfl (by first | decide | exact Nat.le_of_ble_eq_true rfl) rfl) ?_ | refine step_pure rfl (pure_load_agg (i := 5) rfl rfl rfl rfl rfl (by first | decide | exact Nat.le_of_ble_eq_true rfl) rfl) ?_
 refine step_pure rfl (pure_makeFunc rfl) ?_
 refine step_givesP on.sc rfl fun18 rfl (fun w' Z' hh kp hZ hC => done_P s _ (linesF x) 89 [.pointer (some ⟨b3, 0, none⟩)] w' hZ (hs.mono (Cz.now kp)) h1 h2 fun89 (fun hok => does_sr (kp_lines hok x) (fun w2 Z2 bs bc n cap v2 tl hC2 hP => lines1_W hP b3 x (hC2 _ _ (hC _ _ hc0))))) ?_
 rintro v E5 g ⟨cs', rfl, hs'⟩
 replace on := on.next g
 obtain ⟨hl5, ho5⟩ := scv_form hs'
 refine step_store_agg 0 rfl rfl rfl ho5 rfl hl5 rfl rfl (Nat.le_of_ble_eq_true rfl) (splice_all hl5) ?_
 refine Vc.step_end (fun a w ok => ?_)
 first | (refine WPs.run ?_ a w ok; clear ok w a) | skip
 exact s_ret fun a w ok => ends_givesP on (.inr rfl) ok (res_cell_agg (i := 0) Try.results80 rfl rfl rfl rfl rfl (by show 0 + 16 ≤ cs'.length; omega) (by show (cs'.drop 0).take 16 = cs'; rw [List.drop_zero]; exact List.take_of_length_le (by omega))) scR_mono ⟨cs', rfl, hs'⟩
set_option maxHeartbeats 1000000 in
theorem chars_P (s : Scr) (cs : List Value) (x : Int) (w : World) {Z : Nat → Prop} (hZ : ∀ j, w.heap.size ≤ j → Z j) (hs : ScV (At w) s cs) (h1 : s.cells.length ≤ maxLen) (h2 : s.main.length ≤ maxLen) :
  GivesP tb 81 [.agg cs.toArray, .int .i64 x] w Z (ScR (doF (charsF x) s)) := by
 replace hs := scv_cz hs
 obtain ⟨hcl, hco⟩ := scv_form hs
 obtain ⟨a1, l1, c1, a2, l2, c2, rfl⟩ := scv_agg hs
 refine givesP_of (fn := Try.f81) Try.func81 rfl Try.ntmps81 rfl hZ scR_mono (fun on => ?_)
 repeat refine s_seqs ?_
 refine s_reg ?_
 refine step_box_agg rfl rfl (fun b2 => ?_)
 refine step_box rfl rfl rfl (fun b3 => ?_)
 refine step_alloc rfl zero32 (fun b4 => ?_)
 refine Vc.step_end (fun a w ok => ?_)
 first | (refine WPs.run ?_ a w ok; clear ok w a) | skip
 refine s_let 1 rfl (fun E0 g0 hc0 => ?_)
 replace hc0 := hc0 _ on.sc 0 _ rfl
 replace on := on.next g0
 replace hs := hs.mono g0.cz
 clear g0
 repeat refine s_seqs ?_
 refine s_reg ?_
 first | refine step_pure rfl (pure_load_agg (i := 0) rfl rfl rfl rfl rfl (by first | decide | exact Nat.le_of_ble_eq_true rfl) rfl) ?_ | refine step_pure rfl (pure_load_agg (i := 1) rfl rfl rfl rfl rfl (by first | decide | exact Nat.le_of_ble_eq_true rfl) rfl) ?_ | refine step_pure rfl (pure_load_agg (i := 2) rfl rfl rfl rfl rfl (by first | decide | exact Nat.le_of_ble_eq_true rfl) rfl) ?_ | refine step_pure rfl (pure_load_agg (i := 3) rfl rfl rfl rfl rfl (by first | decide | exact Nat.le_of_ble_eq_true rfl) rfl) ?_ | refine step_pure rfl (pure_load_agg (i := 4) rfl rfl rfl rfl rfl (by first | decide | exact Nat.le_of_ble_eq_true rfl) rfl) ?_ | refine step_pure rfl (pure_load_agg (i := 5) rfl rfl rfl rfl rfl (by first | decide | exact Nat.le_of_ble_eq_true rfl) rfl) ?_
 refine step_pure rfl (pure_makeFunc rfl) ?_
 refine step_givesP on.sc rfl fun18 rfl (fun w' Z' hh kp hZ hC => done_P s _ (charsF x) 90 [.pointer (some ⟨b3, 0, none⟩)] w' hZ (hs.mono (Cz.now kp)) h1 h2 fun90 (fun hok => does_sr (kp_chars hok x) (fun w2 Z2 bs bc n cap v2 tl hC2 hP => chars1_W hP b3 x (hC2 _ _ (hC _ _ hc0))))) ?_
 rintro v E5 g ⟨cs', rfl, hs'⟩
 replace on := on.next g
 obtain ⟨hl5, ho5⟩ := scv_form hs'
 refine step_store_agg 0 rfl rfl rfl ho5 rfl hl5 rfl rfl (Nat.le_of_ble_eq_true rfl) (splice_all hl5) ?_
 refine Vc.step_end (fun a w ok => ?_)
 first | (refine WPs.run ?_ a w ok; clear ok w a) | skip
 exact s_ret fun a w ok => ends_givesP on (.inr rfl) ok (res_cell_agg (i := 0) Try.results81 rfl rfl rfl rfl rfl (by show 0 + 16 ≤ cs'.length; omega) (by show (cs'.drop 0).take 16 = cs'; rw [List.drop_zero]; exact List.take_of_length_le (by omega))) scR_mono ⟨cs', rfl, hs'⟩
set_option maxHeartbeats 1000000 in
theorem erase_P (s : Scr) (cs : List Value) (x : Int) (y : Int) (w : World) {Z : Nat → Prop} (hZ : ∀ j, w.heap.size ≤ j → Z j) (hs : ScV (At w) s cs) (h1 : s.cells.length ≤ maxLen) (h2 : s.main.length ≤ maxLen) :
  GivesP tb 61 [.agg cs.toArray, .int .i64 x, .int .i64 y] w Z (ScR (doF (eraseF x y) s)) := by
 replace hs := scv_cz hs
 obtain ⟨hcl, hco⟩ := scv_form hs
 obtain ⟨a1, l1, c1, a2, l2, c2, rfl⟩ := scv_agg hs
 refine givesP_of (fn := Try.f61) Try.func61 rfl Try.ntmps61 rfl hZ scR_mono (fun on => ?_)
 repeat refine s_seqs ?_
 refine s_reg ?_
 refine step_box_agg rfl rfl (fun b3 => ?_)
 refine step_box rfl rfl rfl (fun b4 => ?_)
 refine step_box rfl rfl rfl (fun b5 => ?_)
 refine step_alloc rfl zero32 (fun b6 => ?_)
 refine Vc.step_end (fun a w ok => ?_)
 first | (refine WPs.run ?_ a w ok; clear ok w a) | skip
 refine s_let 1 rfl (fun E1 g1 hc1 => ?_)
 replace hc1 := hc1 _ on.sc 0 _ rfl
 replace on := on.next g1
 replace hs := hs.mono g1.cz
 clear g1
 refine s_let 1 rfl (fun E0 g0 hc0 => ?_)
 replace hc0 := hc0 _ on.sc 0 _ rfl
 replace on := on.next g0
 replace hs := hs.mono g0.cz
 replace hc1 := g0.cz _ _ hc1
 clear g0
 repeat refine s_seqs ?_
 refine s_reg ?_
 first | refine step_pure rfl (pure_load_agg (i := 0) rfl rfl rfl rfl rfl (by first | decide | exact Nat.le_of_ble_eq_true rfl) rfl) ?_ | refine step_pure rfl (pure_load_agg (i := 1) rfl rfl rfl rfl rfl (by first | decide | exact Nat.le_of_ble_eq_true rfl) rfl) ?_ | refine step_pure rfl (pure_load_agg (i := 2) rfl rfl rfl rfl rfl (by first | decide | exact Nat.le_of_ble_eq_true rfl) rfl) ?_ | refine step_pure rfl (pure_load_agg (i := 3) rfl rfl rfl rfl rfl (by first | decide | exact Nat.le_of_ble_eq_true rfl) rfl) ?_ | refine step_pure rfl (pure_load_agg (i := 4) rfl rfl rfl rfl rfl (by first | decide | exact Nat.le_of_ble_eq_true rfl) rfl) ?_ | refine step_pure rfl (pure_load_agg (i := 5) rfl rfl rfl rfl rfl (by first | decide | exact Nat.le_of_ble_eq_true rfl) rfl) ?_
 refine step_pure rfl (pure_makeFunc rfl) ?_
 refine step_givesP on.sc rfl fun18 rfl (fun w' Z' hh kp hZ hC => done_P s _ (eraseF x y) 84 [.pointer (some ⟨b4, 0, none⟩), .pointer (some ⟨b5, 0, none⟩)] w' hZ (hs.mono (Cz.now kp)) h1 h2 fun84 (fun hok => does_sr (kp_erase hok x y) (fun w2 Z2 bs bc n cap v2 tl hC2 hP => erase1_W hP b4 b5 x y (hC2 _ _ (hC _ _ hc0)) (hC2 _ _ (hC _ _ hc1))))) ?_
 rintro v E5 g ⟨cs', rfl, hs'⟩
 replace on := on.next g
 obtain ⟨hl5, ho5⟩ := scv_form hs'
 refine step_store_agg 0 rfl rfl rfl ho5 rfl hl5 rfl rfl (Nat.le_of_ble_eq_true rfl) (splice_all hl5) ?_
 refine Vc.step_end (fun a w ok => ?_)
 first | (refine WPs.run ?_ a w ok; clear ok w a) | skip
 exact s_ret fun a w ok => ends_givesP on (.inr rfl) ok (res_cell_agg (i := 0) Try.results61 rfl rfl rfl rfl rfl (by show 0 + 16 ≤ cs'.length; omega) (by show (cs'.drop 0).take 16 = cs'; rw [List.drop_zero]; exact List.take_of_length_le (by omega))) scR_mono ⟨cs', rfl, hs'⟩
end Go.Proofs.Ytadginombcjbeaa
