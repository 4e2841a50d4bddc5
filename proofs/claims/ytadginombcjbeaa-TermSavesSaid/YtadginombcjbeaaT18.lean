/- Terminals: new, fed: walked. -/
import Derived.Test.YtadginombcjbeaaT17
namespace Go.Proofs.Ytadginombcjbeaa
open Go.RowKit Go.Vc
set_option linter.unusedVariables false
abbrev tT : TypeId := 34
theorem len8 {l : List Int} (h : l.length = 8) : ∃ a b c d e f g i, l = [a, b, c, d, e, f, g, i] := by
 match l, h with
 | [a, b, c, d, e, f, g, i], _ => exact ⟨a, b, c, d, e, f, g, i, rfl⟩
def tmL (u : Ut) (p : Pa) (cs : List Value) : List Value := utC u ++ (paC p ++ cs)
def TmR (t : Tm) (u : Value) (C : Addr → Value → Prop) : Prop := ∃ cs, u = .agg (tmL t.ut t.pa cs).toArray ∧ ScV C t.s cs
theorem tmR_mono {t : Tm} : ∀ v (C C' : Addr → Value → Prop), (∀ p x, C p x → C' p x) → TmR t v C → TmR t v C' := by
 rintro v C C' hC ⟨cs, rfl, h⟩
 exact ⟨cs, rfl, h.mono hC⟩
theorem splice_at {α : Type} (a b x : List α) {k : Nat} (hk : a.length = k) : splice (a ++ b) k x = a ++ (x ++ b.drop x.length) := by
 subst hk
 unfold splice
 rw [List.take_left, List.append_assoc, List.drop_append, List.drop_of_length_le (by omega), List.nil_append, Nat.add_sub_cancel_left]
theorem tmL_len {u : Ut} {p : Pa} {cs : List Value} (hp : Ac8 p.act) (hc : cs.length = 16) : (tmL u p cs).length = 32 := by
 unfold tmL
 rw [List.length_append, List.length_append, pa_len hp, hc]
 rfl
def z16 : List Value := scC zScr (.slice none 0 0) (.slice none 0 0)
theorem fill_tm {u : Ut} {p : Pa} {cs : List Value} (hp : Ac8 p.act) (hc : cs.length = 16) :
  fillL (fun i => nth [(0, 3), (3, 13), (16, 16)] i) (tmL zUt zPa z16) [(0, .agg (utC u).toArray), (1, .agg (paC p).toArray), (2, .agg cs.toArray)] = some (tmL u p cs) := by
 have h1 : splice (tmL zUt zPa z16) 0 (utC u) = utC u ++ (paC zPa ++ z16) := splice_at [] (tmL zUt zPa z16) (utC u) rfl
 have h2 : splice (utC u ++ (paC zPa ++ z16)) 3 (paC p) = utC u ++ (paC p ++ z16) := by
  rw [splice_at (k := 3) (utC u) _ _ rfl, pa_len hp]
  rfl
 have h3 : splice (utC u ++ (paC p ++ z16)) 16 cs = tmL u p cs := by
  rw [← List.append_assoc, splice_at (k := 16) (utC u ++ paC p) _ _ (by rw [List.length_append, pa_len hp]; rfl), hc, List.append_assoc]
  show utC u ++ (paC p ++ (cs ++ [])) = _
  rw [List.append_nil]
  rfl
 rw [fill_agg (size := 3) rfl rfl (by decide) (by decide), h1, fill_agg (size := 13) rfl (pa_len hp) (by decide) (Nat.le_of_ble_eq_true rfl), h2, fill_agg (size := 16) rfl hc (by decide) (by rw [List.length_append, List.length_append, pa_len hp]; exact Nat.le_of_ble_eq_true rfl), h3]
 rfl
theorem fill_new {cs : List Value} (hc : cs.length = 16) : fillL (fun i => nth [(0, 3), (3, 13), (16, 16)] i) (tmL zUt zPa z16) [(2, .agg cs.toArray)] = some (tmL zUt zPa cs) := by
 have h3 : splice (tmL zUt zPa z16) 16 cs = tmL zUt zPa cs := by
  show splice ((utC zUt ++ paC zPa) ++ z16) 16 cs = _
  rw [splice_at (k := 16) (utC zUt ++ paC zPa) _ _ rfl, hc]
  show (utC zUt ++ paC zPa) ++ (cs ++ []) = _
  rw [List.append_nil]
  rfl
 rw [fill_agg (size := 16) rfl hc (by decide) (by decide), h3]
 rfl
def TnR (w h : Int) (u : Value) (C : Addr → Value → Prop) : Prop := ∃ cs, u = .tuple #[.agg (tmL zUt zPa cs).toArray, .int .i64 (if (side w && side h) = true then 0 else 170)] ∧ ScV C (newS w h) cs
theorem tnR_mono {w h : Int} : ∀ v (C C' : Addr → Value → Prop), (∀ p x, C p x → C' p x) → TnR w h v C → TnR w h v C' := by
 rintro v C C' hC ⟨cs, rfl, h⟩
 exact ⟨cs, rfl, h.mono hC⟩
theorem tm_one {u : Ut} {p : Pa} {cs : List Value} (hc : ∀ v ∈ cs, v.oneCell' = true) : ∀ v ∈ tmL u p cs, v.oneCell' = true := by
 intro v hv
 rcases List.mem_append.1 hv with hv | hv
 ·exact ut_res u v hv
 ·rcases List.mem_append.1 hv with hv | hv
  ·exact pa_one p v hv
  ·exact hc v hv
set_option maxHeartbeats 1000000 in
theorem tnew_P (W H : Int) (w : World) {Z : Nat → Prop} (hZ : ∀ j, w.heap.size ≤ j → Z j) : GivesP tb 15 [.int .i64 W, .int .i64 H] w Z (TnR W H) := by
 refine givesP_of (fn := Try.f15) Try.func15 rfl Try.ntmps15 rfl hZ tnR_mono (fun on => ?_)
 repeat refine s_seqs ?_
 refine s_reg ?_
 refine step_alloc rfl zero34 (fun b4 => ?_)
 refine qa rfl rfl ?_
 refine Vc.step_end (fun a w ok => ?_)
 first | (refine WPs.run ?_ a w ok; clear ok w a) | skip
 repeat refine s_seqs ?_
 refine s_reg ?_
 refine qm rfl rfl ?_
 refine qm rfl rfl ?_
 refine step_givesP on.sc rfl fun31 rfl (fun w' Z' hh kp hZ hC => new_P W H w' hZ) ?_
 rintro u E5 g ⟨cs, rfl, hs⟩
 replace on := on.next g
 obtain ⟨hl5, ho5⟩ := scv_form hs
 refine qm rfl rfl ?_
 refine qx rfl rfl rfl ?_
 refine qx rfl rfl rfl ?_
 refine step_alloc rfl zero32 (fun b6 => ?_)
 refine step_store_agg 0 rfl rfl rfl ho5 rfl hl5 rfl rfl (Nat.le_of_ble_eq_true rfl) (splice_all hl5) ?_
 refine qa rfl rfl ?_
 refine Vc.step_end (fun a w ok => ?_)
 first | (refine WPs.run ?_ a w ok; clear ok w a) | skip
 repeat refine s_seqs ?_
 refine s_reg ?_
 refine step_pure rfl (pure_load_agg (i := 0) (vs := cs) rfl rfl rfl rfl rfl (by show 0 + 16 ≤ cs.length; omega) (load_all hl5)) ?_
 refine step_pure rfl (pure_build_struct (vs := [(2, .agg cs.toArray)]) (pl := [(0, 3), (3, 13), (16, 16)]) rfl zero34 rfl rfl rfl (fill_new hl5)) ?_
 refine qm rfl rfl ?_
 refine step_store_agg 1 rfl rfl rfl (tm_one ho5) rfl (tmL_len zAc8 hl5) rfl rfl (Nat.le_of_ble_eq_true rfl) (splice_all (tmL_len zAc8 hl5)) ?_
 refine qa rfl rfl ?_
 refine Vc.step_end (fun a w ok => ?_)
 first | (refine WPs.run ?_ a w ok; clear ok w a) | skip
 exact s_ret fun a w ok => ends_givesP on (.inr rfl) ok (res_cell_tmp (i := 1) Try.results15 rfl rfl rfl rfl rfl (by show 0 + 32 ≤ (tmL zUt zPa cs).length; rw [tmL_len zAc8 hl5]; exact Nat.le_refl _) (load_all (tmL_len zAc8 hl5)) rfl) tnR_mono ⟨cs, rfl, hs⟩
theorem acR_drop : ∀ {l : List Ac} (_ : ∀ a ∈ l, Ac8 a) (k : Nat), (acR l).drop (k * 12) = acR (l.drop k)
 | l, _, 0 => by rw [Nat.zero_mul, List.drop_zero, List.drop_zero]
 | [], _, k + 1 => by show List.drop _ [] = acR (List.drop _ []); rw [List.drop_nil, List.drop_nil]; rfl
 | a :: l, h, k + 1 => by
  show (acC a ++ acR l).drop ((k + 1) * 12) = acR (l.drop k)
  rw [show (k + 1) * 12 = 12 + k * 12 by omega, ← List.drop_drop, List.drop_append, List.drop_of_length_le (Nat.le_of_eq (ac_len (h a (.head _)))), ac_len (h a (.head _)), List.nil_append]
  exact acR_drop (fun b hb => h b (.tail _ hb)) k
theorem slc_ac {C : Addr → Value → Prop} {l : List Ac} {v : Value} (h8 : ∀ a ∈ l, Ac8 a) (hv : SlC C 12 v l.length (acR l)) {i : Nat} (hi : i < l.length) :
  ∃ p cap, v = .slice (some p) l.length cap ∧ ∀ j x, (acC l[i])[j]? = some x → C ((p.add (i * 12)).add j) x := by
 obtain ⟨p, cap, he, hp⟩ := hv.at (by decide) hi
 refine ⟨p, cap, he, fun j x hx => hp j x ?_⟩
 have h1 := acR_drop h8 i
 rw [List.drop_eq_getElem_cons hi] at h1
 rw [← List.getElem?_drop, h1]
 show (acC l[i] ++ acR _)[j]? = some x
 rw [List.getElem?_append_left (List.getElem?_eq_some_iff.1 hx).1]
 exact hx
/-- A screen that may be, or the empty one. -/
def OkZ (s : Scr) : Prop := ScOk s ∨ s = zScr
theorem okZ_lens {s : Scr} (h : OkZ s) : s.cells.length ≤ maxLen ∧ s.main.length ≤ maxLen := by
 rcases h with h | rfl
 ·exact ok_lens h
 ·exact ⟨Nat.zero_le _, Nat.zero_le _⟩
theorem okZ_do {s : Scr} (h : OkZ s) (a : Ac) : OkZ (doF (tmDo a) s) := by
 rcases h with h | rfl
 ·rw [doF_ok h]
  exact .inl (still_do h a).ok
 ·exact .inr (doF_no zScr_no _)
theorem okZ_copy (s : Scr) : OkZ (doF id s) := by
 cases h : scOk s with
 | true => rw [doF_ok ((scOk_iff s).1 h)]; exact .inl ((scOk_iff s).1 h)
 | false => exact .inr (doF_no h _)
set_option maxHeartbeats 4000000 in
theorem feed_P (t : Tm) (cs : List Value) (bs : List Int) (v : Value) (w : World) {Z : Nat → Prop} (hZ : ∀ j, w.heap.size ≤ j → Z j) (hs : ScV (At w) t.s cs) (k1 : t.s.cells.length ≤ maxLen) (k2 : t.s.main.length ≤ maxLen) (h8 : Ac8 t.pa.act)
  (hv : SlC (At w) 1 v bs.length (row bs)) (hle : bs.length ≤ 1000) :
  GivesP tb 10 [.agg (tmL t.ut t.pa cs).toArray, v] w Z (TmR (tmFeed t bs)) := by
 have hR : TmR (tmFeed t bs) = TmR ⟨(utRunes t.ut bs).2, (esActs t.pa (utRunes t.ut bs).1).2, tmDoes (esActs t.pa (utRunes t.ut bs).1).1 (doF id t.s)⟩ := rfl
 rw [hR]
 clear hR
 obtain ⟨ut, pa, s⟩ := t
 dsimp only at *
 replace hs := scv_cz hs
 replace hv : SlC (Cz (fun _ => True) ⟨w, [], []⟩) 1 v bs.length (row bs) := hv.mono fun p x h => ⟨⟨h, by simp⟩, trivial⟩
 obtain ⟨base0, cap0, rfl, _⟩ := slc_sl hv
 obtain ⟨hl0, ho0⟩ := scv_form hs
 have hL := tmL_len (u := ut) h8 hl0
 have hrl := utRunes_len bs ut
 have hrn := fun w' (Z' : Nat → Prop) hZ' (hh : SlC (At w') 1 (.slice base0 bs.length cap0) bs.length (row bs)) => runes_P ut bs _ w' (Z := Z') hZ' hh hle
 generalize utRunes ut bs = r at *
 obtain ⟨ns, ut2⟩ := r
 dsimp only at *
 obtain ⟨ha8, hp8⟩ := esActs8 ns pa h8
 have hal := esActs_len ns pa
 have hac := fun v w' (Z' : Nat → Prop) hZ' (hh : SlC (At w') 1 v ns.length (ints .i64 ns)) => acts_P pa ns v w' (Z := Z') hZ' h8 hh (by omega)
 generalize esActs pa ns = q at *
 obtain ⟨l, pa2⟩ := q
 dsimp only at *
 refine givesP_of (fn := Try.f10) Try.func10 rfl Try.ntmps10 rfl hZ tmR_mono (fun on => ?_)
 have hbx : ∀ v ∈ tmL ut pa cs, v.oneCell' = true := tm_one ho0
 repeat refine s_seqs ?_
 refine s_reg ?_
 refine step_box_agg rfl rfl (fun b2 => ?_)
 refine step_alloc rfl zero34 (fun b4 => ?_)
 refine Vc.step_end (fun a w ok => ?_)
 first | (refine WPs.run ?_ a w ok; clear ok w a) | skip
 repeat refine s_seqs ?_
 refine s_reg ?_
 refine step_pure rfl (pure_fieldAddr rfl rfl rfl rfl rfl (by decide)) ?_
 refine step_pure rfl (pure_load_agg (i := 1) (vs := utC ut) rfl rfl rfl rfl rfl (by show 0 + 3 ≤ (tmL ut pa cs).length; rw [hL]; decide) rfl) ?_
 refine qm rfl rfl ?_
 refine step_givesP on.sc rfl fun20 rfl (fun w' Z' hh kp hZ hC => hrn w' Z' hZ (hv.mono (Cz.now kp))) ?_
 rintro u E1 g ⟨v1, rfl, hv1⟩
 replace on := on.next g
 replace hs := hs.mono g.cz
 clear g hrn
 obtain ⟨base1, cap1, rfl, _⟩ := slc_sl hv1
 refine qm rfl rfl ?_
 refine qx rfl rfl rfl ?_
 refine qx rfl rfl rfl ?_
 refine step_alloc rfl zero23 (fun b6 => ?_)
 refine qa rfl rfl ?_
 refine step_store_agg 0 rfl rfl rfl (of_one rfl) rfl rfl rfl rfl (Nat.le_of_ble_eq_true rfl) (show _ = utC ut2 from rfl) ?_
 refine Vc.step_end (fun a w ok => ?_)
 first | (refine WPs.run ?_ a w ok; clear ok w a) | skip
 repeat refine s_seqs ?_
 refine s_reg ?_
 refine step_pure rfl (pure_fieldAddr rfl rfl rfl rfl rfl (by decide)) ?_
 refine step_pure rfl (pure_load_agg (i := 2) (vs := paC pa) rfl rfl rfl rfl rfl (by show 3 + 13 ≤ (tmL ut pa cs).length; rw [hL]; decide) (by show (paC pa ++ cs).take 13 = _; exact List.take_left' (pa_len h8))) ?_
 refine qm rfl rfl ?_
 refine step_givesP on.sc rfl fun21 rfl (fun w' Z' hh kp hZ hC => hac _ w' Z' hZ (hv1.mono (Cz.now kp))) ?_
 rintro u E2 g ⟨v2, rfl, hv2⟩
 replace on := on.next g
 replace hs := hs.mono g.cz
 clear g hac hv1
 obtain ⟨base2, cap2, rfl, _⟩ := slc_sl hv2
 refine qm rfl rfl ?_
 refine qx rfl rfl rfl ?_
 refine qx rfl rfl rfl ?_
 refine step_alloc rfl zero28 (fun b8 => ?_)
 refine qa rfl rfl ?_
 refine step_store_agg 0 rfl rfl rfl (pa_one _) rfl (pa_len hp8) rfl rfl (Nat.le_of_ble_eq_true rfl) (splice_all (pa_len hp8)) ?_
 refine Vc.step_end (fun a w ok => ?_)
 first | (refine WPs.run ?_ a w ok; clear ok w a) | skip
 repeat refine s_seqs ?_
 refine s_reg ?_
 refine step_pure rfl (pure_fieldAddr rfl rfl rfl rfl rfl (by decide)) ?_
 refine step_pure rfl (pure_load_agg (i := 3) (vs := cs) rfl rfl rfl rfl rfl (by show 16 + 16 ≤ (tmL ut pa cs).length; rw [hL]; decide) (by show ((paC pa ++ cs).drop 13).take 16 = cs; rw [List.drop_left' (pa_len h8)]; exact List.take_of_length_le (Nat.le_of_eq hl0))) ?_
 refine step_givesP on.sc rfl fun9 rfl (fun w' Z' hh kp hZ hC => copy_P s cs w' hZ (hs.mono (Cz.now kp)) k1 k2) ?_
 rintro u E3 g ⟨cs3, rfl, hs3⟩
 replace on := on.next g
 replace hv2 := hv2.mono g.cz
 clear g hs
 obtain ⟨hl3, ho3⟩ := scv_form hs3
 refine step_alloc rfl zero32 (fun b9 => ?_)
 refine step_store_agg 0 rfl rfl rfl ho3 rfl hl3 rfl rfl (Nat.le_of_ble_eq_true rfl) (splice_all hl3) ?_
 refine Vc.step_end (fun a w ok => ?_)
 first | (refine WPs.run ?_ a w ok; clear ok w a) | skip
 have hz0 := okZ_copy s
 generalize doF id s = s0 at *
 have hmx : 5000 ≤ maxLen := by decide
 repeat refine s_seqs ?_
 refine s_reg ?_
 refine qm rfl rfl ?_
 refine step_pure rfl (pure_len_slice rfl rfl rfl) ?_
 refine qm rfl rfl ?_
 refine Vc.step_end (fun a w ok => ?_)
 first | (refine WPs.run ?_ a w ok; clear ok w a) | skip
 repeat refine s_seqs ?_
 refine s_block ?_
 repeat refine s_seqs ?_
 refine s_loopP (α := Nat × Scr × List Value) (fun y => [(4, .pointer (some ⟨b4, 0, none⟩)), (6, .pointer (some ⟨b6, 0, none⟩)), (8, .pointer (some ⟨b8, 0, none⟩)), (9, .pointer (some ⟨b9, 0, none⟩)), (29, .slice base2 l.length cap2), (30, .int .i64 l.length), (31, .int .i64 y.1)])
  (fun y => [⟨b9, y.2.2, tSc⟩, ⟨b8, paC pa2, tP⟩, ⟨b6, utC ut2, tU⟩, ⟨b4, tmL zUt zPa z16, tT⟩])
  (fun y E => y.1 ≤ l.length ∧ ScV (Cz Z E) y.2.1 y.2.2 ∧ OkZ y.2.1 ∧ tmDoes l s0 = tmDoes (l.drop y.1) y.2.1) (fun y => l.length - y.1) (0, s0, cs3) ⟨Nat.zero_le _, hs3, hz0, rfl⟩ (less_sub ⟨rfl, rfl, rfl, rfl, rfl, rfl, rfl, trivial⟩ (by repeat (first | exact List.Sublist.refl _ | exact List.nil_sublist _ | apply List.Sublist.cons_cons | apply List.Sublist.cons))) ?_
 rintro ⟨i, s1, cs1⟩ E4 ⟨hi, hs1, hz1, hrun⟩ g
 replace on := on.next g
 replace hv2 := hv2.mono g.cz
 clear g hs3
 dsimp only at hi hs1 hz1 hrun ⊢
 obtain ⟨hl1, ho1⟩ := scv_form hs1
 obtain ⟨k3, k4⟩ := okZ_lens hz1
 repeat refine s_seqs ?_
 refine s_reg ?_
 refine step_pure rfl (pure_lss rfl rfl) ?_
 refine Vc.step_end (fun a w ok => ?_)
 first | (refine WPs.run ?_ a w ok; clear ok w a) | skip
 repeat refine s_seqs ?_
 refine s_cond rfl (fun h1 => ?_) (fun h1 => ?_)
 ·have hlt : i < l.length := by have := of_decide_eq_true h1; omega
  clear h1
  refine s_skip fun a w ok => WPs.run ?_ a w ok
  clear ok w a
  obtain ⟨p, cap', e1, q1⟩ := slc_ac ha8 hv2 hlt
  cases e1
  have hd : l.drop i = l[i] :: l.drop (i + 1) := List.drop_eq_getElem_cons hlt
  have h8i := ha8 _ (List.getElem_mem hlt)
  generalize l[i] = ac at *
  repeat refine s_seqs ?_
  refine s_block ?_
  repeat refine s_seqs ?_
  refine s_reg ?_
  refine step_as rfl (pure_indexAddr_at rfl rfl rfl rfl rfl (by omega) (by omega)) (show _ = Value.pointer (some (p.add (i * 12))) from by rw [Int.toNat_natCast]) ?_
  refine step_pure rfl (pure_cel_agg (vs := acC ac) rfl rfl rfl (ac_len h8i) (fun j x hx => (q1 j x hx).1)) ?_
  refine step_alloc rfl zero26 (fun b11 => ?_)
  refine step_store_agg 0 rfl rfl rfl (ac_one _) rfl (ac_len h8i) rfl rfl (Nat.le_of_ble_eq_true rfl) (splice_all (ac_len h8i)) ?_
  refine Vc.step_end (fun a w ok => ?_)
  first | (refine WPs.run ?_ a w ok; clear ok w a) | skip
  repeat refine s_seqs ?_
  refine s_reg ?_
  refine step_pure rfl (pure_load_agg (i := 1) (vs := cs1) rfl rfl rfl rfl rfl (by show 0 + 16 ≤ cs1.length; omega) (load_all hl1)) ?_
  refine step_pure rfl (pure_load_agg (i := 0) (vs := acC ac) rfl rfl rfl rfl rfl (ac_le h8i) (load_all (ac_len h8i))) ?_
  refine step_givesP on.sc rfl fun13 rfl (fun w' Z' hh kp hZ hC => do_P s1 cs1 ac w' hZ (hs1.mono (Cz.now kp)) k3 k4 h8i) ?_
  rintro u E5 g ⟨cs5, rfl, hs5⟩
  replace on := on.next g
  obtain ⟨hl5, ho5⟩ := scv_form hs5
  refine step_store_agg 1 rfl rfl rfl ho5 rfl hl5 rfl rfl (by show 0 + 16 ≤ cs1.length; omega) (splice_all (by rw [hl5]; exact hl1.symm)) ?_
  refine Vc.step_end (fun a w ok => ?_)
  first | (refine WPs.run ?_ a w ok; clear ok w a) | skip
  repeat refine s_seqs ?_
  refine s_reg ?_
  first | refine step_pure rfl (pure_add64 rfl rfl (by omega) (by omega)) ?_ | refine step_pure rfl (pure_add rfl rfl) ?_
  refine qm rfl rfl ?_
  refine Vc.step_end (fun a w ok => ?_)
  refine ⟨(i + 1, doF (tmDo ac) s1, cs5), E5, ⟨hlt, hs5, okZ_do hz1 ac, by rw [hrun, hd]; rfl⟩, by show l.length - (i + 1) < l.length - i; omega, g, Less.ok ?_ ok⟩
  exact less_sub ⟨rfl, rfl, rfl, rfl, rfl, rfl, rfl, trivial⟩ (by repeat (first | exact List.Sublist.refl _ | exact List.nil_sublist _ | apply List.Sublist.cons_cons | apply List.Sublist.cons))
 ·have hge : i = l.length := by have := of_decide_eq_false h1; omega
  clear h1
  subst hge
  rw [List.drop_length] at hrun
  refine s_exit fun a w ok => WPs.run ?_ a w ok
  clear ok w a
  repeat refine s_seqs ?_
  refine s_reg ?_
  refine step_pure rfl (pure_load_agg (i := 2) (vs := utC ut2) rfl rfl rfl rfl rfl (Nat.le_of_ble_eq_true rfl) rfl) ?_
  refine step_pure rfl (pure_load_agg (i := 1) (vs := paC pa2) rfl rfl rfl rfl rfl (pa_le hp8) (load_all (pa_len hp8))) ?_
  refine step_pure rfl (pure_load_agg (i := 0) (vs := cs1) rfl rfl rfl rfl rfl (by show 0 + 16 ≤ cs1.length; omega) (load_all hl1)) ?_
  refine step_pure rfl (pure_build_struct (vs := [(0, .agg (utC ut2).toArray), (1, .agg (paC pa2).toArray), (2, .agg cs1.toArray)]) (pl := [(0, 3), (3, 13), (16, 16)]) rfl zero34 rfl rfl rfl (fill_tm hp8 hl1)) ?_
  refine step_store_agg 3 rfl rfl rfl (tm_one ho1) rfl (tmL_len hp8 hl1) rfl rfl (Nat.le_of_ble_eq_true rfl) (splice_all (tmL_len hp8 hl1)) ?_
  refine Vc.step_end (fun a w ok => ?_)
  first | (refine WPs.run ?_ a w ok; clear ok w a) | skip
  exact s_ret fun a w ok => ends_givesP on (.inr rfl) ok (res_cell_agg (i := 3) Try.results10 rfl rfl rfl rfl rfl (by show 0 + 32 ≤ (tmL ut2 pa2 cs1).length; rw [tmL_len hp8 hl1]; exact Nat.le_refl _) (load_all (tmL_len hp8 hl1))) tmR_mono ⟨cs1, rfl, by rw [hrun]; exact hs1⟩
end Go.Proofs.Ytadginombcjbeaa
