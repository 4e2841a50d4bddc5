/- A packet as a datagram: Seal, the document's too, Size: walked. -/
import Derived.Test.YthieegnhjoehbaaS9
import Derived.Test.YthieegnhjoehbaaPB
namespace Go.Proofs.Ythieegnhjoehbaa
open Go.RowKit Go.Vc
set_option linter.unusedVariables false
/-- A part of a block, as a slice. -/
theorem slc_blk {w : World} {m : Mem} {b t j off n c : Nat} {l : List Int} (hh : Has w m) (he : nth m j = some ⟨b, row l, t⟩) (hl : off + n ≤ l.length) (hc : n ≤ c) : SlC (At w) 1 (.slice (some ⟨b, off, none⟩) n c) n (row ((l.drop off).take n)) := by
 refine ⟨_, _, rfl, hc, by rw [row_len, List.length_take, List.length_drop]; omega, fun hne => ⟨_, rfl, fun i x hx => ?_⟩⟩
 rw [add_none]
 have hne' : row l ≠ [] := by
  intro h
  have := row_len l
  rw [h] at this
  have h0 : 0 = l.length := this
  have h1 : n = 0 := by omega
  subst h1
  simp [ints] at hne
 refine cell_of (hh.cell (nth_mem he) hne') ?_
 have hi : i < n := by
  have := (List.getElem?_eq_some_iff.1 hx).1
  rw [row_len, List.length_take] at this
  omega
 rw [← row_sub, List.getElem?_take, if_pos hi, List.getElem?_drop] at hx
 exact hx
/-- A packet's text ahead of its tag; the packet as a datagram. -/
def outT (K : List Int) (p : Pk) : List Int := hB p.side p.num ++ hid K p.side.toNat p.num (wBs p.fs)
def sealB (K : List Int) (p : Pk) : List Int := if pOk p = true then outT K p ++ tagF (macK K p.side.toNat) (outT K p) else []
theorem outT_le (K : List Int) (p : Pk) : (outT K p).length ≤ 80009 := by
 have h1 := hB_len p.side p.num
 have h2 := vsize_cases p.num
 have h3 := wBs_le p.fs
 unfold outT
 rw [List.length_append, hid_len]
 omega
theorem outT_bytes (K : List Int) {p : Pk} (h : pOk p = true) : Bytes (outT K p) := (hB_bytes (pOk_in h).1).append (hid_bytes _ _ _ _)
theorem sealB_yes (K : List Int) {p : Pk} (h : pOk p = true) : sealB K p = outT K p ++ tagF (macK K p.side.toNat) (outT K p) := if_pos h
theorem sealB_no (K : List Int) {p : Pk} (h : pOk p = false) : sealB K p = [] := if_neg (by rw [h]; decide)
def SeR (K : List Int) (p : Pk) (u : Value) (C : Addr → Value → Prop) : Prop := ∃ v, u = .tuple #[v, .int .i64 (pE p)] ∧ SlC C 1 v (sealB K p).length (row (sealB K p))
theorem seR_mono (K : List Int) (p : Pk) : ∀ v (C C' : Addr → Value → Prop), (∀ a x, C a x → C' a x) → SeR K p v C → SeR K p v C' := by
 rintro u C C' hC ⟨v, rfl, hs⟩
 exact ⟨v, rfl, hs.mono hC⟩
theorem seR_no {K : List Int} {p : Pk} {C : Addr → Value → Prop} (h : pOk p = false) : SeR K p (.tuple #[.slice none 0 0, .int .i64 30]) C := by
 refine ⟨_, by rw [pE_no h], ?_⟩
 rw [sealB_no K h]
 exact slc_nil
set_option maxHeartbeats 2000000 in
theorem seal_P (K : List Int) (p : Pk) (cs : List Value) (w : World) {Z : Nat → Prop} (hZ : ∀ b, w.heap.size ≤ b → Z b) (hK : K.length = 96) (hKb : Bytes K) (hp : PkC (At w) p cs) (hbig : ∀ f ∈ p.fs, f.data.length ≤ maxLen) :
  GivesP tb 12 [.agg (row K).toArray, .agg cs.toArray] w Z (SeR K p) := by
 obtain ⟨fv, rfl, hv⟩ := hp
 replace hv : FrsC (Cel ⟨w, [], []⟩) fv p.fs := hv.mono fun p x h => ⟨h, by simp⟩
 obtain ⟨fb, fc, rfl, hfc⟩ := hv.slice
 refine givesP_of (fn := Try.f12) Try.func12 rfl Try.ntmps12 rfl hZ (seR_mono K p) (fun on => ?_)
 repeat refine s_seqs ?_
 refine s_reg ?_
 refine step_box_agg rfl rfl (fun b2 => ?_)
 refine step_box_agg rfl rfl (fun b3 => ?_)
 refine qa rfl rfl ?_
 refine qa rfl rfl ?_
 refine Vc.step_end (fun a w ok => ?_)
 (refine WPs.run ?_ a w ok; clear ok w a)
 repeat refine s_seqs ?_
 refine s_reg ?_
 refine step_pure rfl (pure_load_agg (i := 0) rfl rfl rfl rfl rfl (by show 3 ≤ 3; decide) rfl) ?_
 refine step_gives rfl fun26 rfl (fun w' hh kp => pcheck_any p _ w' ⟨_, rfl, hv.mono fun p x h => h.now kp⟩ hbig) ?_
 refine qa rfl rfl ?_
 refine Vc.step_end (fun a w ok => ?_)
 (refine WPs.run ?_ a w ok; clear ok w a)
 cases hok : pOk p with
 | false =>
  rw [pE_no hok]
  repeat refine s_seqs ?_
  refine s_reg ?_
  refine qm rfl rfl ?_
  refine step_pure rfl (pure_neq rfl rfl) ?_
  refine Vc.step_end (fun a w ok => ?_)
  (refine WPs.run ?_ a w ok; clear ok w a)
  repeat refine s_seqs ?_
  refine s_cond_yes rfl rfl ?_
  repeat refine s_seqs ?_
  refine s_reg ?_
  refine qm rfl rfl ?_
  refine qa rfl rfl ?_
  refine qa rfl rfl ?_
  refine Vc.step_end (fun a w ok => ?_)
  (refine WPs.run ?_ a w ok; clear ok w a)
  exact s_ret fun a w ok => ends_givesP on (.inr rfl) ok (res_tmp2 Try.results12 rfl rfl) (seR_mono K p) (seR_no hok)
 | true =>
 rw [pE_yes hok]
 repeat refine s_seqs ?_
 refine s_reg ?_
 refine qm rfl rfl ?_
 refine step_pure rfl (pure_neq rfl rfl) ?_
 refine Vc.step_end (fun a w ok => ?_)
 (refine WPs.run ?_ a w ok; clear ok w a)
 repeat refine s_seqs ?_
 refine s_cond_no rfl rfl ?_
 refine s_skip fun a w ok => WPs.run ?_ a w ok
 clear ok w a
 have hpo := pOk_in hok
 have hside := hOk_in hpo.1
 have hol := outT_le K p
 have hob := outT_bytes K hok
 have hse := sealB_yes K hok
 have hhB := hd_yes hpo.1
 have hhl := hB_len p.side p.num
 have hv8 := vsize_cases p.num
 have hwl := wBs_le p.fs
 obtain ⟨s, hs, hs2⟩ : ∃ s : Nat, p.side = s ∧ s < 2 := ⟨p.side.toNat, by omega, by omega⟩
 have hmK := macK_len hK hs2
 have hmb := macK_bytes hKb s
 have hrsub : (row K).drop (32 + 32 * s) = row (K.drop (32 + 32 * s)) := (List.map_drop ..).symm
 have htl := tagF_len (macK K s) (outT K p)
 have houtT : outT K p = hB (s : Int) p.num ++ hid K s p.num (wBs p.fs) := by unfold outT; rw [hs, Int.toNat_natCast]
 rw [hs] at hhl
 rw [hs, Int.toNat_natCast] at hse
 repeat refine s_seqs ?_
 refine s_reg ?_
 refine step_pure rfl (pure_fieldAddr rfl rfl rfl rfl rfl (by decide)) ?_
 refine step_pure rfl (pure_load (i := 0) rfl rfl rfl rfl rfl rfl) ?_
 refine step_pure rfl (pure_fieldAddr rfl rfl rfl rfl rfl (by decide)) ?_
 refine step_pure rfl (pure_load (i := 0) rfl rfl rfl rfl rfl rfl) ?_
 refine step_makes rfl fun27 rfl (fun w' hh kp => head_any p.side p.num w') ?_
 rintro u m' ⟨base2, len2, cap2, e2, rfl, rfl, hs1⟩
 rw [hhB.1] at hs1
 rw [hhB.2]
 obtain rfl := sl_len8 hs1
 refine qm rfl rfl ?_
 refine qx rfl rfl rfl ?_
 refine qx rfl rfl rfl ?_
 refine qa rfl rfl ?_
 refine qa rfl rfl ?_
 refine Vc.step_end (fun a w ok => ?_)
 (refine WPs.run ?_ a w ok; clear ok w a)
 repeat refine s_seqs ?_
 refine s_reg ?_
 refine qm rfl rfl ?_
 refine step_pure rfl (pure_neq rfl rfl) ?_
 refine Vc.step_end (fun a w ok => ?_)
 (refine WPs.run ?_ a w ok; clear ok w a)
 repeat refine s_seqs ?_
 refine s_cond_no rfl rfl ?_
 refine s_skip fun a w ok => WPs.run ?_ a w ok
 clear ok w a
 repeat refine s_seqs ?_
 refine s_reg ?_
 refine step_pure rfl (pure_fieldAddr rfl rfl rfl rfl rfl (by decide)) ?_
 refine step_pure rfl (pure_load (i := 1) rfl rfl rfl rfl rfl rfl) ?_
 refine step_givesP on.sc rfl fun21 rfl (fun w' Z' hh kp hZ hC => write_P p.fs _ w' hZ (hv.mono fun p x h => h.now kp) hbig) ?_
 rintro u E1 g ⟨v3, rfl, hw⟩
 rw [if_pos hpo.2.1]
 replace on := on.next g
 clear g hv
 refine qm rfl rfl ?_
 refine qx rfl rfl rfl ?_
 refine qx rfl rfl rfl ?_
 refine qa rfl rfl ?_
 refine qa rfl rfl ?_
 refine Vc.step_end (fun a w ok => ?_)
 (refine WPs.run ?_ a w ok; clear ok w a)
 repeat refine s_seqs ?_
 refine s_reg ?_
 refine qm rfl rfl ?_
 refine step_pure rfl (pure_neq rfl rfl) ?_
 refine Vc.step_end (fun a w ok => ?_)
 (refine WPs.run ?_ a w ok; clear ok w a)
 repeat refine s_seqs ?_
 refine s_cond_no rfl rfl ?_
 refine s_skip fun a w ok => WPs.run ?_ a w ok
 clear ok w a
 rw [hs] at hs1 ⊢
 repeat refine s_seqs ?_
 refine s_reg ?_
 refine step_pure rfl (pure_load_agg (i := 2) rfl rfl rfl rfl rfl (by show 0 + 96 ≤ (row K).length; rw [row_len, hK]; decide) (ints_whole _ _ 96 hK)) ?_
 refine step_pure rfl (pure_fieldAddr rfl rfl rfl rfl rfl (by decide)) ?_
 refine step_pure rfl (pure_load (i := 1) rfl rfl rfl rfl rfl rfl) ?_
 refine step_pure rfl (pure_fieldAddr rfl rfl rfl rfl rfl (by decide)) ?_
 refine step_pure rfl (pure_load (i := 1) rfl rfl rfl rfl rfl rfl) ?_
 refine qm rfl rfl ?_
 refine step_givesP on.sc rfl fun28 rfl (fun w' Z' hh kp hZ hC => kstream_P K s p.num (wBs p.fs) v3 w' hZ hK hKb hs2 (hw.mono (Cz.now kp)) (by omega)) ?_
 rintro u E2 g ⟨v4, rfl, hd⟩
 replace on := on.next g
 clear g hw
 refine qm rfl rfl ?_
 refine qx rfl rfl rfl ?_
 refine qx rfl rfl rfl ?_
 refine qa rfl rfl ?_
 refine qa rfl rfl ?_
 refine Vc.step_end (fun a w ok => ?_)
 (refine WPs.run ?_ a w ok; clear ok w a)
 repeat refine s_seqs ?_
 refine s_reg ?_
 refine qm rfl rfl ?_
 refine step_pure rfl (pure_neq rfl rfl) ?_
 refine Vc.step_end (fun a w ok => ?_)
 (refine WPs.run ?_ a w ok; clear ok w a)
 repeat refine s_seqs ?_
 refine s_cond_no rfl rfl ?_
 refine s_skip fun a w ok => WPs.run ?_ a w ok
 clear ok w a
 have hdl := hid_len K s p.num (wBs p.fs)
 repeat refine s_seqs ?_
 refine s_reg ?_
 refine qm rfl rfl ?_
 refine qm rfl rfl ?_
 refine step_app8 0 rfl rfl hs1 rfl (hd.mono Cz.cel) rfl (by omega) (fun base3 cap3 e3 hs3 => ?_)
 rw [← List.length_append, ← houtT] at hs3 ⊢
 refine qa rfl rfl ?_
 refine Vc.step_end (fun a w ok => ?_)
 (refine WPs.run ?_ a w ok; clear ok w a)
 clear hd hs1
 have htag := fun w' kv v1 tv (h1 : SlC (At w') 1 kv (macK K s).length (row (macK K s))) h2 h3 => macTag_any (macK K s) (outT K p) kv v1 tv w' h1 h2 h3 hmb hob (by omega) (by omega)
 generalize tagF (macK K s) (outT K p) = G at *
 generalize outT K p = T at *
 repeat refine s_seqs ?_
 refine s_reg ?_
 refine step_pure rfl (pure_fieldAddr rfl rfl rfl rfl rfl (by decide)) ?_
 refine step_pure rfl (pure_load (i := 1) rfl rfl rfl rfl rfl rfl) ?_
 refine step_pure rfl (pure_fieldAddr rfl rfl rfl rfl rfl (by decide)) ?_
 refine step_pure rfl (pure_ix (off' := 32 + 32 * s) rfl rfl rfl rfl rfl (by omega) (by omega) (by show 0 + 32 + (s : Int).toNat * 32 = _; omega)) ?_
 refine step_as rfl (pure_slice_all rfl rfl rfl rfl) (show _ = Value.slice (some ⟨b2, 32 + 32 * s, none⟩) 32 32 from rfl) ?_
 refine qm rfl rfl ?_
 refine step_buildSlice rfl rfl rfl rfl elem22 (by decide) (by decide) (fill_sl _ _ _) (fun b58 => ?_)
 refine step_gives rfl fun29 rfl (fun w' hh kp => htag w' _ _ _ (by rw [hmK]; exact slc_blk (j := 3) (off := 32 + 32 * s) hh rfl (by rw [hK]; omega) (Nat.le_refl _)) (slis_mem (sl_built ty22 22 b58 [Value.slice base3 T.length cap3] 1 rfl) (fun _ => .head _) hh) (slis_mem hs3 (fun _ => .tail _ (.head _)) hh)) ?_
 refine step_alloc rfl zero28 (fun b11 => ?_)
 refine step_store_agg 0 rfl rfl rfl (row_one _) rfl (by rw [row_len]; exact htl) rfl rfl (Nat.le_of_ble_eq_true rfl) (splice_all (by rw [row_len, htl]; rfl)) ?_
 refine Vc.step_end (fun a w ok => ?_)
 (refine WPs.run ?_ a w ok; clear ok w a)
 refine s_let 0 rfl (fun E3 g hc => ?_)
 have hG := slis_cz (sl_built ty5 5 b11 (row G) 16 (by rw [row_len, htl]; rfl)) (hc _ on.sc)
 replace hG : SlC (Cz Z E3) 1 (.slice (some ⟨b11, 0, none⟩) 16 16) G.length (row G) := by rw [htl]; exact hG
 replace on := on.next g
 clear g hc
 repeat refine s_seqs ?_
 refine s_reg ?_
 refine qm rfl rfl ?_
 refine step_as rfl (pure_slice_all rfl rfl rfl rfl) (show _ = Value.slice (some ⟨b11, 0, none⟩) 16 16 from rfl) ?_
 refine step_app8 1 rfl rfl hs3 rfl (hG.mono Cz.cel) rfl (by omega) (fun base4 cap4 e4 hs4 => ?_)
 rw [← List.length_append, ← hse] at hs4 ⊢
 refine qa rfl rfl ?_
 refine qa rfl rfl ?_
 refine Vc.step_end (fun a w ok => ?_)
 (refine WPs.run ?_ a w ok; clear ok w a)
 refine s_let 1 rfl (fun E4 g hc => ?_)
 exact s_ret fun a w ok => ends_givesP (on.next g) (.inr rfl) ok (res_tmp2 Try.results12 rfl rfl) (seR_mono K p) ⟨_, by rw [pE_yes hok], slis_cz hs4 (hc _ on.sc)⟩
set_option maxHeartbeats 2000000 in
theorem rseal_P (K : List Int) (p : Pk) (cs : List Value) (w : World) {Z : Nat → Prop} (hZ : ∀ b, w.heap.size ≤ b → Z b) (hK : K.length = 96) (hKb : Bytes K) (hp : PkC (At w) p cs) (hbig : ∀ f ∈ p.fs, f.data.length ≤ maxLen) :
  GivesP tb 13 [.agg (row K).toArray, .agg cs.toArray] w Z (SeR K p) := by
 obtain ⟨fv, rfl, hv⟩ := hp
 replace hv : FrsC (Cel ⟨w, [], []⟩) fv p.fs := hv.mono fun p x h => ⟨h, by simp⟩
 obtain ⟨fb, fc, rfl, hfc⟩ := hv.slice
 refine givesP_of (fn := Try.f13) Try.func13 rfl Try.ntmps13 rfl hZ (seR_mono K p) (fun on => ?_)
 repeat refine s_seqs ?_
 refine s_reg ?_
 refine step_box_agg rfl rfl (fun b2 => ?_)
 refine step_box_agg rfl rfl (fun b3 => ?_)
 refine qa rfl rfl ?_
 refine qa rfl rfl ?_
 refine Vc.step_end (fun a w ok => ?_)
 (refine WPs.run ?_ a w ok; clear ok w a)
 repeat refine s_seqs ?_
 refine s_reg ?_
 refine step_pure rfl (pure_load_agg (i := 0) rfl rfl rfl rfl rfl (by show 3 ≤ 3; decide) rfl) ?_
 refine step_gives rfl fun30 rfl (fun w' hh kp => rpcheck_any p _ w' ⟨_, rfl, hv.mono fun p x h => h.now kp⟩ hbig) ?_
 cases hok : pOk p with
 | false =>
  rw [pE_no hok]
  refine step_pure rfl (pure_neq rfl rfl) ?_
  refine Vc.step_end (fun a w ok => ?_)
  (refine WPs.run ?_ a w ok; clear ok w a)
  repeat refine s_seqs ?_
  refine s_cond_yes rfl rfl ?_
  repeat refine s_seqs ?_
  refine s_reg ?_
  refine qa rfl rfl ?_
  refine qa rfl rfl ?_
  refine Vc.step_end (fun a w ok => ?_)
  (refine WPs.run ?_ a w ok; clear ok w a)
  exact s_ret fun a w ok => ends_givesP on (.inr rfl) ok (res_tmp2 Try.results13 rfl rfl) (seR_mono K p) (seR_no hok)
 | true =>
 rw [pE_yes hok]
 refine step_pure rfl (pure_neq rfl rfl) ?_
 refine Vc.step_end (fun a w ok => ?_)
 (refine WPs.run ?_ a w ok; clear ok w a)
 repeat refine s_seqs ?_
 refine s_cond_no rfl rfl ?_
 refine s_skip fun a w ok => WPs.run ?_ a w ok
 clear ok w a
 have hpo := pOk_in hok
 have hside := hOk_in hpo.1
 have hol := outT_le K p
 have hob := outT_bytes K hok
 have hse := sealB_yes K hok
 have hhB := hd_yes hpo.1
 have hhl := hB_len p.side p.num
 have hv8 := vsize_cases p.num
 have hwl := wBs_le p.fs
 obtain ⟨s, hs, hs2⟩ : ∃ s : Nat, p.side = s ∧ s < 2 := ⟨p.side.toNat, by omega, by omega⟩
 have hmK := macK_len hK hs2
 have hmb := macK_bytes hKb s
 have heK := encK_len hK hs2
 have heb := encK_bytes hKb s
 have hdr : ((row K).drop (16 * s)).take 16 = row (encK K s) := ints_sub .u8 K _ 16
 have htl := tagF_len (macK K s) (outT K p)
 have houtT : outT K p = hB (s : Int) p.num ++ hid K s p.num (wBs p.fs) := by unfold outT; rw [hs, Int.toNat_natCast]
 rw [hs] at hhl
 rw [hs, Int.toNat_natCast] at hse
 repeat refine s_seqs ?_
 refine s_reg ?_
 refine step_pure rfl (pure_fieldAddr rfl rfl rfl rfl rfl (by decide)) ?_
 refine step_pure rfl (pure_load (i := 0) rfl rfl rfl rfl rfl rfl) ?_
 refine step_pure rfl (pure_fieldAddr rfl rfl rfl rfl rfl (by decide)) ?_
 refine step_pure rfl (pure_load (i := 0) rfl rfl rfl rfl rfl rfl) ?_
 refine step_makes rfl fun22 rfl (fun w' hh kp => rhead_any p.side p.num w') ?_
 rintro u m' ⟨base2, len2, cap2, e2, rfl, rfl, hs1⟩
 rw [hhB.1] at hs1
 rw [hhB.2]
 obtain rfl := sl_len8 hs1
 refine qm rfl rfl ?_
 refine qx rfl rfl rfl ?_
 refine qx rfl rfl rfl ?_
 refine qa rfl rfl ?_
 refine qa rfl rfl ?_
 refine Vc.step_end (fun a w ok => ?_)
 (refine WPs.run ?_ a w ok; clear ok w a)
 repeat refine s_seqs ?_
 refine s_reg ?_
 refine step_pure rfl (pure_fieldAddr rfl rfl rfl rfl rfl (by decide)) ?_
 refine step_pure rfl (pure_load (i := 1) rfl rfl rfl rfl rfl rfl) ?_
 refine step_givesP on.sc rfl fun31 rfl (fun w' Z' hh kp hZ hC => rwrite_P p.fs _ w' hZ (hv.mono fun p x h => h.now kp) hbig) ?_
 rintro u E1 g ⟨v3, rfl, hw⟩
 rw [if_pos hpo.2.1]
 replace on := on.next g
 clear g hv
 refine qm rfl rfl ?_
 refine qx rfl rfl rfl ?_
 refine qx rfl rfl rfl ?_
 refine qa rfl rfl ?_
 refine qa rfl rfl ?_
 refine Vc.step_end (fun a w ok => ?_)
 (refine WPs.run ?_ a w ok; clear ok w a)
 rw [hs] at hs1 ⊢
 have hdl := hid_len K s p.num (wBs p.fs)
 have hstr := fun w' (Z' : Nat → Prop) hZ (h : SlC (At w') 1 v3 (wBs p.fs).length (row (wBs p.fs))) => raesStream_P (encK K s) (aheadB p.num) (wBs p.fs) v3 w' (Z := Z') hZ heK heb (aheadB_len p.num) (aheadB_bytes p.num) h (by omega)
 have hah := fun w => rahead_any p.num w
 rw [show outF (encK K s) (aheadB p.num) (wBs p.fs) 0 = hid K s p.num (wBs p.fs) from rfl] at hstr
 generalize hid K s p.num (wBs p.fs) = H at *
 generalize aheadB p.num = A at *
 generalize encK K s = EK at *
 repeat refine s_seqs ?_
 refine s_dreg [1, 11, 17, 25, 35, 41, 51, 59, 65, 76, 81, 89, 97, 105, 113] ([e2, ⟨b3, [.int .i64 s, .int .i64 p.num, .slice fb p.fs.length fc], 25⟩, ⟨b2, row K, 39⟩]) follows (by kernel_rfl) ?_
 refine d_pure0 rfl rfl rfl (pure_fieldAddr rfl rfl rfl rfl rfl (by decide)) ?_
 refine d_pure1 rfl rfl rfl (pure_load (i := 1) rfl rfl rfl rfl rfl rfl) (by exact SubMem.refl _) ?_
 refine d_pure0 rfl rfl rfl (pure_fieldAddr rfl rfl rfl rfl rfl (by decide)) ?_
 refine d_pure0 rfl rfl rfl (pure_ix (off' := 16 * s) rfl rfl rfl rfl rfl (by omega) (by omega) (by show 0 + 0 + (s : Int).toNat * 16 = _; omega)) ?_
 refine d_pure1 rfl rfl rfl (pure_load_agg (i := 2) rfl rfl rfl rfl rfl (by show 16 * s + 16 ≤ (row K).length; rw [row_len]; omega) hdr) (by exact SubMem.refl _) ?_
 refine d_pure0 rfl rfl rfl (pure_fieldAddr rfl rfl rfl rfl rfl (by decide)) ?_
 refine d_pure1 rfl rfl rfl (pure_load (i := 1) rfl rfl rfl rfl rfl rfl) (by exact SubMem.refl _) ?_
 refine d_gives rfl rfl rfl fun33 rfl (fun w _ _ => hah w) (by exact SubMem.refl _) ?_
 refine qd rfl rfl rfl rfl ?_
 refine d_givesP on.sc rfl rfl rfl fun32 rfl (fun w' Z' hh kp hZ hC => hstr w' Z' hZ (hw.mono (Cz.now kp))) rfl ?_
 rintro u E2 g ⟨v4, rfl, hd⟩
 replace on := on.next g
 clear g hw
 refine qd rfl rfl rfl rfl ?_
 refine d_pure0 rfl rfl rfl (pure_extract rfl rfl) ?_
 refine d_pure0 rfl rfl rfl (pure_extract rfl rfl) ?_
 refine d_pure0 rfl rfl rfl (pure_assign rfl) ?_
 refine d_pure0 rfl rfl rfl (pure_assign rfl) ?_
 refine d_end (fun a w ok => ?_)
 (refine WPs.run ?_ a w ok; clear ok w a)
 repeat refine s_seqs ?_
 refine s_reg ?_
 refine qm rfl rfl ?_
 refine qm rfl rfl ?_
 refine step_app8 0 rfl rfl hs1 rfl (hd.mono Cz.cel) rfl (by omega) (fun base3 cap3 e3 hs3 => ?_)
 rw [← List.length_append, ← houtT] at hs3 ⊢
 refine qa rfl rfl ?_
 refine Vc.step_end (fun a w ok => ?_)
 (refine WPs.run ?_ a w ok; clear ok w a)
 clear hd hs1 hstr hah
 have htag := fun w' kv tv (h1 : SlC (At w') 1 kv (macK K s).length (row (macK K s))) h3 => rmacTag_any (macK K s) (outT K p) kv tv w' h1 h3 hmb hob (by omega) (by omega)
 generalize tagF (macK K s) (outT K p) = G at *
 generalize outT K p = T at *
 repeat refine s_seqs ?_
 refine s_reg ?_
 refine step_pure rfl (pure_fieldAddr rfl rfl rfl rfl rfl (by decide)) ?_
 refine step_pure rfl (pure_load (i := 1) rfl rfl rfl rfl rfl rfl) ?_
 refine step_pure rfl (pure_fieldAddr rfl rfl rfl rfl rfl (by decide)) ?_
 refine step_pure rfl (pure_ix (off' := 32 + 32 * s) rfl rfl rfl rfl rfl (by omega) (by omega) (by show 0 + 32 + (s : Int).toNat * 32 = _; omega)) ?_
 refine step_as rfl (pure_slice_all rfl rfl rfl rfl) (show _ = Value.slice (some ⟨b2, 32 + 32 * s, none⟩) 32 32 from rfl) ?_
 refine qm rfl rfl ?_
 refine step_gives rfl fun34 rfl (fun w' hh kp => htag w' _ _ (by rw [hmK]; exact slc_blk (j := 2) (off := 32 + 32 * s) hh rfl (by rw [hK]; omega) (Nat.le_refl _)) (slis_mem hs3 (fun _ => .head _) hh)) ?_
 refine step_alloc rfl zero28 (fun b13 => ?_)
 refine step_store_agg 0 rfl rfl rfl (row_one _) rfl (by rw [row_len]; exact htl) rfl rfl (Nat.le_of_ble_eq_true rfl) (splice_all (by rw [row_len, htl]; rfl)) ?_
 refine Vc.step_end (fun a w ok => ?_)
 (refine WPs.run ?_ a w ok; clear ok w a)
 refine s_let 0 rfl (fun E3 g hc => ?_)
 have hG := slis_cz (sl_built ty5 5 b13 (row G) 16 (by rw [row_len, htl]; rfl)) (hc _ on.sc)
 replace hG : SlC (Cz Z E3) 1 (.slice (some ⟨b13, 0, none⟩) 16 16) G.length (row G) := by rw [htl]; exact hG
 replace on := on.next g
 clear g hc
 repeat refine s_seqs ?_
 refine s_reg ?_
 refine qm rfl rfl ?_
 refine step_as rfl (pure_slice_all rfl rfl rfl rfl) (show _ = Value.slice (some ⟨b13, 0, none⟩) 16 16 from rfl) ?_
 refine step_app8 0 rfl rfl hs3 rfl (hG.mono Cz.cel) rfl (by omega) (fun base4 cap4 e4 hs4 => ?_)
 rw [← List.length_append, ← hse] at hs4 ⊢
 refine qa rfl rfl ?_
 refine qa rfl rfl ?_
 refine Vc.step_end (fun a w ok => ?_)
 (refine WPs.run ?_ a w ok; clear ok w a)
 refine s_let 0 rfl (fun E4 g hc => ?_)
 exact s_ret fun a w ok => ends_givesP (on.next g) (.inr rfl) ok (res_tmp2 Try.results13 rfl rfl) (seR_mono K p) ⟨_, by rw [pE_yes hok], slis_cz hs4 (hc _ on.sc)⟩
def szF (p : Pk) : Int := if pOk p = true then ((pB p).length : Int) + 16 else 0
theorem ssize_any (p : Pk) (cs : List Value) (w : World) (hp : PkC (At w) p cs) (hbig : ∀ f ∈ p.fs, f.data.length ≤ maxLen) : Gives tb 15 [.agg cs.toArray] w (.tuple #[.int .i64 (szF p), .int .i64 (pE p)]) := by
 obtain ⟨fv, rfl, hv⟩ := hp
 replace hv : FrsC (Cel ⟨w, [], []⟩) fv p.fs := hv.mono fun p x h => ⟨h, by simp⟩
 obtain ⟨fb, fc, rfl, hfc⟩ := hv.slice
 have hle := pB_le p
 refine gives_ofk (fn := Try.f15) Try.func15 rfl Try.ntmps15 rfl (fun on => ?_)
 repeat refine s_seqs ?_
 refine s_reg ?_
 refine step_box_agg rfl rfl (fun b1 => ?_)
 refine qa rfl rfl ?_
 refine qa rfl rfl ?_
 refine Vc.step_end (fun a w ok => ?_)
 (refine WPs.run ?_ a w ok; clear ok w a)
 repeat refine s_seqs ?_
 refine s_reg ?_
 refine step_pure rfl (pure_load_agg (i := 0) rfl rfl rfl rfl rfl (by show 3 ≤ 3; decide) rfl) ?_
 refine step_givesP on.sc rfl fun35 rfl (fun w' Z' hh kp hZ hC => pwrite_P p _ w' hZ ⟨_, rfl, hv.mono fun p x h => h.now kp⟩ hbig) ?_
 rintro u E1 g ⟨v3, rfl, hw⟩
 replace on := on.next g
 clear g hv
 refine qm rfl rfl ?_
 refine qx rfl rfl rfl ?_
 refine qx rfl rfl rfl ?_
 refine qa rfl rfl ?_
 refine qa rfl rfl ?_
 refine Vc.step_end (fun a w ok => ?_)
 (refine WPs.run ?_ a w ok; clear ok w a)
 obtain ⟨base3, cap3, rfl, hcap3⟩ := slc_str hw
 unfold szF
 cases hok : pOk p with
 | false =>
  rw [pE_no hok]
  repeat refine s_seqs ?_
  refine s_reg ?_
  refine qm rfl rfl ?_
  refine step_pure rfl (pure_neq rfl rfl) ?_
  refine Vc.step_end (fun a w ok => ?_)
  (refine WPs.run ?_ a w ok; clear ok w a)
  repeat refine s_seqs ?_
  refine s_cond_yes rfl rfl ?_
  repeat refine s_seqs ?_
  refine s_reg ?_
  refine qm rfl rfl ?_
  refine qa rfl rfl ?_
  refine qa rfl rfl ?_
  refine Vc.step_end (fun a w ok => ?_)
  (refine WPs.run ?_ a w ok; clear ok w a)
  exact s_ret fun a w ok => ends_k on (.inr rfl) ok (res_tmp2 Try.results15 rfl rfl)
 | true =>
 rw [pE_yes hok]
 repeat refine s_seqs ?_
 refine s_reg ?_
 refine qm rfl rfl ?_
 refine step_pure rfl (pure_neq rfl rfl) ?_
 refine Vc.step_end (fun a w ok => ?_)
 (refine WPs.run ?_ a w ok; clear ok w a)
 repeat refine s_seqs ?_
 refine s_cond_no rfl rfl ?_
 refine s_skip fun a w ok => WPs.run ?_ a w ok
 clear ok w a
 repeat refine s_seqs ?_
 refine s_reg ?_
 refine qm rfl rfl ?_
 refine step_pure rfl (pure_len_slice rfl rfl rfl) ?_
 refine step_pure rfl (pure_add64 rfl rfl (by omega) (by omega)) ?_
 refine qa rfl rfl ?_
 refine qa rfl rfl ?_
 refine Vc.step_end (fun a w ok => ?_)
 (refine WPs.run ?_ a w ok; clear ok w a)
 exact s_ret fun a w ok => ends_k on (.inr rfl) ok (res_tmp2 Try.results15 rfl rfl)
end Go.Proofs.Ythieegnhjoehbaa
