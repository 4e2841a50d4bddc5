/- Orders carried out; the law GridMay: walked. -/
import Derived.Test.YtbcpgdjhomoghaaG21
import Derived.Test.YtbcpgdjhomoghaaG24
namespace Go.Proofs.Ytbcpgdjhomoghaa
open Go.RowKit Go.Vc Go.ChangeShapes Go.WideShapes
set_option linter.unusedVariables false
abbrev Ord := Int × Int × Int
def opR (l : List Ord) : List Value := l.flatMap fun o => [Value.int .i64 o.1, .int .i64 o.2.1, .int .i64 o.2.2]
theorem opR_cons (o : Ord) (l : List Ord) : opR (o :: l) = .int .i64 o.1 :: .int .i64 o.2.1 :: .int .i64 o.2.2 :: opR l := rfl
theorem opR_drop : ∀ (l : List Ord) (k : Nat), (opR l).drop (k * 3) = opR (l.drop k)
 | l, 0 => by rw [Nat.zero_mul, List.drop_zero, List.drop_zero]
 | [], k + 1 => by show List.drop _ [] = opR (List.drop _ []); rw [List.drop_nil, List.drop_nil]; rfl
 | o :: l, k + 1 => by rw [opR_cons, show (k + 1) * 3 = k * 3 + 3 by omega, List.drop_succ_cons, List.drop_succ_cons, List.drop_succ_cons, List.drop_succ_cons]; exact opR_drop l k
theorem opR_get (l : List Ord) {i : Nat} (h : i < l.length) (j : Nat) (x : Value) (hx : [Value.int .i64 (l.getD i (0, 0, 0)).1, .int .i64 (l.getD i (0, 0, 0)).2.1, .int .i64 (l.getD i (0, 0, 0)).2.2][j]? = some x) : (opR l)[i * 3 + j]? = some x := by
 have h1 := opR_drop l i
 rw [List.drop_eq_getElem_cons h, opR_cons] at h1
 have h2 : l.getD i (0, 0, 0) = l[i] := by rw [List.getD_eq_getElem?_getD, List.getElem?_eq_getElem h]; rfl
 rw [h2] at hx
 have := congrArg (fun x => x[j]?) h1
 simp only [List.getElem?_drop] at this
 rw [this]
 match j, hx with
 | 0, hx => exact hx
 | 1, hx => exact hx
 | 2, hx => exact hx
 | j + 3, hx => cases hx
theorem slc_op {C : Addr → Value → Prop} {l : List Ord} {v : Value} (hv : SlC C 3 v l.length (opR l)) {i : Nat} (hi : i < l.length) :
  ∃ p cap, v = .slice (some p) l.length cap ∧ ∀ j x, [Value.int .i64 (l.getD i (0, 0, 0)).1, .int .i64 (l.getD i (0, 0, 0)).2.1, .int .i64 (l.getD i (0, 0, 0)).2.2][j]? = some x → C ((p.add (i * 3)).add j) x := by
 obtain ⟨p, cap', he, hp⟩ := hv.at (by decide) hi
 exact ⟨p, cap', he, fun j x hx => hp j x (opR_get l hi j x hx)⟩
def ROp : Rep Ord := fun _ r cs => cs = [.int .i64 r.1, .int .i64 r.2.1, .int .i64 r.2.2]
theorem opens_op0 : Opens Try.prog 46 3 (RCons 1 (RInt .i64) (RCons 1 (RInt .i64) (RCons 1 (RInt .i64) RNil))) :=
 opens_struct Try.underlying46 (by kernel_rfl) (fs_cons opens_i64 rfl (fs_cons opens_i64 rfl (fs_cons opens_i64 rfl fs_nil)))
theorem opens_ops : Opens Try.prog 42 1 (RSl 3 ROp) := opens_slice Try.underlying42 (by kernel_rfl) (opens_op0.map (S := ROp) (fun a => (a.1, a.2.1, a.2.2.1)) (by
 rintro C ⟨a, b, c, u⟩ cs ⟨c1, c2, rfl, _, ⟨rfl, _⟩, c3, c4, rfl, _, ⟨rfl, _⟩, c5, c6, rfl, _, ⟨rfl, _⟩, rfl⟩
 rfl))
theorem rsl_ops {C : Addr → Value → Prop} {l : List Ord} {cs : List Value} (h : RSl 3 ROp C l cs) : ∃ v, cs = [v] ∧ SlC C 3 v l.length (opR l) ∧ l.length ≤ maxLen := by
 obtain ⟨v, css, rfl, h1, h2, h3, h4⟩ := h
 have e : css = l.map fun r => [Value.int .i64 r.1, .int .i64 r.2.1, .int .i64 r.2.2] := by
  refine List.ext_getElem? fun i => ?_
  rw [List.getElem?_map]
  by_cases hi : i < l.length
  ·rw [List.getElem?_eq_getElem hi, List.getElem?_eq_getElem (by omega)]
   rw [(h2 i _ _ (List.getElem?_eq_getElem hi) (List.getElem?_eq_getElem (by omega))).1]
   rfl
  ·rw [List.getElem?_eq_none (by omega), List.getElem?_eq_none (by omega)]
   rfl
 refine ⟨v, rfl, ?_, h4⟩
 rw [e, ← List.flatMap_def] at h3
 exact h3
set_option maxRecDepth 100000 in
/-- A parameter []Op. -/
theorem open_ops {H : Type} {enc : TypeId × Value → H} {W : World} {base : Nat} {sp : Nat → Bool} {hd : Bool} {r : Reach} {b0 : Nat} {v : Value} {d : DataW H} {ps : List MemPlace}
  (hv : Value.okWide Try.prog W r b0 42 v) (h : DataW.Trod enc Try.prog W base sp hd 42 v d ps) : ∃ l : List Ord, SlC (At W) 3 v l.length (opR l) ∧ l.length ≤ maxLen := by
 obtain ⟨a0, len, cap, rfl⟩ := okWide_slice Try.underlying42 hv
 obtain ⟨_, l, hf⟩ := opens_ops.arg h
 obtain ⟨v, hc, h1, h2⟩ := rsl_ops hf
 cases hc
 exact ⟨l, h1, h2⟩
def DnR (u : Value) (C : Addr → Value → Prop) : Prop := ∃ s cs, u = .agg cs.toArray ∧ ScV C s cs ∧ ScOk s
theorem dnR_mono : ∀ v (C C' : Addr → Value → Prop), (∀ p x, C p x → C' p x) → DnR v C → DnR v C' := by
 rintro v C C' hC ⟨s, cs, rfl, h, ho⟩
 exact ⟨s, cs, rfl, h.mono hC, ho⟩
set_option maxHeartbeats 4000000 in
theorem dn_P (s : Scr) (cs : List Value) (o1 o2 o3 : Int) (w : World) {Z : Nat → Prop} (hZ : ∀ j, w.heap.size ≤ j → Z j) (hs : ScV (At w) s cs) (hok : ScOk s) :
  GivesP tb 24 [.agg cs.toArray, .agg [Value.int .i64 o1, .int .i64 o2, .int .i64 o3].toArray] w Z DnR := by
 obtain ⟨hn1, hn2⟩ := ok_lens hok
 have hdo : ∀ f : Scr → Scr, doF f s = f s := fun f => by unfold doF; rw [(scOk_iff _).2 hok, if_pos rfl]
 replace hs := scv_cz hs
 obtain ⟨a1, l1, c1, a2, l2, c2, rfl⟩ := scv_agg hs
 refine givesP_of (fn := Try.f24) Try.func24 rfl Try.ntmps24 rfl hZ dnR_mono (fun on => ?_)
 repeat refine s_seqs ?_
 refine s_reg ?_
 refine step_box_agg rfl rfl (fun b2 => ?_)
 refine step_box_agg rfl rfl (fun b3 => ?_)
 refine step_alloc rfl zero27 (fun b4 => ?_)
 refine Vc.step_end (fun a w ok => ?_)
 first | (refine WPs.run ?_ a w ok; clear ok w a) | skip
 repeat refine s_seqs ?_
 refine s_reg ?_
 refine step_pure rfl (pure_fieldAddr rfl rfl rfl rfl rfl (by decide)) ?_
 first | refine step_pure rfl (pure_load (i := 0) rfl rfl rfl rfl rfl rfl) ?_ | refine step_pure rfl (pure_load (i := 1) rfl rfl rfl rfl rfl rfl) ?_ | refine step_pure rfl (pure_load (i := 2) rfl rfl rfl rfl rfl rfl) ?_ | refine step_pure rfl (pure_load (i := 3) rfl rfl rfl rfl rfl rfl) ?_ | refine step_pure rfl (pure_load (i := 4) rfl rfl rfl rfl rfl rfl) ?_ | refine step_pure rfl (pure_load (i := 5) rfl rfl rfl rfl rfl rfl) ?_
 first | refine step_pure rfl (pure_rem_pos rfl rfl (by omega) (by decide)) ?_ | refine step_pure rfl (pure_rem rfl rfl (by decide)) ?_
 first | refine step_pure rfl (pure_add64 rfl rfl (by omega) (by omega)) ?_ | refine step_pure rfl (pure_add rfl rfl) ?_
 first | refine step_pure rfl (pure_rem_pos rfl rfl (by omega) (by decide)) ?_ | refine step_pure rfl (pure_rem rfl rfl (by decide)) ?_
 refine Vc.step_end (fun a w ok => ?_)
 first | (refine WPs.run ?_ a w ok; clear ok w a) | skip
 repeat refine s_seqs ?_
 refine s_block ?_
 repeat refine s_seqs ?_
 refine s_reg ?_
 refine step_pure rfl (pure_eql rfl rfl) ?_
 refine qa rfl rfl ?_
 refine Vc.step_end (fun a w ok => ?_)
 first | (refine WPs.run ?_ a w ok; clear ok w a) | skip
 repeat refine s_seqs ?_
 refine s_cond rfl (fun h => ?_) (fun h => ?_)
 ·clear h
  repeat refine s_seqs ?_
  refine s_reg ?_
  first | refine step_pure rfl (pure_load_agg (i := 0) rfl rfl rfl rfl rfl (by first | decide | exact Nat.le_of_ble_eq_true rfl) rfl) ?_ | refine step_pure rfl (pure_load_agg (i := 1) rfl rfl rfl rfl rfl (by first | decide | exact Nat.le_of_ble_eq_true rfl) rfl) ?_ | refine step_pure rfl (pure_load_agg (i := 2) rfl rfl rfl rfl rfl (by first | decide | exact Nat.le_of_ble_eq_true rfl) rfl) ?_ | refine step_pure rfl (pure_load_agg (i := 3) rfl rfl rfl rfl rfl (by first | decide | exact Nat.le_of_ble_eq_true rfl) rfl) ?_ | refine step_pure rfl (pure_load_agg (i := 4) rfl rfl rfl rfl rfl (by first | decide | exact Nat.le_of_ble_eq_true rfl) rfl) ?_ | refine step_pure rfl (pure_load_agg (i := 5) rfl rfl rfl rfl rfl (by first | decide | exact Nat.le_of_ble_eq_true rfl) rfl) ?_
  refine step_pure rfl (pure_fieldAddr rfl rfl rfl rfl rfl (by decide)) ?_
  first | refine step_pure rfl (pure_load (i := 0) rfl rfl rfl rfl rfl rfl) ?_ | refine step_pure rfl (pure_load (i := 1) rfl rfl rfl rfl rfl rfl) ?_ | refine step_pure rfl (pure_load (i := 2) rfl rfl rfl rfl rfl rfl) ?_ | refine step_pure rfl (pure_load (i := 3) rfl rfl rfl rfl rfl rfl) ?_ | refine step_pure rfl (pure_load (i := 4) rfl rfl rfl rfl rfl rfl) ?_ | refine step_pure rfl (pure_load (i := 5) rfl rfl rfl rfl rfl rfl) ?_
  refine step_pure rfl (pure_fieldAddr rfl rfl rfl rfl rfl (by decide)) ?_
  first | refine step_pure rfl (pure_load (i := 0) rfl rfl rfl rfl rfl rfl) ?_ | refine step_pure rfl (pure_load (i := 1) rfl rfl rfl rfl rfl rfl) ?_ | refine step_pure rfl (pure_load (i := 2) rfl rfl rfl rfl rfl rfl) ?_ | refine step_pure rfl (pure_load (i := 3) rfl rfl rfl rfl rfl rfl) ?_ | refine step_pure rfl (pure_load (i := 4) rfl rfl rfl rfl rfl rfl) ?_ | refine step_pure rfl (pure_load (i := 5) rfl rfl rfl rfl rfl rfl) ?_
  refine step_givesP on.sc rfl fun50 rfl (fun w' Z' hh kp hZ hC => move_P s _ _ _ w' hZ (hs.mono (Cz.now kp)) hn1 hn2) ?_
  rintro u E1 g ⟨cs', rfl, hs'⟩
  replace on := on.next g
  rw [hdo] at hs'
  obtain ⟨hl5, ho5⟩ := scv_form hs'
  refine step_store_agg 0 rfl rfl rfl ho5 rfl hl5 rfl rfl (Nat.le_of_ble_eq_true rfl) (splice_all hl5) ?_
  refine Vc.step_end (fun a w ok => ?_)
  first | (refine WPs.run ?_ a w ok; clear ok w a) | skip
  exact s_ret fun a w ok => ends_givesP on (.inr rfl) ok (res_cell_agg (i := 0) Try.results24 rfl rfl rfl rfl rfl (by show 0 + 16 ≤ cs'.length; omega) (by show (cs'.drop 0).take 16 = cs'; rw [List.drop_zero]; exact List.take_of_length_le (by omega))) dnR_mono ⟨_, cs', rfl, hs', moveF_ok hok _ _⟩
 ·clear h
  repeat refine s_seqs ?_
  refine s_reg ?_
  refine step_pure rfl (pure_eql rfl rfl) ?_
  refine qa rfl rfl ?_
  refine Vc.step_end (fun a w ok => ?_)
  first | (refine WPs.run ?_ a w ok; clear ok w a) | skip
  repeat refine s_seqs ?_
  refine s_cond rfl (fun h => ?_) (fun h => ?_)
  ·clear h
   repeat refine s_seqs ?_
   refine s_reg ?_
   first | refine step_pure rfl (pure_load_agg (i := 0) rfl rfl rfl rfl rfl (by first | decide | exact Nat.le_of_ble_eq_true rfl) rfl) ?_ | refine step_pure rfl (pure_load_agg (i := 1) rfl rfl rfl rfl rfl (by first | decide | exact Nat.le_of_ble_eq_true rfl) rfl) ?_ | refine step_pure rfl (pure_load_agg (i := 2) rfl rfl rfl rfl rfl (by first | decide | exact Nat.le_of_ble_eq_true rfl) rfl) ?_ | refine step_pure rfl (pure_load_agg (i := 3) rfl rfl rfl rfl rfl (by first | decide | exact Nat.le_of_ble_eq_true rfl) rfl) ?_ | refine step_pure rfl (pure_load_agg (i := 4) rfl rfl rfl rfl rfl (by first | decide | exact Nat.le_of_ble_eq_true rfl) rfl) ?_ | refine step_pure rfl (pure_load_agg (i := 5) rfl rfl rfl rfl rfl (by first | decide | exact Nat.le_of_ble_eq_true rfl) rfl) ?_
   refine step_pure rfl (pure_fieldAddr rfl rfl rfl rfl rfl (by decide)) ?_
   first | refine step_pure rfl (pure_load (i := 0) rfl rfl rfl rfl rfl rfl) ?_ | refine step_pure rfl (pure_load (i := 1) rfl rfl rfl rfl rfl rfl) ?_ | refine step_pure rfl (pure_load (i := 2) rfl rfl rfl rfl rfl rfl) ?_ | refine step_pure rfl (pure_load (i := 3) rfl rfl rfl rfl rfl rfl) ?_ | refine step_pure rfl (pure_load (i := 4) rfl rfl rfl rfl rfl rfl) ?_ | refine step_pure rfl (pure_load (i := 5) rfl rfl rfl rfl rfl rfl) ?_
   refine step_givesP on.sc rfl fun9 rfl (fun w' Z' hh kp hZ hC => put_P s _ _ w' hZ (hs.mono (Cz.now kp)) hn1 hn2) ?_
   rintro u E1 g ⟨cs', rfl, hs'⟩
   replace on := on.next g
   rw [hdo] at hs'
   obtain ⟨hl5, ho5⟩ := scv_form hs'
   refine step_store_agg 0 rfl rfl rfl ho5 rfl hl5 rfl rfl (Nat.le_of_ble_eq_true rfl) (splice_all hl5) ?_
   refine Vc.step_end (fun a w ok => ?_)
   first | (refine WPs.run ?_ a w ok; clear ok w a) | skip
   exact s_ret fun a w ok => ends_givesP on (.inr rfl) ok (res_cell_agg (i := 0) Try.results24 rfl rfl rfl rfl rfl (by show 0 + 16 ≤ cs'.length; omega) (by show (cs'.drop 0).take 16 = cs'; rw [List.drop_zero]; exact List.take_of_length_le (by omega))) dnR_mono ⟨_, cs', rfl, hs', putF_ok hok _⟩
  ·clear h
   repeat refine s_seqs ?_
   refine s_reg ?_
   refine step_pure rfl (pure_eql rfl rfl) ?_
   refine qa rfl rfl ?_
   refine Vc.step_end (fun a w ok => ?_)
   first | (refine WPs.run ?_ a w ok; clear ok w a) | skip
   repeat refine s_seqs ?_
   refine s_cond rfl (fun h => ?_) (fun h => ?_)
   ·clear h
    repeat refine s_seqs ?_
    refine s_reg ?_
    first | refine step_pure rfl (pure_load_agg (i := 0) rfl rfl rfl rfl rfl (by first | decide | exact Nat.le_of_ble_eq_true rfl) rfl) ?_ | refine step_pure rfl (pure_load_agg (i := 1) rfl rfl rfl rfl rfl (by first | decide | exact Nat.le_of_ble_eq_true rfl) rfl) ?_ | refine step_pure rfl (pure_load_agg (i := 2) rfl rfl rfl rfl rfl (by first | decide | exact Nat.le_of_ble_eq_true rfl) rfl) ?_ | refine step_pure rfl (pure_load_agg (i := 3) rfl rfl rfl rfl rfl (by first | decide | exact Nat.le_of_ble_eq_true rfl) rfl) ?_ | refine step_pure rfl (pure_load_agg (i := 4) rfl rfl rfl rfl rfl (by first | decide | exact Nat.le_of_ble_eq_true rfl) rfl) ?_ | refine step_pure rfl (pure_load_agg (i := 5) rfl rfl rfl rfl rfl (by first | decide | exact Nat.le_of_ble_eq_true rfl) rfl) ?_
    refine step_givesP on.sc rfl fun51 rfl (fun w' Z' hh kp hZ hC => down_P s _ w' hZ (hs.mono (Cz.now kp)) hn1 hn2) ?_
    rintro u E1 g ⟨cs', rfl, hs'⟩
    replace on := on.next g
    rw [hdo] at hs'
    obtain ⟨hl5, ho5⟩ := scv_form hs'
    refine step_store_agg 0 rfl rfl rfl ho5 rfl hl5 rfl rfl (Nat.le_of_ble_eq_true rfl) (splice_all hl5) ?_
    refine Vc.step_end (fun a w ok => ?_)
    first | (refine WPs.run ?_ a w ok; clear ok w a) | skip
    exact s_ret fun a w ok => ends_givesP on (.inr rfl) ok (res_cell_agg (i := 0) Try.results24 rfl rfl rfl rfl rfl (by show 0 + 16 ≤ cs'.length; omega) (by show (cs'.drop 0).take 16 = cs'; rw [List.drop_zero]; exact List.take_of_length_le (by omega))) dnR_mono ⟨_, cs', rfl, hs', downF_ok hok⟩
   ·clear h
    repeat refine s_seqs ?_
    refine s_reg ?_
    refine step_pure rfl (pure_eql rfl rfl) ?_
    refine qa rfl rfl ?_
    refine Vc.step_end (fun a w ok => ?_)
    first | (refine WPs.run ?_ a w ok; clear ok w a) | skip
    repeat refine s_seqs ?_
    refine s_cond rfl (fun h => ?_) (fun h => ?_)
    ·clear h
     repeat refine s_seqs ?_
     refine s_reg ?_
     first | refine step_pure rfl (pure_load_agg (i := 0) rfl rfl rfl rfl rfl (by first | decide | exact Nat.le_of_ble_eq_true rfl) rfl) ?_ | refine step_pure rfl (pure_load_agg (i := 1) rfl rfl rfl rfl rfl (by first | decide | exact Nat.le_of_ble_eq_true rfl) rfl) ?_ | refine step_pure rfl (pure_load_agg (i := 2) rfl rfl rfl rfl rfl (by first | decide | exact Nat.le_of_ble_eq_true rfl) rfl) ?_ | refine step_pure rfl (pure_load_agg (i := 3) rfl rfl rfl rfl rfl (by first | decide | exact Nat.le_of_ble_eq_true rfl) rfl) ?_ | refine step_pure rfl (pure_load_agg (i := 4) rfl rfl rfl rfl rfl (by first | decide | exact Nat.le_of_ble_eq_true rfl) rfl) ?_ | refine step_pure rfl (pure_load_agg (i := 5) rfl rfl rfl rfl rfl (by first | decide | exact Nat.le_of_ble_eq_true rfl) rfl) ?_
     refine step_givesP on.sc rfl fun52 rfl (fun w' Z' hh kp hZ hC => up_P s _ w' hZ (hs.mono (Cz.now kp)) hn1 hn2) ?_
     rintro u E1 g ⟨cs', rfl, hs'⟩
     replace on := on.next g
     rw [hdo] at hs'
     obtain ⟨hl5, ho5⟩ := scv_form hs'
     refine step_store_agg 0 rfl rfl rfl ho5 rfl hl5 rfl rfl (Nat.le_of_ble_eq_true rfl) (splice_all hl5) ?_
     refine Vc.step_end (fun a w ok => ?_)
     first | (refine WPs.run ?_ a w ok; clear ok w a) | skip
     exact s_ret fun a w ok => ends_givesP on (.inr rfl) ok (res_cell_agg (i := 0) Try.results24 rfl rfl rfl rfl rfl (by show 0 + 16 ≤ cs'.length; omega) (by show (cs'.drop 0).take 16 = cs'; rw [List.drop_zero]; exact List.take_of_length_le (by omega))) dnR_mono ⟨_, cs', rfl, hs', upF_ok hok⟩
    ·clear h
     repeat refine s_seqs ?_
     refine s_reg ?_
     refine step_pure rfl (pure_eql rfl rfl) ?_
     refine qa rfl rfl ?_
     refine Vc.step_end (fun a w ok => ?_)
     first | (refine WPs.run ?_ a w ok; clear ok w a) | skip
     repeat refine s_seqs ?_
     refine s_cond rfl (fun h => ?_) (fun h => ?_)
     ·clear h
      repeat refine s_seqs ?_
      refine s_reg ?_
      first | refine step_pure rfl (pure_load_agg (i := 0) rfl rfl rfl rfl rfl (by first | decide | exact Nat.le_of_ble_eq_true rfl) rfl) ?_ | refine step_pure rfl (pure_load_agg (i := 1) rfl rfl rfl rfl rfl (by first | decide | exact Nat.le_of_ble_eq_true rfl) rfl) ?_ | refine step_pure rfl (pure_load_agg (i := 2) rfl rfl rfl rfl rfl (by first | decide | exact Nat.le_of_ble_eq_true rfl) rfl) ?_ | refine step_pure rfl (pure_load_agg (i := 3) rfl rfl rfl rfl rfl (by first | decide | exact Nat.le_of_ble_eq_true rfl) rfl) ?_ | refine step_pure rfl (pure_load_agg (i := 4) rfl rfl rfl rfl rfl (by first | decide | exact Nat.le_of_ble_eq_true rfl) rfl) ?_ | refine step_pure rfl (pure_load_agg (i := 5) rfl rfl rfl rfl rfl (by first | decide | exact Nat.le_of_ble_eq_true rfl) rfl) ?_
      refine step_pure rfl (pure_fieldAddr rfl rfl rfl rfl rfl (by decide)) ?_
      first | refine step_pure rfl (pure_load (i := 0) rfl rfl rfl rfl rfl rfl) ?_ | refine step_pure rfl (pure_load (i := 1) rfl rfl rfl rfl rfl rfl) ?_ | refine step_pure rfl (pure_load (i := 2) rfl rfl rfl rfl rfl rfl) ?_ | refine step_pure rfl (pure_load (i := 3) rfl rfl rfl rfl rfl rfl) ?_ | refine step_pure rfl (pure_load (i := 4) rfl rfl rfl rfl rfl rfl) ?_ | refine step_pure rfl (pure_load (i := 5) rfl rfl rfl rfl rfl rfl) ?_
      refine step_givesP on.sc rfl fun12 rfl (fun w' Z' hh kp hZ hC => scroll_P s _ _ w' hZ (hs.mono (Cz.now kp)) hn1 hn2) ?_
      rintro u E1 g ⟨cs', rfl, hs'⟩
      replace on := on.next g
      rw [hdo] at hs'
      obtain ⟨hl5, ho5⟩ := scv_form hs'
      refine step_store_agg 0 rfl rfl rfl ho5 rfl hl5 rfl rfl (Nat.le_of_ble_eq_true rfl) (splice_all hl5) ?_
      refine Vc.step_end (fun a w ok => ?_)
      first | (refine WPs.run ?_ a w ok; clear ok w a) | skip
      exact s_ret fun a w ok => ends_givesP on (.inr rfl) ok (res_cell_agg (i := 0) Try.results24 rfl rfl rfl rfl rfl (by show 0 + 16 ≤ cs'.length; omega) (by show (cs'.drop 0).take 16 = cs'; rw [List.drop_zero]; exact List.take_of_length_le (by omega))) dnR_mono ⟨_, cs', rfl, hs', scrollF_ok hok hok.rows.1 hok.rows.2.1 hok.rows.2.2⟩
     ·clear h
      repeat refine s_seqs ?_
      refine s_reg ?_
      refine step_pure rfl (pure_eql rfl rfl) ?_
      refine qa rfl rfl ?_
      refine Vc.step_end (fun a w ok => ?_)
      first | (refine WPs.run ?_ a w ok; clear ok w a) | skip
      repeat refine s_seqs ?_
      refine s_cond rfl (fun h => ?_) (fun h => ?_)
      ·clear h
       repeat refine s_seqs ?_
       refine s_reg ?_
       first | refine step_pure rfl (pure_load_agg (i := 0) rfl rfl rfl rfl rfl (by first | decide | exact Nat.le_of_ble_eq_true rfl) rfl) ?_ | refine step_pure rfl (pure_load_agg (i := 1) rfl rfl rfl rfl rfl (by first | decide | exact Nat.le_of_ble_eq_true rfl) rfl) ?_ | refine step_pure rfl (pure_load_agg (i := 2) rfl rfl rfl rfl rfl (by first | decide | exact Nat.le_of_ble_eq_true rfl) rfl) ?_ | refine step_pure rfl (pure_load_agg (i := 3) rfl rfl rfl rfl rfl (by first | decide | exact Nat.le_of_ble_eq_true rfl) rfl) ?_ | refine step_pure rfl (pure_load_agg (i := 4) rfl rfl rfl rfl rfl (by first | decide | exact Nat.le_of_ble_eq_true rfl) rfl) ?_ | refine step_pure rfl (pure_load_agg (i := 5) rfl rfl rfl rfl rfl (by first | decide | exact Nat.le_of_ble_eq_true rfl) rfl) ?_
       refine step_pure rfl (pure_fieldAddr rfl rfl rfl rfl rfl (by decide)) ?_
       first | refine step_pure rfl (pure_load (i := 0) rfl rfl rfl rfl rfl rfl) ?_ | refine step_pure rfl (pure_load (i := 1) rfl rfl rfl rfl rfl rfl) ?_ | refine step_pure rfl (pure_load (i := 2) rfl rfl rfl rfl rfl rfl) ?_ | refine step_pure rfl (pure_load (i := 3) rfl rfl rfl rfl rfl rfl) ?_ | refine step_pure rfl (pure_load (i := 4) rfl rfl rfl rfl rfl rfl) ?_ | refine step_pure rfl (pure_load (i := 5) rfl rfl rfl rfl rfl rfl) ?_
       refine step_givesP on.sc rfl fun17 rfl (fun w' Z' hh kp hZ hC => lines_P s _ _ w' hZ (hs.mono (Cz.now kp)) hn1 hn2) ?_
       rintro u E1 g ⟨cs', rfl, hs'⟩
       replace on := on.next g
       rw [hdo] at hs'
       obtain ⟨hl5, ho5⟩ := scv_form hs'
       refine step_store_agg 0 rfl rfl rfl ho5 rfl hl5 rfl rfl (Nat.le_of_ble_eq_true rfl) (splice_all hl5) ?_
       refine Vc.step_end (fun a w ok => ?_)
       first | (refine WPs.run ?_ a w ok; clear ok w a) | skip
       exact s_ret fun a w ok => ends_givesP on (.inr rfl) ok (res_cell_agg (i := 0) Try.results24 rfl rfl rfl rfl rfl (by show 0 + 16 ≤ cs'.length; omega) (by show (cs'.drop 0).take 16 = cs'; rw [List.drop_zero]; exact List.take_of_length_le (by omega))) dnR_mono ⟨_, cs', rfl, hs', linesF_ok hok _⟩
      ·clear h
       repeat refine s_seqs ?_
       refine s_reg ?_
       refine step_pure rfl (pure_eql rfl rfl) ?_
       refine qa rfl rfl ?_
       refine Vc.step_end (fun a w ok => ?_)
       first | (refine WPs.run ?_ a w ok; clear ok w a) | skip
       repeat refine s_seqs ?_
       refine s_cond rfl (fun h => ?_) (fun h => ?_)
       ·clear h
        repeat refine s_seqs ?_
        refine s_reg ?_
        first | refine step_pure rfl (pure_load_agg (i := 0) rfl rfl rfl rfl rfl (by first | decide | exact Nat.le_of_ble_eq_true rfl) rfl) ?_ | refine step_pure rfl (pure_load_agg (i := 1) rfl rfl rfl rfl rfl (by first | decide | exact Nat.le_of_ble_eq_true rfl) rfl) ?_ | refine step_pure rfl (pure_load_agg (i := 2) rfl rfl rfl rfl rfl (by first | decide | exact Nat.le_of_ble_eq_true rfl) rfl) ?_ | refine step_pure rfl (pure_load_agg (i := 3) rfl rfl rfl rfl rfl (by first | decide | exact Nat.le_of_ble_eq_true rfl) rfl) ?_ | refine step_pure rfl (pure_load_agg (i := 4) rfl rfl rfl rfl rfl (by first | decide | exact Nat.le_of_ble_eq_true rfl) rfl) ?_ | refine step_pure rfl (pure_load_agg (i := 5) rfl rfl rfl rfl rfl (by first | decide | exact Nat.le_of_ble_eq_true rfl) rfl) ?_
        refine step_pure rfl (pure_fieldAddr rfl rfl rfl rfl rfl (by decide)) ?_
        first | refine step_pure rfl (pure_load (i := 0) rfl rfl rfl rfl rfl rfl) ?_ | refine step_pure rfl (pure_load (i := 1) rfl rfl rfl rfl rfl rfl) ?_ | refine step_pure rfl (pure_load (i := 2) rfl rfl rfl rfl rfl rfl) ?_ | refine step_pure rfl (pure_load (i := 3) rfl rfl rfl rfl rfl rfl) ?_ | refine step_pure rfl (pure_load (i := 4) rfl rfl rfl rfl rfl rfl) ?_ | refine step_pure rfl (pure_load (i := 5) rfl rfl rfl rfl rfl rfl) ?_
        refine step_givesP on.sc rfl fun19 rfl (fun w' Z' hh kp hZ hC => chars_P s _ _ w' hZ (hs.mono (Cz.now kp)) hn1 hn2) ?_
        rintro u E1 g ⟨cs', rfl, hs'⟩
        replace on := on.next g
        rw [hdo] at hs'
        obtain ⟨hl5, ho5⟩ := scv_form hs'
        refine step_store_agg 0 rfl rfl rfl ho5 rfl hl5 rfl rfl (Nat.le_of_ble_eq_true rfl) (splice_all hl5) ?_
        refine Vc.step_end (fun a w ok => ?_)
        first | (refine WPs.run ?_ a w ok; clear ok w a) | skip
        exact s_ret fun a w ok => ends_givesP on (.inr rfl) ok (res_cell_agg (i := 0) Try.results24 rfl rfl rfl rfl rfl (by show 0 + 16 ≤ cs'.length; omega) (by show (cs'.drop 0).take 16 = cs'; rw [List.drop_zero]; exact List.take_of_length_le (by omega))) dnR_mono ⟨_, cs', rfl, hs', charsF_ok hok _⟩
       ·clear h
        repeat refine s_seqs ?_
        refine s_reg ?_
        refine step_pure rfl (pure_eql rfl rfl) ?_
        refine qa rfl rfl ?_
        refine Vc.step_end (fun a w ok => ?_)
        first | (refine WPs.run ?_ a w ok; clear ok w a) | skip
        repeat refine s_seqs ?_
        refine s_cond rfl (fun h => ?_) (fun h => ?_)
        ·clear h
         repeat refine s_seqs ?_
         refine s_reg ?_
         first | refine step_pure rfl (pure_load_agg (i := 0) rfl rfl rfl rfl rfl (by first | decide | exact Nat.le_of_ble_eq_true rfl) rfl) ?_ | refine step_pure rfl (pure_load_agg (i := 1) rfl rfl rfl rfl rfl (by first | decide | exact Nat.le_of_ble_eq_true rfl) rfl) ?_ | refine step_pure rfl (pure_load_agg (i := 2) rfl rfl rfl rfl rfl (by first | decide | exact Nat.le_of_ble_eq_true rfl) rfl) ?_ | refine step_pure rfl (pure_load_agg (i := 3) rfl rfl rfl rfl rfl (by first | decide | exact Nat.le_of_ble_eq_true rfl) rfl) ?_ | refine step_pure rfl (pure_load_agg (i := 4) rfl rfl rfl rfl rfl (by first | decide | exact Nat.le_of_ble_eq_true rfl) rfl) ?_ | refine step_pure rfl (pure_load_agg (i := 5) rfl rfl rfl rfl rfl (by first | decide | exact Nat.le_of_ble_eq_true rfl) rfl) ?_
         refine step_pure rfl (pure_fieldAddr rfl rfl rfl rfl rfl (by decide)) ?_
         first | refine step_pure rfl (pure_load (i := 0) rfl rfl rfl rfl rfl rfl) ?_ | refine step_pure rfl (pure_load (i := 1) rfl rfl rfl rfl rfl rfl) ?_ | refine step_pure rfl (pure_load (i := 2) rfl rfl rfl rfl rfl rfl) ?_ | refine step_pure rfl (pure_load (i := 3) rfl rfl rfl rfl rfl rfl) ?_ | refine step_pure rfl (pure_load (i := 4) rfl rfl rfl rfl rfl rfl) ?_ | refine step_pure rfl (pure_load (i := 5) rfl rfl rfl rfl rfl rfl) ?_
         refine step_pure rfl (pure_fieldAddr rfl rfl rfl rfl rfl (by decide)) ?_
         first | refine step_pure rfl (pure_load (i := 0) rfl rfl rfl rfl rfl rfl) ?_ | refine step_pure rfl (pure_load (i := 1) rfl rfl rfl rfl rfl rfl) ?_ | refine step_pure rfl (pure_load (i := 2) rfl rfl rfl rfl rfl rfl) ?_ | refine step_pure rfl (pure_load (i := 3) rfl rfl rfl rfl rfl rfl) ?_ | refine step_pure rfl (pure_load (i := 4) rfl rfl rfl rfl rfl rfl) ?_ | refine step_pure rfl (pure_load (i := 5) rfl rfl rfl rfl rfl rfl) ?_
         refine step_givesP on.sc rfl fun21 rfl (fun w' Z' hh kp hZ hC => erase_P s _ _ _ w' hZ (hs.mono (Cz.now kp)) hn1 hn2) ?_
         rintro u E1 g ⟨cs', rfl, hs'⟩
         replace on := on.next g
         rw [hdo] at hs'
         obtain ⟨hl5, ho5⟩ := scv_form hs'
         refine step_store_agg 0 rfl rfl rfl ho5 rfl hl5 rfl rfl (Nat.le_of_ble_eq_true rfl) (splice_all hl5) ?_
         refine Vc.step_end (fun a w ok => ?_)
         first | (refine WPs.run ?_ a w ok; clear ok w a) | skip
         exact s_ret fun a w ok => ends_givesP on (.inr rfl) ok (res_cell_agg (i := 0) Try.results24 rfl rfl rfl rfl rfl (by show 0 + 16 ≤ cs'.length; omega) (by show (cs'.drop 0).take 16 = cs'; rw [List.drop_zero]; exact List.take_of_length_le (by omega))) dnR_mono ⟨_, cs', rfl, hs', eraseF_ok hok _ _⟩
        ·clear h
         refine s_skip fun a w ok => WPs.run ?_ a w ok
         clear ok w a
         repeat refine s_seqs ?_
         refine s_reg ?_
         first | refine step_pure rfl (pure_load_agg (i := 0) rfl rfl rfl rfl rfl (by first | decide | exact Nat.le_of_ble_eq_true rfl) rfl) ?_ | refine step_pure rfl (pure_load_agg (i := 1) rfl rfl rfl rfl rfl (by first | decide | exact Nat.le_of_ble_eq_true rfl) rfl) ?_ | refine step_pure rfl (pure_load_agg (i := 2) rfl rfl rfl rfl rfl (by first | decide | exact Nat.le_of_ble_eq_true rfl) rfl) ?_ | refine step_pure rfl (pure_load_agg (i := 3) rfl rfl rfl rfl rfl (by first | decide | exact Nat.le_of_ble_eq_true rfl) rfl) ?_ | refine step_pure rfl (pure_load_agg (i := 4) rfl rfl rfl rfl rfl (by first | decide | exact Nat.le_of_ble_eq_true rfl) rfl) ?_ | refine step_pure rfl (pure_load_agg (i := 5) rfl rfl rfl rfl rfl (by first | decide | exact Nat.le_of_ble_eq_true rfl) rfl) ?_
         refine step_pure rfl (pure_fieldAddr rfl rfl rfl rfl rfl (by decide)) ?_
         first | refine step_pure rfl (pure_load (i := 0) rfl rfl rfl rfl rfl rfl) ?_ | refine step_pure rfl (pure_load (i := 1) rfl rfl rfl rfl rfl rfl) ?_ | refine step_pure rfl (pure_load (i := 2) rfl rfl rfl rfl rfl rfl) ?_ | refine step_pure rfl (pure_load (i := 3) rfl rfl rfl rfl rfl rfl) ?_ | refine step_pure rfl (pure_load (i := 4) rfl rfl rfl rfl rfl rfl) ?_ | refine step_pure rfl (pure_load (i := 5) rfl rfl rfl rfl rfl rfl) ?_
         refine step_pure rfl (pure_fieldAddr rfl rfl rfl rfl rfl (by decide)) ?_
         first | refine step_pure rfl (pure_load (i := 0) rfl rfl rfl rfl rfl rfl) ?_ | refine step_pure rfl (pure_load (i := 1) rfl rfl rfl rfl rfl rfl) ?_ | refine step_pure rfl (pure_load (i := 2) rfl rfl rfl rfl rfl rfl) ?_ | refine step_pure rfl (pure_load (i := 3) rfl rfl rfl rfl rfl rfl) ?_ | refine step_pure rfl (pure_load (i := 4) rfl rfl rfl rfl rfl rfl) ?_ | refine step_pure rfl (pure_load (i := 5) rfl rfl rfl rfl rfl rfl) ?_
         refine step_givesP on.sc rfl fun13 rfl (fun w' Z' hh kp hZ hC => resize_P s _ _ _ w' hZ (hs.mono (Cz.now kp)) hn1 hn2) ?_
         rintro u E1 g ⟨cs', rfl, hs'⟩
         replace on := on.next g
         rw [hdo] at hs'
         obtain ⟨hl5, ho5⟩ := scv_form hs'
         refine qm rfl rfl ?_
         refine qx rfl rfl rfl ?_
         refine qx rfl rfl rfl ?_
         refine step_alloc rfl zero27 (fun b5 => ?_)
         refine step_store_agg 0 rfl rfl rfl ho5 rfl hl5 rfl rfl (Nat.le_of_ble_eq_true rfl) (splice_all hl5) ?_
         refine qa rfl rfl ?_
         refine Vc.step_end (fun a w ok => ?_)
         first | (refine WPs.run ?_ a w ok; clear ok w a) | skip
         repeat refine s_seqs ?_
         refine s_reg ?_
         refine step_pure rfl (pure_load_agg (i := 0) (vs := cs') rfl rfl rfl rfl rfl (by show 0 + 16 ≤ cs'.length; omega) (load16 hl5)) ?_
         refine step_store_agg 1 rfl rfl rfl ho5 rfl hl5 rfl rfl (Nat.le_of_ble_eq_true rfl) (splice_all hl5) ?_
         refine Vc.step_end (fun a w ok => ?_)
         first | (refine WPs.run ?_ a w ok; clear ok w a) | skip
         exact s_ret fun a w ok => ends_givesP on (.inr rfl) ok (res_cell_agg (i := 1) Try.results24 rfl rfl rfl rfl rfl (by show 0 + 16 ≤ cs'.length; omega) (by show (cs'.drop 0).take 16 = cs'; rw [List.drop_zero]; exact List.take_of_length_le (by omega))) dnR_mono ⟨_, cs', rfl, hs', resizeF_ok hok _ _⟩
set_option maxHeartbeats 4000000 in
theorem gridmay_any (s : Scr) (cs : List Value) (l : List Ord) (v : Value) (w : World) (hs : ScV (At w) s cs) (h1 : s.cells.length ≤ maxLen) (h2 : s.main.length ≤ maxLen) (hv : SlC (At w) 3 v l.length (opR l)) (hlm : l.length ≤ maxLen) :
  Gives tb 6 [.agg cs.toArray, v] w (.bool true) := by
 have hmx : maxLen ≤ 9223372036854775807 := by decide
 replace hs := scv_cz hs
 replace hv : SlC (Cz (fun _ => True) ⟨w, [], []⟩) 3 v l.length (opR l) := hv.mono fun p x h => ⟨⟨h, by simp⟩, trivial⟩
 obtain ⟨base1, cap1, rfl, hcap1⟩ := slc_sl hv
 obtain ⟨a1, l1, c1, a2, l2, c2, rfl⟩ := scv_agg hs
 refine gives_ofk (fn := Try.f6) Try.func6 rfl Try.ntmps6 rfl (fun on => ?_)
 repeat refine s_seqs ?_
 refine s_reg ?_
 refine step_box_agg rfl rfl (fun b2 => ?_)
 refine qa rfl rfl ?_
 refine Vc.step_end (fun a w ok => ?_)
 first | (refine WPs.run ?_ a w ok; clear ok w a) | skip
 repeat refine s_seqs ?_
 refine s_reg ?_
 refine step_gives rfl fun7 rfl (fun w _ _ => gawake_any w) ?_
 refine qa rfl rfl ?_
 refine Vc.step_end (fun a w ok => ?_)
 first | (refine WPs.run ?_ a w ok; clear ok w a) | skip
 repeat refine s_seqs ?_
 refine s_meet [(1, .slice base1 l.length cap1), (2, .pointer (some ⟨b2, 0, none⟩)), (5, .bool true), (19, .bool (!(few s && scOk s)))] [⟨b2, scC s (.slice a1 l1 c1) (.slice a2 l2 c2), tSc⟩] ?_ (fun a w ok => WPs.run ?_ a w ok)
 ·have hfw := fun w' (kp : Keep w w' []) => few_any s _ w' (hs.mono (Cz.now kp))
  have hck := fun w' (kp : Keep w w' []) => check_any s _ w' (hs.mono (Cz.now kp)) h1 h2
  have hce : ((ckE s) != 0) = !scOk s := by unfold ckE; cases scOk s <;> rfl
  generalize few s = fw at *
  generalize scOk s = so at *
  repeat refine c_seq ?_
  refine c_region ?_
  first | refine step_pure rfl (pure_load_agg (i := 0) rfl rfl rfl rfl rfl (by first | decide | exact Nat.le_of_ble_eq_true rfl) rfl) ?_ | refine step_pure rfl (pure_load_agg (i := 1) rfl rfl rfl rfl rfl (by first | decide | exact Nat.le_of_ble_eq_true rfl) rfl) ?_ | refine step_pure rfl (pure_load_agg (i := 2) rfl rfl rfl rfl rfl (by first | decide | exact Nat.le_of_ble_eq_true rfl) rfl) ?_ | refine step_pure rfl (pure_load_agg (i := 3) rfl rfl rfl rfl rfl (by first | decide | exact Nat.le_of_ble_eq_true rfl) rfl) ?_ | refine step_pure rfl (pure_load_agg (i := 4) rfl rfl rfl rfl rfl (by first | decide | exact Nat.le_of_ble_eq_true rfl) rfl) ?_ | refine step_pure rfl (pure_load_agg (i := 5) rfl rfl rfl rfl rfl (by first | decide | exact Nat.le_of_ble_eq_true rfl) rfl) ?_
  refine step_gives rfl fun10 rfl (fun w' hh kp => hfw w' kp) ?_
  refine step_pure rfl (pure_not rfl) ?_
  refine qm rfl rfl ?_
  refine step_split (t := 15) rfl (fun h15 => ?_) (fun h15 => ?_)
  ·refine qp rfl rfl rfl ?_
   refine qp rfl rfl rfl ?_
   refine qp rfl rfl rfl ?_
   refine step_pure rfl (pure_pick_yes rfl rfl) ?_
   refine step_nil ?_
   refine less_of ⟨rfl, rfl, rfl, ?_, trivial⟩ rfl
   refine congrArg some (congrArg Value.bool ?_)
   clear hfw hck hce
   simp_all
  ·first | refine step_pure rfl (pure_load_agg (i := 0) rfl rfl rfl rfl rfl (by first | decide | exact Nat.le_of_ble_eq_true rfl) rfl) ?_ | refine step_pure rfl (pure_load_agg (i := 1) rfl rfl rfl rfl rfl (by first | decide | exact Nat.le_of_ble_eq_true rfl) rfl) ?_ | refine step_pure rfl (pure_load_agg (i := 2) rfl rfl rfl rfl rfl (by first | decide | exact Nat.le_of_ble_eq_true rfl) rfl) ?_ | refine step_pure rfl (pure_load_agg (i := 3) rfl rfl rfl rfl rfl (by first | decide | exact Nat.le_of_ble_eq_true rfl) rfl) ?_ | refine step_pure rfl (pure_load_agg (i := 4) rfl rfl rfl rfl rfl (by first | decide | exact Nat.le_of_ble_eq_true rfl) rfl) ?_ | refine step_pure rfl (pure_load_agg (i := 5) rfl rfl rfl rfl rfl (by first | decide | exact Nat.le_of_ble_eq_true rfl) rfl) ?_
   refine step_gives rfl fun11 rfl (fun w' hh kp => hck w' kp) ?_
   refine step_as rfl (pure_neq rfl rfl) (congrArg Value.bool hce) ?_
   refine step_pure rfl (pure_pick_no rfl rfl) ?_
   refine step_nil ?_
   refine less_of ⟨rfl, rfl, rfl, ?_, trivial⟩ rfl
   refine congrArg some (congrArg Value.bool ?_)
   clear hfw hck hce
   simp_all
 repeat refine s_seqs ?_
 refine s_cond rfl (fun h => ?_) (fun h => ?_)
 ·repeat refine s_seqs ?_
  refine s_reg ?_
  refine qm rfl rfl ?_
  refine qa rfl rfl ?_
  refine Vc.step_end (fun a w ok => ?_)
  first | (refine WPs.run ?_ a w ok; clear ok w a) | skip
  exact s_ret fun a w ok => ends_k on (.inr rfl) ok (res_tmp Try.results6 rfl)
 have hfo : few s = true ∧ scOk s = true := by
  cases hf : few s <;> cases ho : scOk s <;> rw [hf, ho] at h <;> first | exact ⟨rfl, rfl⟩ | cases h
 clear h
 refine s_skip fun a w ok => WPs.run ?_ a w ok
 clear ok w a
 obtain ⟨hfw, hso⟩ := hfo
 have hok := (scOk_iff s).1 hso
 have hid : ∀ t : Scr, ScOk t → doF id t = t := fun t ht => by unfold doF; rw [(scOk_iff _).2 ht, if_pos rfl]; rfl
 repeat refine s_seqs ?_
 refine s_reg ?_
 first | refine step_pure rfl (pure_load_agg (i := 0) rfl rfl rfl rfl rfl (by first | decide | exact Nat.le_of_ble_eq_true rfl) rfl) ?_ | refine step_pure rfl (pure_load_agg (i := 1) rfl rfl rfl rfl rfl (by first | decide | exact Nat.le_of_ble_eq_true rfl) rfl) ?_ | refine step_pure rfl (pure_load_agg (i := 2) rfl rfl rfl rfl rfl (by first | decide | exact Nat.le_of_ble_eq_true rfl) rfl) ?_ | refine step_pure rfl (pure_load_agg (i := 3) rfl rfl rfl rfl rfl (by first | decide | exact Nat.le_of_ble_eq_true rfl) rfl) ?_ | refine step_pure rfl (pure_load_agg (i := 4) rfl rfl rfl rfl rfl (by first | decide | exact Nat.le_of_ble_eq_true rfl) rfl) ?_ | refine step_pure rfl (pure_load_agg (i := 5) rfl rfl rfl rfl rfl (by first | decide | exact Nat.le_of_ble_eq_true rfl) rfl) ?_
 refine step_givesP on.sc rfl fun23 rfl (fun w' Z' hh kp hZ hC => copy_P s _ w' hZ (hs.mono (Cz.now kp)) h1 h2) ?_
 rintro u E1 g ⟨cs3, rfl, hs3⟩
 rw [hid s hok] at hs3
 replace on := on.next g
 replace hv := hv.mono g.cz
 clear g hs
 obtain ⟨hl3, ho3⟩ := scv_form hs3
 refine step_alloc rfl zero27 (fun b6 => ?_)
 refine step_store_agg 0 rfl rfl rfl ho3 rfl hl3 rfl rfl (Nat.le_of_ble_eq_true rfl) (splice_all hl3) ?_
 refine Vc.step_end (fun a w ok => ?_)
 first | (refine WPs.run ?_ a w ok; clear ok w a) | skip
 repeat refine s_seqs ?_
 refine s_reg ?_
 refine qa rfl rfl ?_
 refine Vc.step_end (fun a w ok => ?_)
 first | (refine WPs.run ?_ a w ok; clear ok w a) | skip
 repeat refine s_seqs ?_
 refine s_block ?_
 repeat refine s_seqs ?_
 refine s_loopP (α := Nat × List Value) (fun y => [(1, .slice base1 l.length cap1), (5, .bool true), (6, .pointer (some ⟨b6, 0, none⟩)), (7, .int .i64 y.1)]) (fun y => [⟨b6, y.2, tSc⟩])
  (fun y E => y.1 ≤ l.length ∧ ∃ t, ScV (Cz (fun _ => True) E) t y.2 ∧ ScOk t) (fun y => l.length - y.1) (0, _) ⟨Nat.zero_le _, s, hs3, hok⟩ (less_sub ⟨rfl, rfl, rfl, rfl, trivial⟩ (by repeat (first | exact List.Sublist.refl _ | exact List.nil_sublist _ | apply List.Sublist.cons_cons | apply List.Sublist.cons))) ?_
 clear hs3 hl3 ho3 cs3 hfw hso hok h1 h2
 rintro ⟨i, cs⟩ E2 ⟨hi, t, hs, hok⟩ g
 replace on := on.next g
 replace hv := hv.mono g.cz
 clear g
 dsimp only at hi hs ⊢
 obtain ⟨hl1, ho1⟩ := scv_form hs
 obtain ⟨hn1, hn2⟩ := ok_lens hok
 have hck0 : ckE t = 0 := by unfold ckE; rw [(scOk_iff t).2 hok]; rfl
 repeat refine s_seqs ?_
 refine s_meet [(1, .slice base1 l.length cap1), (5, .bool true), (6, .pointer (some ⟨b6, 0, none⟩)), (7, .int .i64 i), (30, .bool (decide (i < l.length) && decide (i < 50)))] [⟨b6, cs, tSc⟩] ?_ (fun a w ok => WPs.run ?_ a w ok)
 ·have e1 : decide ((i : Int) < (l.length : Int)) = decide (i < l.length) := by rw [Bool.eq_iff_iff, decide_eq_true_iff, decide_eq_true_iff]; omega
  have e2 : decide ((i : Int) < 50) = decide (i < 50) := by rw [Bool.eq_iff_iff, decide_eq_true_iff, decide_eq_true_iff]; omega
  generalize decide (i < l.length) = d1 at *
  generalize decide (i < 50) = d2 at *
  repeat refine c_seq ?_
  refine c_region ?_
  refine qm rfl rfl ?_
  refine qm rfl rfl ?_
  refine step_pure rfl (pure_len_slice rfl rfl rfl) ?_
  refine step_as rfl (pure_lss rfl rfl) (congrArg Value.bool e1) ?_
  refine qm rfl rfl ?_
  refine step_split (t := 27) rfl (fun h27 => ?_) (fun h27 => ?_)
  ·refine qm rfl rfl ?_
   refine step_as rfl (pure_lss rfl rfl) (congrArg Value.bool e2) ?_
   refine step_pure rfl (pure_pick_yes rfl rfl) ?_
   refine step_nil ?_
   refine less_of ⟨rfl, rfl, rfl, rfl, ?_, trivial⟩ rfl
   refine congrArg some (congrArg Value.bool ?_)
   clear e1 e2
   simp_all
  ·refine qp rfl rfl rfl ?_
   refine qp rfl rfl rfl ?_
   refine step_pure rfl (pure_pick_no rfl rfl) ?_
   refine step_nil ?_
   refine less_of ⟨rfl, rfl, rfl, rfl, ?_, trivial⟩ rfl
   refine congrArg some (congrArg Value.bool ?_)
   clear e1 e2
   simp_all
 repeat refine s_seqs ?_
 refine s_cond rfl (fun h => ?_) (fun h => ?_)
 ·have hlt : i < l.length := by
   rw [Bool.and_eq_true, decide_eq_true_eq] at h
   exact h.1
  clear h
  refine s_skip fun a w ok => WPs.run ?_ a w ok
  clear ok w a
  obtain ⟨p, k, e1, q1⟩ := slc_op hv hlt
  cases e1
  generalize l.getD i (0, 0, 0) = o at *
  repeat refine s_seqs ?_
  refine s_block ?_
  repeat refine s_seqs ?_
  refine s_reg ?_
  refine step_pure rfl (pure_load_agg (i := 0) (vs := cs) rfl rfl rfl rfl rfl (by show 0 + 16 ≤ cs.length; omega) (load16 hl1)) ?_
  refine step_givesP on.sc rfl fun23 rfl (fun w' Z' hh kp hZ hC => copy_P t cs w' hZ (hs.mono (Cz.now kp)) hn1 hn2) ?_
  rintro u E3 g ⟨cs4, rfl, hs4⟩
  rw [hid t hok] at hs4
  replace on := on.next g
  replace hv := hv.mono g.cz
  replace hs := hs.mono g.cz
  replace q1 := fun j x h => g.cz _ _ (q1 j x h)
  have g5 := g
  clear g
  obtain ⟨hl4, ho4⟩ := scv_form hs4
  refine step_alloc rfl zero27 (fun b8 => ?_)
  refine step_store_agg 0 rfl rfl rfl ho4 rfl hl4 rfl rfl (Nat.le_of_ble_eq_true rfl) (splice_all hl4) ?_
  refine Vc.step_end (fun a w ok => ?_)
  first | (refine WPs.run ?_ a w ok; clear ok w a) | skip
  repeat refine s_seqs ?_
  refine s_dreg [3, 9, 17, 25, 35, 43, 53, 60] ([⟨b8, cs4, tSc⟩, ⟨b6, cs, tSc⟩]) follows (by kernel_rfl) ?_
  refine d_pure1 rfl rfl rfl (pure_load_agg (i := 1) (vs := cs) rfl rfl rfl rfl rfl (by show 0 + 16 ≤ cs.length; omega) (load16 hl1)) (by first | exact SubMem.refl _ | exact (SubMem.refl _).cons | exact (SubMem.refl _).cons.cons | exact (SubMem.refl _).cons.cons.cons | exact (SubMem.refl _).cons.cons.cons.cons | exact (fun w hh => Has.sublist (by repeat (first | exact List.Sublist.refl _ | exact List.nil_sublist _ | apply List.Sublist.cons_cons | apply List.Sublist.cons)) hh)) ?_
  refine qd rfl rfl rfl rfl ?_
  refine qd rfl rfl rfl rfl ?_
  refine d_as0 rfl rfl rfl (pure_indexAddr_at rfl rfl rfl rfl rfl (by omega) (by omega)) (show _ = Value.pointer (some (p.add (i * 3))) from by show Value.pointer (some (p.add ((i : Int).toNat * 3))) = _; rw [Int.toNat_natCast]) ?_
  refine d_pure1 rfl rfl rfl (pure_cel_agg (vs := [Value.int .i64 o.1, .int .i64 o.2.1, .int .i64 o.2.2]) rfl rfl rfl rfl (fun j v h => (q1 j v h).1)) (by first | exact SubMem.refl _ | exact (SubMem.refl _).cons | exact (SubMem.refl _).cons.cons | exact (SubMem.refl _).cons.cons.cons | exact (SubMem.refl _).cons.cons.cons.cons | exact (fun w hh => Has.sublist (by repeat (first | exact List.Sublist.refl _ | exact List.nil_sublist _ | apply List.Sublist.cons_cons | apply List.Sublist.cons)) hh)) ?_
  refine d_fork on.sc rfl rfl rfl fun24 rfl (fun w' Z' hh kp hZ hC => dn_P t cs o.1 o.2.1 o.2.2 w' hZ (hs.mono (Cz.now kp)) hok) rfl rfl (fun _ => rfl) rfl (fun _ => rfl) (fun _ => rfl) zero27 (by first | exact SubMem.refl _ | exact (SubMem.refl _).cons | exact (SubMem.refl _).cons.cons | exact (SubMem.refl _).cons.cons.cons | exact (SubMem.refl _).cons.cons.cons.cons | exact (fun w hh => Has.sublist (by repeat (first | exact List.Sublist.refl _ | exact List.nil_sublist _ | apply List.Sublist.cons_cons | apply List.Sublist.cons)) hh)) rfl rfl (by kernel_rfl) (by decide) (by decide) ?_
  rintro u E4 b9 g ⟨t5, cs5, rfl, hs5, hok5⟩
  replace on := on.next g
  replace hv := hv.mono g.cz
  replace hs := hs.mono g.cz
  replace hs4 := hs4.mono g.cz
  have g6 := g5.trans g
  clear g
  obtain ⟨hl5, ho5⟩ := scv_form hs5
  skip
  refine d_store_agg 0 rfl rfl rfl rfl rfl ho5 rfl hl5 rfl rfl (Nat.le_of_ble_eq_true rfl) (splice_all hl5) rfl rfl ?_
  refine d_end (fun a w ok => ?_)
  first | (refine WPs.run ?_ a w ok; clear ok w a) | skip
  obtain ⟨hn3, hn4⟩ := ok_lens hok5
  have hck5 : ckE t5 = 0 := by unfold ckE; rw [(scOk_iff t5).2 hok5]; rfl
  have hsm := fun w' (kp : Keep E4.w0 w' E4.ws) => same_eq t cs cs4 w' (hs.mono (Cz.now kp)) (hs4.mono (Cz.now kp)) hn1 hn2
  have hck := fun w' (kp : Keep E4.w0 w' E4.ws) => check_any t5 cs5 w' (hs5.mono (Cz.now kp)) hn3 hn4
  rw [hck5] at hck
  repeat refine s_seqs ?_
  refine s_reg ?_
  refine step_pure rfl (pure_load_agg (i := 2) (vs := cs) rfl rfl rfl rfl rfl (by show 0 + 16 ≤ cs.length; omega) (load16 hl1)) ?_
  refine step_pure rfl (pure_load_agg (i := 1) (vs := cs4) rfl rfl rfl rfl rfl (by show 0 + 16 ≤ cs4.length; omega) (load16 hl4)) ?_
  refine step_gives rfl fun14 rfl (fun w' hh kp => hsm w' kp) ?_
  refine qa rfl rfl ?_
  refine Vc.step_end (fun a w ok => ?_)
  first | (refine WPs.run ?_ a w ok; clear ok w a) | skip
  repeat refine s_seqs ?_
  refine s_reg ?_
  refine qm rfl rfl ?_
  refine step_pure rfl (pure_not rfl) ?_
  refine qm rfl rfl ?_
  first | refine step_pure rfl (pure_load_agg (i := 0) (vs := cs5) rfl rfl rfl rfl rfl (by show 0 + 16 ≤ cs5.length; omega) (load16 hl5)) ?_ | refine qp rfl rfl rfl ?_
  first | refine step_gives rfl fun11 rfl (fun w' hh kp => hck w' kp) ?_ | refine qp rfl rfl rfl ?_
  first | refine step_pure rfl (pure_neq rfl rfl) ?_ | refine qp rfl rfl rfl ?_
  first | refine step_pure rfl (pure_pick_yes rfl rfl) ?_ | refine step_pure rfl (pure_pick_no rfl rfl) ?_ | refine step_pure rfl (pure_pick_bool rfl rfl rfl) ?_
  refine Vc.step_end (fun a w ok => ?_)
  first | (refine WPs.run ?_ a w ok; clear ok w a) | skip
  repeat refine s_seqs ?_
  refine s_cond_no rfl rfl ?_
  refine s_skip fun a w ok => WPs.run ?_ a w ok
  clear ok w a
  repeat refine s_seqs ?_
  refine s_reg ?_
  refine step_pure rfl (pure_load_agg (i := 0) (vs := cs5) rfl rfl rfl rfl rfl (by show 0 + 16 ≤ cs5.length; omega) (load16 hl5)) ?_
  refine step_store_agg 2 rfl rfl rfl ho5 rfl hl5 rfl rfl (by show 0 + 16 ≤ cs.length; omega) (splice_all (by rw [hl5]; exact hl1.symm)) ?_
  refine Vc.step_end (fun a w ok => ?_)
  first | (refine WPs.run ?_ a w ok; clear ok w a) | skip
  repeat refine s_seqs ?_
  refine s_reg ?_
  refine qm rfl rfl ?_
  first | refine step_pure rfl (pure_add64 rfl rfl (by omega) (by omega)) ?_ | refine step_pure rfl (pure_add rfl rfl) ?_
  refine qa rfl rfl ?_
  refine Vc.step_end (fun a w ok => ?_)
  refine ⟨(i + 1, cs5), E4, ⟨hlt, t5, hs5, hok5⟩, by show l.length - (i + 1) < l.length - i; omega, g6, Less.ok ?_ ok⟩
  exact less_sub ⟨rfl, rfl, rfl, rfl, trivial⟩ (by repeat (first | exact List.Sublist.refl _ | exact List.nil_sublist _ | apply List.Sublist.cons_cons | apply List.Sublist.cons))
 ·refine s_exit fun a w ok => WPs.run ?_ a w ok
  clear ok w a
  repeat refine s_seqs ?_
  refine s_reg ?_
  refine qm rfl rfl ?_
  refine qa rfl rfl ?_
  refine Vc.step_end (fun a w ok => ?_)
  first | (refine WPs.run ?_ a w ok; clear ok w a) | skip
  exact s_ret fun a w ok => ends_k on (.inr rfl) ok (res_tmp Try.results6 rfl)
end Go.Proofs.Ytbcpgdjhomoghaa
