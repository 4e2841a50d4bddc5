/- A new screen; cells of another size: walked. -/
import Derived.Test.YtbcpgdjhomoghaaG10
namespace Go.Proofs.Ytbcpgdjhomoghaa
open Go.RowKit Go.Vc
set_option linter.unusedVariables false
theorem res_cell_tmp {B : Tb} {rs : Rs} {m : Mem} {fn : Func} {t u : Tmp} {T : TypeId} {b off i : Nat} {e : Ent} {d : Ty} {vs : List Value} {x : Value} (h : fn.results = #[.cell t T, .tmp u])
  (hx : Vc.look rs t = some (.pointer (some ⟨b, off, none⟩))) (hT : B.ty T = some d) (hd : d.agg = true) (he : nth m i = some e) (hb : e.blk = b)
  (hl : off + d.size ≤ e.cells.length) (hv : (e.cells.drop off).take d.size = vs) (hu : Vc.look rs u = some x) : ResIs B fn rs m (.tuple #[.agg vs.toArray, x]) := by
 refine ⟨fun a w hr hh => ?_⟩
 have h1 := hr t _ hx
 have h2 := hr u _ hu
 have hc := hh.cell (nth_mem he)
 rw [hb] at hc
 subst hv
 simp [results, h, Array.getD_eq_getD_getElem?, h1, h2, asAddr, loadVar, ty_agg hT, hd, ty_size hT, run_loadCells0 hc _ hl]
theorem fill_ce (c : Ce) : fillL (fun i => some (i * uC.size, uC.size)) (rowOf [.int .i64 0, .int .i64 0] (1 * uC.size)) [(0, .agg [Value.int .i64 c.1, .int .i64 c.2].toArray)] = some (ceR [c]) := by
 rw [show 1 * uC.size = 1 * 2 from rfl, ceR_zero 1]
 rfl
theorem slc_none {C : Addr → Value → Prop} : SlC C 2 (.slice none 0 0) 0 [] := ⟨none, 0, rfl, Nat.le_refl _, rfl, fun h => absurd rfl h⟩
theorem zSc_v {C : Addr → Value → Prop} : ScV C zScr (scC zScr (.slice none 0 0) (.slice none 0 0)) := ⟨_, _, rfl, slc_none, slc_none⟩
def NwR (w h : Int) (u : Value) (C : Addr → Value → Prop) : Prop := ∃ cs, u = .tuple #[.agg cs.toArray, .int .i64 (if (side w && side h) = true then 0 else 170)] ∧ ScV C (newS w h) cs
theorem nwR_mono {w h : Int} : ∀ v (C C' : Addr → Value → Prop), (∀ p x, C p x → C' p x) → NwR w h v C → NwR w h v C' := by
 rintro v C C' hC ⟨cs, rfl, h⟩
 exact ⟨cs, rfl, h.mono hC⟩
set_option maxHeartbeats 1000000 in
theorem new_P (W H : Int) (w : World) {Z : Nat → Prop} (hZ : ∀ j, w.heap.size ≤ j → Z j) : GivesP tb 8 [.int .i64 W, .int .i64 H] w Z (NwR W H) := by
 have hwi : ∀ n w, Gives tb 25 [.int .i64 n, .int .i64 1, .int .i64 64] w (.bool (side n)) := fun n w => within_any n 1 64 w
 refine givesP_of (fn := Try.f8) Try.func8 rfl Try.ntmps8 rfl hZ nwR_mono (fun on => ?_)
 repeat refine s_seqs ?_
 refine s_reg ?_
 refine step_alloc rfl zero27 (fun b4 => ?_)
 refine qa rfl rfl ?_
 refine Vc.step_end (fun a w ok => ?_)
 first | (refine WPs.run ?_ a w ok; clear ok w a) | skip
 repeat refine s_seqs ?_
 refine s_meet [(0, .int .i64 W), (1, .int .i64 H), (4, .pointer (some ⟨b4, 0, none⟩)), (13, .bool (!(side W && side H)))] [⟨b4, scC zScr (.slice none 0 0) (.slice none 0 0), tSc⟩] ?_ (fun a w ok => WPs.run ?_ a w ok)
 ·repeat refine c_seq ?_
  refine c_region ?_
  refine qm rfl rfl ?_
  refine step_gives rfl fun25 rfl (fun w _ _ => hwi _ w) ?_
  refine step_pure rfl (pure_not rfl) ?_
  refine qm rfl rfl ?_
  refine step_split (t := 9) rfl (fun h9 => ?_) (fun h9 => ?_)
  ·refine qp rfl rfl rfl ?_
   refine qp rfl rfl rfl ?_
   refine qp rfl rfl rfl ?_
   refine step_pure rfl (pure_pick_yes rfl rfl) ?_
   refine step_nil ?_
   refine less_of ⟨rfl, rfl, rfl, ?_, trivial⟩ rfl
   refine congrArg some (congrArg Value.bool ?_)
   simp_all
  ·refine qm rfl rfl ?_
   refine step_gives rfl fun25 rfl (fun w _ _ => hwi _ w) ?_
   refine step_pure rfl (pure_not rfl) ?_
   refine step_pure rfl (pure_pick_no rfl rfl) ?_
   refine step_nil ?_
   refine less_of ⟨rfl, rfl, rfl, ?_, trivial⟩ rfl
   refine congrArg some (congrArg Value.bool ?_)
   simp_all
 cases hsd : (side W && side H) with
 | false =>
  repeat refine s_seqs ?_
  refine s_cond_yes rfl rfl ?_
  repeat refine s_seqs ?_
  refine s_reg ?_
  refine step_pure rfl (pure_build_struct (pl := [(0, 1), (1, 1), (2, 1), (3, 1), (4, 1), (5, 1), (6, 1), (7, 1), (8, 1), (9, 1), (10, 1), (11, 1), (12, 3), (15, 1)]) rfl zero27 rfl rfl rfl rfl) ?_
  refine step_store_agg 0 rfl rfl rfl (of_one rfl) rfl rfl rfl rfl (Nat.le_of_ble_eq_true rfl) (show _ = scC zScr (.slice none 0 0) (.slice none 0 0) from rfl) ?_
  refine qa rfl rfl ?_
  refine Vc.step_end (fun a w ok => ?_)
  first | (refine WPs.run ?_ a w ok; clear ok w a) | skip
  exact s_ret fun a w ok => ends_givesP on (.inr rfl) ok (res_cell_tmp (i := 0) Try.results8 rfl rfl rfl rfl rfl (Nat.le_of_ble_eq_true rfl) rfl rfl) nwR_mono ⟨_, by rw [hsd]; rfl, by unfold newS; rw [hsd]; exact zSc_v⟩
 | true =>
  repeat refine s_seqs ?_
  refine s_cond_no rfl rfl ?_
  refine s_skip fun a w ok => WPs.run ?_ a w ok
  clear ok w a
  obtain ⟨h1, h2⟩ := Bool.and_eq_true_iff.1 hsd
  have h1 := side_in h1
  have h2 := side_in h2
  have hm := mulIn (x := W) (y := H) (by omega) (by omega)
  have hnn : 1 ≤ W * H := by have := Int.mul_le_mul h1.1 h2.1 (by omega) (by omega); omega
  obtain ⟨n, hn⟩ : ∃ n : Nat, W * H = n := ⟨(W * H).toNat, by omega⟩
  repeat refine s_seqs ?_
  refine s_reg ?_
  refine qm rfl rfl ?_
  refine qm rfl rfl ?_
  refine step_gives rfl fun27 rfl (fun w _ _ => empty_any w) ?_
  refine step_buildSlice rfl rfl rfl rfl elem33 (by decide) (by decide) (fill_ce blC) (fun b18 => ?_)
  refine l_let 0 rfl (fun E2 g hc => ?_)
  have hv2 := slis_cz (sl_built uC tC b18 (ceR [blC]) 1 rfl) (hc _ on.sc)
  replace on := on.next g
  clear g hc
  refine qm rfl rfl ?_
  refine qm rfl rfl ?_
  refine step_as rfl (pure_mul rfl rfl) (show _ = Value.int .i64 (n : Int) from congrArg (Value.int .i64) (by rw [← hn]; exact wrap_i64 (by omega) (by omega))) ?_
  refine step_wm [] _ on.sc rfl fun26 rfl (List.Perm.refl _) (fun w' Z' hh kp h0 hZ hZ0 hC => repeat_W n _ w' hZ (hv2.mono (Cz.now kp)) (by omega) (by omega)) ?_
  rintro u m1 E3 g ⟨b22, rfl, rfl⟩
  replace on := on.next g
  clear g hv2
  refine l_let 0 rfl (fun E4 g hc => ?_)
  have hv2 := slis_cz (sl_built uC tC b22 (ceR (List.replicate n blC)) n (by rw [ceR_len, List.length_replicate]; rfl)) (hc _ on.sc)
  replace on := on.next g
  clear g hc
  refine qm rfl rfl ?_
  refine step_pure rfl (pure_sub64 rfl rfl (by omega) (by omega)) ?_
  refine step_pure rfl (pure_build_struct (pl := [(0, 1), (1, 1), (2, 1), (3, 1), (4, 1), (5, 1), (6, 1), (7, 1), (8, 1), (9, 1), (10, 1), (11, 1), (12, 3), (15, 1)]) rfl zero27 rfl rfl rfl rfl) ?_
  refine step_store_agg 0 rfl rfl rfl (of_one rfl) rfl rfl rfl rfl (Nat.le_of_ble_eq_true rfl) (show _ = scC (newS W H) (.slice (some ⟨b22, 0, none⟩) n n) (.slice none 0 0) from by unfold newS; rw [hsd]; rfl) ?_
  refine qa rfl rfl ?_
  refine Vc.step_end (fun a w ok => ?_)
  first | (refine WPs.run ?_ a w ok; clear ok w a) | skip
  exact s_ret fun a w ok => ends_givesP on (.inr rfl) ok (res_cell_tmp (i := 0) Try.results8 rfl rfl rfl rfl rfl (Nat.le_of_ble_eq_true rfl) rfl rfl) nwR_mono ⟨_, by rw [hsd]; rfl, _, _, rfl, by unfold newS; rw [hsd, if_pos rfl, hn, Int.toNat_natCast, List.length_replicate]; exact hv2, by unfold newS; rw [hsd]; exact slc_none⟩
end Go.Proofs.Ytbcpgdjhomoghaa
