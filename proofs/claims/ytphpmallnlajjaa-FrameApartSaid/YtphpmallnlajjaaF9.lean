/- Which frames ask; a frame's numbers: walked. -/
import Derived.Test.YtphpmallnlajjaaF8
namespace Go.Proofs.Ytphpmallnlajjaa
open Go.RowKit Go.Vc
set_option linter.unusedVariables false

def ixF (ns : List Int) (x : Int) : Int := if x ∈ ns then (ns.idxOf x : Int) else -1
theorem index_any (ns : List Int) (x : Int) (v : Value) (w : World) (hv : SlC (fun p x => w.cell? p = some x) 1 v ns.length (ints .i64 ns)) (hn : ns.length ≤ 1000000) :
    Gives tb 36 [v, .int .i64 x] w (.int .i64 (ixF ns x)) := by
  obtain ⟨base0, cap0, rfl, hcap, hlen, hc⟩ := hv
  refine gives_of (fn := Try.f36) Try.func36 rfl Try.ntmps36 rfl ?_
  repeat refine c_seq ?_
  refine c_region ?_
  refine step_pure rfl (pure_assign rfl) ?_
  refine step_nil ?_
  repeat refine c_seq ?_
  refine c_region ?_
  refine step_pure rfl (pure_move rfl) ?_
  refine step_pure rfl (pure_len_slice rfl rfl rfl) ?_
  refine step_pure rfl (pure_move rfl) ?_
  refine step_nil ?_
  repeat refine c_seq ?_
  refine c_block ?_
  repeat refine c_seq ?_
  refine c_loop (α := Nat) (fun i => [(0, .slice base0 ns.length cap0), (1, .int .i64 x), (7, .int .i64 ns.length), (8, .int .i64 i)]) (fun _ => []) (fun i => i ≤ ns.length ∧ x ∉ ns.take i) (fun i => ns.length - i) 0 ⟨Nat.zero_le _, by simp⟩ (less_of ⟨rfl, rfl, rfl, rfl, trivial⟩ rfl) ?_
  rintro i ⟨hi, hno⟩
  repeat refine c_seq ?_
  refine c_region ?_
  refine step_pure rfl (pure_lss rfl rfl) ?_
  refine step_nil ?_
  repeat refine c_seq ?_
  refine c_cond rfl (fun h => ?_) (fun h => ?_)
  · have hlt : i < ns.length := by have := of_decide_eq_true h; omega
    clear h
    obtain ⟨p, rfl, hp⟩ := hc (by intro h; have := ints_len .i64 ns; rw [h] at this; simp at this; omega)
    have hcell := hp i _ (ints_get .i64 ns i hlt)
    have hget : ns.getD i 0 = ns[i] := by rw [List.getD_eq_getElem?_getD, List.getElem?_eq_getElem hlt]; rfl
    rw [hget] at hcell
    have htk := List.take_succ_eq_append_getElem hlt
    have hix : x = ns[i] → ixF ns x = i := by
      intro he
      unfold ixF
      rw [if_pos (by rw [he]; exact List.getElem_mem hlt)]
      congr 1
      have h1 : ns = ns.take i ++ ns.drop i := (List.take_append_drop i ns).symm
      rw [h1, List.idxOf_append, if_neg hno, List.drop_eq_getElem_cons hlt, ← he, List.idxOf_cons_self, List.length_take]
      omega
    generalize ns[i] = y at *
    refine c_skip ?_
    repeat refine c_seq ?_
    refine c_block ?_
    repeat refine c_seq ?_
    refine c_region ?_
    refine step_pure rfl (pure_move rfl) ?_
    refine step_pure rfl (pure_assign rfl) ?_
    refine step_nil ?_
    repeat refine c_seq ?_
    refine c_region ?_
    refine step_pure rfl (pure_move rfl) ?_
    refine step_pure rfl (pure_move rfl) ?_
    refine step_pure rfl (pure_move rfl) ?_
    refine step_as rfl (pure_indexAddr_at rfl rfl rfl rfl rfl (by omega) (by omega)) (show _ = Value.pointer (some (p.add i)) from by show Value.pointer (some (p.add ((i : Int).toNat * 1))) = _; rw [Int.toNat_natCast, Nat.mul_one]) ?_
    refine step_pure rfl (pure_view_at rfl rfl rfl hcell List.not_mem_nil) ?_
    refine step_pure rfl (pure_eql rfl rfl) ?_
    refine step_nil ?_
    repeat refine c_seq ?_
    refine c_cond rfl (fun h => ?_) (fun h => ?_)
    · rw [hix (eq_of_beq h)]
      repeat refine c_seq ?_
      refine c_region ?_
      refine step_pure rfl (pure_move rfl) ?_
      refine step_pure rfl (pure_assign rfl) ?_
      refine step_nil ?_
      exact c_ret ⟨_, res_tmp Try.results36 rfl, rfl⟩
    · have hne := ne_of_beq_false h
      refine c_skip ?_
      repeat refine c_seq ?_
      refine c_region ?_
      first | refine step_pure rfl (pure_add64 rfl rfl (by omega) (by omega)) ?_ | refine step_pure rfl (pure_add rfl rfl) ?_
      refine step_pure rfl (pure_move rfl) ?_
      refine step_nil ?_
      exact ⟨i + 1, ⟨hlt, by rw [htk]; simp [hno, hne]⟩, by omega, less_of ⟨rfl, rfl, rfl, rfl, trivial⟩ rfl⟩
  · have hie : i = ns.length := by have := of_decide_eq_false h; omega
    have hix : ixF ns x = -1 := by
      rw [hie, List.take_length] at hno
      unfold ixF
      rw [if_neg hno]
    rw [hix]
    refine c_exit ?_
    repeat refine c_seq ?_
    refine c_region ?_
    refine step_pure rfl (pure_assign rfl) ?_
    refine step_nil ?_
    exact c_ret ⟨_, res_tmp Try.results36 rfl, rfl⟩
theorem contains_any (ns : List Int) (x : Int) (v : Value) (w : World) (hv : SlC (fun p x => w.cell? p = some x) 1 v ns.length (ints .i64 ns)) (hn : ns.length ≤ 1000000) :
    Gives tb 30 [v, .int .i64 x] w (.bool (decide (x ∈ ns))) := by
  refine gives_of (fn := Try.f30) Try.func30 rfl Try.ntmps30 rfl ?_
  have h : decide (ixF ns x ≥ 0) = decide (x ∈ ns) := by
    unfold ixF
    by_cases hx : x ∈ ns
    · rw [if_pos hx]; simp [hx]
    · rw [if_neg hx]; simp [hx]
  repeat refine c_seq ?_
  refine c_region ?_
  refine step_pure rfl (pure_assign rfl) ?_
  refine step_nil ?_
  repeat refine c_seq ?_
  refine c_region ?_
  refine step_pure rfl (pure_move rfl) ?_
  refine step_pure rfl (pure_move rfl) ?_
  refine step_gives rfl fun36 rfl (fun w' _ kp => index_any ns x v w' (slc_keep hv kp) hn) ?_
  refine step_pure rfl (pure_geq rfl rfl) ?_
  refine step_pure rfl (pure_assign rfl) ?_
  refine step_nil ?_
  exact c_ret ⟨_, res_tmp Try.results30 rfl, congrArg Value.bool h⟩

def asks (f : Fr) : Bool := fok f && !decide (f.kind ∈ [0, 2, 6, 7])
theorem fill_four {u : Ty} (kk : IntKind) (x y z t : Int) (hu : u.size = 1) : fillL (fun i => some (i * u.size, u.size)) (rowOf [.int kk 0] (4 * u.size)) [(0, .int kk x), (1, .int kk y), (2, .int kk z), (3, .int kk t)] = some (ints kk [x, y, z, t]) := by
  rw [hu, show 4 * 1 = 4 from rfl, rowOf_int]
  rfl
theorem eliciting_any (f : Fr) (cs : List Value) (w : World) (hf : FrC (fun p x => w.cell? p = some x) f cs) (hbig : f.data.length ≤ 9223372036854775807) : Gives tb 17 [.agg cs.toArray] w (.bool (asks f)) := by
  have hf0 := fun w' (kp : Keep w w' []) => hf.mono fun p x hp => cell_keep hp kp List.not_mem_nil
  obtain ⟨rv, dv, rfl, hr0, hd⟩ := hf
  clear hr0 hd
  refine gives_of (fn := Try.f17) Try.func17 rfl Try.ntmps17 rfl ?_
  by_cases hk : fok f = true
  · repeat refine c_seq ?_
    refine c_region ?_
    refine step_box_agg rfl rfl (fun b1 => ?_)
    refine step_pure rfl (pure_assign rfl) ?_
    refine step_nil ?_
    repeat refine c_seq ?_
    refine c_region ?_
    refine step_pure rfl (pure_load_agg (i := 0) rfl rfl rfl rfl rfl (by show 5 ≤ 5; decide) rfl) ?_
    refine step_gives rfl fun15 rfl (fun w' _ kp => check_any f _ w' (hf0 w' kp) hbig) ?_
    refine step_as rfl (pure_eql rfl rfl) (show _ = Value.bool true from by rw [if_pos hk]; rfl) ?_
    refine step_pure rfl (pure_move rfl) ?_
    first | refine step_buildSlice rfl rfl rfl rfl elem3 (by decide) (by decide) (fill_four .i64 0 2 6 7 rfl) (fun b7 => ?_) | refine step_pass rfl rfl rfl ?_
    first | refine step_pure rfl (pure_fieldAddr rfl rfl rfl rfl rfl (by decide)) ?_ | refine step_pass rfl rfl rfl ?_
    first | refine step_pure rfl (pure_load (i := 0) rfl rfl rfl rfl rfl rfl) ?_ | refine step_pure rfl (pure_load (i := 1) rfl rfl rfl rfl rfl rfl) ?_ | refine step_pure rfl (pure_load (i := 2) rfl rfl rfl rfl rfl rfl) ?_ | refine step_pure rfl (pure_load (i := 3) rfl rfl rfl rfl rfl rfl) ?_ | refine step_pure rfl (pure_load (i := 4) rfl rfl rfl rfl rfl rfl) ?_ | refine step_pure rfl (pure_load (i := 5) rfl rfl rfl rfl rfl rfl) ?_ | refine step_pass rfl rfl rfl ?_
    first | refine step_gives rfl fun30 rfl (fun w' hh kp => contains_any [0, 2, 6, 7] f.kind _ w' (slis_now (j := 0) (sl_built ty3 3 b7 (ints .i64 [0, 2, 6, 7]) 4 rfl) rfl w' hh kp) (by decide)) ?_ | refine step_pass rfl rfl rfl ?_
    first | refine step_pure rfl (pure_not rfl) ?_ | refine step_pass rfl rfl rfl ?_
    first | refine step_pure rfl (pure_pick_yes rfl rfl) ?_ | refine step_pure rfl (pure_pick_no rfl rfl) ?_ | refine step_pure rfl (pure_pick_bool rfl rfl rfl) ?_
    refine step_pure rfl (pure_assign rfl) ?_
    refine step_nil ?_
    exact c_ret ⟨_, res_tmp Try.results17 rfl, by unfold asks; rw [hk]; rfl⟩
  · repeat refine c_seq ?_
    refine c_region ?_
    refine step_box_agg rfl rfl (fun b1 => ?_)
    refine step_pure rfl (pure_assign rfl) ?_
    refine step_nil ?_
    repeat refine c_seq ?_
    refine c_region ?_
    refine step_pure rfl (pure_load_agg (i := 0) rfl rfl rfl rfl rfl (by show 5 ≤ 5; decide) rfl) ?_
    refine step_gives rfl fun15 rfl (fun w' _ kp => check_any f _ w' (hf0 w' kp) hbig) ?_
    refine step_as rfl (pure_eql rfl rfl) (show _ = Value.bool false from by rw [if_neg hk]; rfl) ?_
    refine step_pure rfl (pure_move rfl) ?_
    refine step_pass rfl rfl rfl ?_
    first | refine step_pure rfl (pure_fieldAddr rfl rfl rfl rfl rfl (by decide)) ?_ | refine step_pass rfl rfl rfl ?_
    first | refine step_pure rfl (pure_load (i := 0) rfl rfl rfl rfl rfl rfl) ?_ | refine step_pure rfl (pure_load (i := 1) rfl rfl rfl rfl rfl rfl) ?_ | refine step_pure rfl (pure_load (i := 2) rfl rfl rfl rfl rfl rfl) ?_ | refine step_pure rfl (pure_load (i := 3) rfl rfl rfl rfl rfl rfl) ?_ | refine step_pure rfl (pure_load (i := 4) rfl rfl rfl rfl rfl rfl) ?_ | refine step_pure rfl (pure_load (i := 5) rfl rfl rfl rfl rfl rfl) ?_ | refine step_pass rfl rfl rfl ?_
    refine step_pass rfl rfl rfl ?_
    first | refine step_pure rfl (pure_not rfl) ?_ | refine step_pass rfl rfl rfl ?_
    first | refine step_pure rfl (pure_pick_yes rfl rfl) ?_ | refine step_pure rfl (pure_pick_no rfl rfl) ?_ | refine step_pure rfl (pure_pick_bool rfl rfl rfl) ?_
    refine step_pure rfl (pure_assign rfl) ?_
    refine step_nil ?_
    exact c_ret ⟨_, res_tmp Try.results17 rfl, by unfold asks; rw [Bool.not_eq_true] at hk; rw [hk]; rfl⟩
theorem reliciting_any (f : Fr) (cs : List Value) (w : World) (hf : FrC (fun p x => w.cell? p = some x) f cs) (hbig : f.data.length ≤ 9223372036854775807) : Gives tb 18 [.agg cs.toArray] w (.bool (asks f)) := by
  have hf0 := fun w' (kp : Keep w w' []) => hf.mono fun p x hp => cell_keep hp kp List.not_mem_nil
  obtain ⟨rv, dv, rfl, hr0, hd⟩ := hf
  clear hr0 hd
  refine gives_of (fn := Try.f18) Try.func18 rfl Try.ntmps18 rfl ?_
  have ha : asks f = (fok f && !decide (f.kind ∈ [0, 2, 6, 7])) := rfl
  have he : ((if fok f = true then (0 : Int) else 20) == 0) = fok f := by cases fok f <;> rfl
  repeat refine c_seq ?_
  refine c_region ?_
  refine step_box_agg rfl rfl (fun b1 => ?_)
  refine step_pure rfl (pure_assign rfl) ?_
  refine step_nil ?_
  repeat refine c_seq ?_
  refine c_region ?_
  refine step_pure rfl (pure_load_agg (i := 0) rfl rfl rfl rfl rfl (by show 5 ≤ 5; decide) rfl) ?_
  refine step_gives rfl fun16 rfl (fun w' _ kp => rcheck_any f _ w' (hf0 w' kp) hbig) ?_
  refine step_as rfl (pure_eql rfl rfl) (show _ = Value.bool (fok f) from by rw [he]) ?_
  clear he hf0
  generalize fok f = k at ha ⊢
  refine step_pure rfl (pure_move rfl) ?_
  refine step_split (t := 6) rfl (fun h6 => ?_) (fun h6 => ?_)
  · refine step_pure rfl (pure_fieldAddr rfl rfl rfl rfl rfl (by decide)) ?_
    first | refine step_pure rfl (pure_load (i := 0) rfl rfl rfl rfl rfl rfl) ?_ | refine step_pure rfl (pure_load (i := 1) rfl rfl rfl rfl rfl rfl) ?_ | refine step_pure rfl (pure_load (i := 2) rfl rfl rfl rfl rfl rfl) ?_ | refine step_pure rfl (pure_load (i := 3) rfl rfl rfl rfl rfl rfl) ?_ | refine step_pure rfl (pure_load (i := 4) rfl rfl rfl rfl rfl rfl) ?_ | refine step_pure rfl (pure_load (i := 5) rfl rfl rfl rfl rfl rfl) ?_
    refine step_pure rfl (pure_neq rfl rfl) ?_
    refine step_pure rfl (pure_pick_yes rfl rfl) ?_
    refine step_pure rfl (pure_move rfl) ?_
    refine step_split (t := 11) rfl (fun h11 => ?_) (fun h11 => ?_)
    · refine step_pure rfl (pure_fieldAddr rfl rfl rfl rfl rfl (by decide)) ?_
      first | refine step_pure rfl (pure_load (i := 0) rfl rfl rfl rfl rfl rfl) ?_ | refine step_pure rfl (pure_load (i := 1) rfl rfl rfl rfl rfl rfl) ?_ | refine step_pure rfl (pure_load (i := 2) rfl rfl rfl rfl rfl rfl) ?_ | refine step_pure rfl (pure_load (i := 3) rfl rfl rfl rfl rfl rfl) ?_ | refine step_pure rfl (pure_load (i := 4) rfl rfl rfl rfl rfl rfl) ?_ | refine step_pure rfl (pure_load (i := 5) rfl rfl rfl rfl rfl rfl) ?_
      refine step_pure rfl (pure_neq rfl rfl) ?_
      refine step_pure rfl (pure_pick_yes rfl rfl) ?_
      refine step_pure rfl (pure_move rfl) ?_
      refine step_split (t := 16) rfl (fun h16 => ?_) (fun h16 => ?_)
      · refine step_pure rfl (pure_fieldAddr rfl rfl rfl rfl rfl (by decide)) ?_
        first | refine step_pure rfl (pure_load (i := 0) rfl rfl rfl rfl rfl rfl) ?_ | refine step_pure rfl (pure_load (i := 1) rfl rfl rfl rfl rfl rfl) ?_ | refine step_pure rfl (pure_load (i := 2) rfl rfl rfl rfl rfl rfl) ?_ | refine step_pure rfl (pure_load (i := 3) rfl rfl rfl rfl rfl rfl) ?_ | refine step_pure rfl (pure_load (i := 4) rfl rfl rfl rfl rfl rfl) ?_ | refine step_pure rfl (pure_load (i := 5) rfl rfl rfl rfl rfl rfl) ?_
        refine step_pure rfl (pure_neq rfl rfl) ?_
        refine step_pure rfl (pure_pick_yes rfl rfl) ?_
        refine step_pure rfl (pure_move rfl) ?_
        refine step_split (t := 21) rfl (fun h21 => ?_) (fun h21 => ?_)
        · refine step_pure rfl (pure_fieldAddr rfl rfl rfl rfl rfl (by decide)) ?_
          first | refine step_pure rfl (pure_load (i := 0) rfl rfl rfl rfl rfl rfl) ?_ | refine step_pure rfl (pure_load (i := 1) rfl rfl rfl rfl rfl rfl) ?_ | refine step_pure rfl (pure_load (i := 2) rfl rfl rfl rfl rfl rfl) ?_ | refine step_pure rfl (pure_load (i := 3) rfl rfl rfl rfl rfl rfl) ?_ | refine step_pure rfl (pure_load (i := 4) rfl rfl rfl rfl rfl rfl) ?_ | refine step_pure rfl (pure_load (i := 5) rfl rfl rfl rfl rfl rfl) ?_
          refine step_pure rfl (pure_neq rfl rfl) ?_
          refine step_pure rfl (pure_pick_yes rfl rfl) ?_
          refine step_pure rfl (pure_assign rfl) ?_
          refine step_nil ?_
          refine c_ret ⟨_, res_tmp Try.results18 rfl, congrArg Value.bool ?_⟩
          rw [ha, Bool.eq_iff_iff]
          clear ha
          simp_all
        · refine step_pass rfl rfl rfl ?_
          refine step_pass rfl rfl rfl ?_
          refine step_pass rfl rfl rfl ?_
          refine step_pure rfl (pure_pick_no rfl rfl) ?_
          refine step_pure rfl (pure_assign rfl) ?_
          refine step_nil ?_
          refine c_ret ⟨_, res_tmp Try.results18 rfl, congrArg Value.bool ?_⟩
          rw [ha, Bool.eq_iff_iff]
          clear ha
          simp_all
      · refine step_pass rfl rfl rfl ?_
        refine step_pass rfl rfl rfl ?_
        refine step_pass rfl rfl rfl ?_
        refine step_pure rfl (pure_pick_no rfl rfl) ?_
        refine step_pure rfl (pure_move rfl) ?_
        refine step_pass rfl rfl rfl ?_
        refine step_pass rfl rfl rfl ?_
        refine step_pass rfl rfl rfl ?_
        refine step_pure rfl (pure_pick_no rfl rfl) ?_
        refine step_pure rfl (pure_assign rfl) ?_
        refine step_nil ?_
        refine c_ret ⟨_, res_tmp Try.results18 rfl, congrArg Value.bool ?_⟩
        rw [ha, Bool.eq_iff_iff]
        clear ha
        simp_all
    · refine step_pass rfl rfl rfl ?_
      refine step_pass rfl rfl rfl ?_
      refine step_pass rfl rfl rfl ?_
      refine step_pure rfl (pure_pick_no rfl rfl) ?_
      refine step_pure rfl (pure_move rfl) ?_
      refine step_pass rfl rfl rfl ?_
      refine step_pass rfl rfl rfl ?_
      refine step_pass rfl rfl rfl ?_
      refine step_pure rfl (pure_pick_no rfl rfl) ?_
      refine step_pure rfl (pure_move rfl) ?_
      refine step_pass rfl rfl rfl ?_
      refine step_pass rfl rfl rfl ?_
      refine step_pass rfl rfl rfl ?_
      refine step_pure rfl (pure_pick_no rfl rfl) ?_
      refine step_pure rfl (pure_assign rfl) ?_
      refine step_nil ?_
      refine c_ret ⟨_, res_tmp Try.results18 rfl, congrArg Value.bool ?_⟩
      rw [ha, Bool.eq_iff_iff]
      clear ha
      simp_all
  · refine step_pass rfl rfl rfl ?_
    refine step_pass rfl rfl rfl ?_
    refine step_pass rfl rfl rfl ?_
    refine step_pure rfl (pure_pick_no rfl rfl) ?_
    refine step_pure rfl (pure_move rfl) ?_
    refine step_pass rfl rfl rfl ?_
    refine step_pass rfl rfl rfl ?_
    refine step_pass rfl rfl rfl ?_
    refine step_pure rfl (pure_pick_no rfl rfl) ?_
    refine step_pure rfl (pure_move rfl) ?_
    refine step_pass rfl rfl rfl ?_
    refine step_pass rfl rfl rfl ?_
    refine step_pass rfl rfl rfl ?_
    refine step_pure rfl (pure_pick_no rfl rfl) ?_
    refine step_pure rfl (pure_move rfl) ?_
    refine step_pass rfl rfl rfl ?_
    refine step_pass rfl rfl rfl ?_
    refine step_pass rfl rfl rfl ?_
    refine step_pure rfl (pure_pick_no rfl rfl) ?_
    refine step_pure rfl (pure_assign rfl) ?_
    refine step_nil ?_
    refine c_ret ⟨_, res_tmp Try.results18 rfl, congrArg Value.bool ?_⟩
    rw [ha, Bool.eq_iff_iff]
    clear ha
    simp_all
end Go.Proofs.Ytphpmallnlajjaa
