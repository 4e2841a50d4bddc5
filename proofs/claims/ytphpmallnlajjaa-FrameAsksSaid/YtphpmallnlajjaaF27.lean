/- The law FrameAsks, walked. -/
import Derived.Test.YtphpmallnlajjaaF26
namespace Go.Proofs.Ytphpmallnlajjaa
open Go.RowKit Go.Vc
set_option linter.unusedVariables false

def JoR (ns : List Int) (u : Value) (C : Addr → Value → Prop) : Prop := ∃ v, u = .tuple #[v, .int .i64 (if joinOk ns = true then 0 else 10)] ∧ SlC C 1 v (if joinOk ns = true then ns.flatMap vb else []).length (row (if joinOk ns = true then ns.flatMap vb else []))
theorem join_P (ns : List Int) (v : Value) (w : World) {Z : Nat → Prop} (hZ : ∀ b, w.heap.size ≤ b → Z b) (hv : SlC (At w) 1 v ns.length (ints .i64 ns)) (hn : ns.length ≤ 100000) : GivesP tb 22 [v] w Z (JoR ns) := by
  refine givesP_of_makes (join_any ns v w hv hn) hZ ?_ ?_
  · rintro u C C' hC ⟨v, rfl, hs⟩
    exact ⟨v, rfl, hs.mono hC⟩
  · rintro u m' C ⟨base, len, cap, e, rfl, rfl, hs⟩ hC
    obtain rfl := sl_len8 hs
    exact ⟨_, rfl, slis_cz hs (hC e (.head _))⟩
def padN (n : Int) : Fr := ⟨0, n, 0, [], []⟩
def asks0 (k : Int) : Bool := k == 1 || (k == 3 || (k == 4 || k == 5))
theorem asks_eq (f : Fr) : asks f = (fok f && asks0 f.kind) := by
  cases h : fok f with
  | false => unfold asks; rw [h]; rfl
  | true =>
    unfold asks asks0
    rw [h, Bool.true_and, Bool.true_and]
    have := fok_in h
    obtain ⟨h1, h2, -⟩ := this
    have : f.kind = 0 ∨ f.kind = 1 ∨ f.kind = 2 ∨ f.kind = 3 ∨ f.kind = 4 ∨ f.kind = 5 ∨ f.kind = 6 ∨ f.kind = 7 := by omega
    rcases this with h | h | h | h | h | h | h | h <;> rw [h] <;> decide
theorem wrPad (n : Int) : wrOk [padN n] = (decide (1 ≤ n) && decide (n ≤ 2048)) := by
  have h := fok0 (f := padN n) rfl
  unfold wrOk
  rw [show decide ([padN n].length ≤ 16) = true from rfl, Bool.true_and, List.all_cons, List.all_nil, Bool.and_true]
  rw [Bool.eq_iff_iff, h]
  simp [padN]
theorem padNums (n : Int) : fnums (padN n) = [0, n] := rfl
theorem padBytes (n : Int) : fbytes (padN n) = ([0, n] : List Int).flatMap vb ++ zeros n.toNat := by
  unfold fbytes
  rw [padNums]
  simp [padN]
theorem joinTwo {n : Int} (h0 : 0 ≤ n) (h1 : n < 65536) : joinOk [0, n] = true := by
  unfold joinOk
  have h2 := vsize_ne (n := n) h0 (by omega)
  simp [h2]
  decide
theorem opens_pad (n : Int) : FrX.Ok ⟨padN n, none, 0, none, 0, hole, hole⟩ := ⟨sl_nil _ _ (by decide), sl_nil _ _ (by decide)⟩

set_option maxHeartbeats 4000000 in
theorem frameasks_any (f : Fr) (cs : List Value) (n : Int) (w0 : World) (hf : FrC (At w0) f cs) (hb : f.data.length ≤ maxLen) (hr : f.rs.length ≤ maxLen) (hn : 0 ≤ n ∧ n < 65536) :
    Gives tb 9 [.agg cs.toArray, .int .u16 n] w0 (.bool true) := by
  have hcw : IntKind.i64.wrap n = n := wrap_i64 (by omega) (by omega)
  refine gives_ofk (fn := Try.f9) Try.func9 rfl Try.ntmps9 rfl (fun on => ?_)
  have hf : FrC (Cz (fun _ => True) ⟨w0, [], []⟩) f cs := hf.mono fun p x h => cz_start p x ⟨h, trivial⟩
  obtain ⟨rv, dv, rfl, hr0, hd0⟩ := id hf
  obtain ⟨rb, rc, rfl, -⟩ := id hr0
  obtain ⟨db, dc, rfl, -⟩ := id hd0
  clear hr0 hd0
  repeat refine s_seqs ?_
  refine s_reg ?_
  refine step_box_agg rfl rfl (fun b2 => ?_)
  refine step_pure rfl (pure_assign rfl) ?_
  refine Vc.step_end (fun a w ok => ?_)
  first | (refine WPs.run ?_ a w ok; clear ok w a) | skip
  repeat refine s_seqs ?_
  refine s_reg ?_
  refine step_gives rfl fun11 rfl (fun w _ _ => awake_any w) ?_
  refine step_pure rfl (pure_assign rfl) ?_
  refine Vc.step_end (fun a w ok => ?_)
  first | (refine WPs.run ?_ a w ok; clear ok w a) | skip
  repeat refine s_seqs ?_
  refine s_meet [(1, .int .u16 n), (2, .pointer (some ⟨b2, 0, none⟩)), (5, .bool true), (24, .bool (decide ((f.data.length : Int) > 3000) || decide ((f.rs.length : Int) > 50)))] [⟨b2, [.int .i64 f.kind, .int .i64 f.a, .int .i64 f.b, .slice rb f.rs.length rc, .slice db f.data.length dc], 33⟩] ?_ (fun a w ok => WPs.run ?_ a w ok)
  · repeat refine c_seq ?_
    refine c_region ?_
    refine step_pure rfl (pure_fieldAddr rfl rfl rfl rfl rfl (by decide)) ?_
    first | refine step_pure rfl (pure_load (i := 0) rfl rfl rfl rfl rfl rfl) ?_ | refine step_pure rfl (pure_load (i := 1) rfl rfl rfl rfl rfl rfl) ?_ | refine step_pure rfl (pure_load (i := 2) rfl rfl rfl rfl rfl rfl) ?_ | refine step_pure rfl (pure_load (i := 3) rfl rfl rfl rfl rfl rfl) ?_ | refine step_pure rfl (pure_load (i := 4) rfl rfl rfl rfl rfl rfl) ?_ | refine step_pure rfl (pure_load (i := 5) rfl rfl rfl rfl rfl rfl) ?_
    refine step_pure rfl (pure_len_slice rfl rfl rfl) ?_
    refine step_pure rfl (pure_gtr rfl rfl) ?_
    refine step_pure rfl (pure_move rfl) ?_
    refine step_split (t := 19) rfl (fun h19 => ?_) (fun h19 => ?_)
    · refine step_pass rfl rfl rfl ?_
      refine step_pass rfl rfl rfl ?_
      refine step_pass rfl rfl rfl ?_
      refine step_pass rfl rfl rfl ?_
      refine step_pure rfl (pure_pick_yes rfl rfl) ?_
      refine step_nil ?_
      refine less_of ⟨rfl, rfl, rfl, ?_, trivial⟩ rfl
      refine congrArg some (congrArg Value.bool ?_)
      clear hf
      simp_all <;> omega
    · refine step_pure rfl (pure_fieldAddr rfl rfl rfl rfl rfl (by decide)) ?_
      first | refine step_pure rfl (pure_load (i := 0) rfl rfl rfl rfl rfl rfl) ?_ | refine step_pure rfl (pure_load (i := 1) rfl rfl rfl rfl rfl rfl) ?_ | refine step_pure rfl (pure_load (i := 2) rfl rfl rfl rfl rfl rfl) ?_ | refine step_pure rfl (pure_load (i := 3) rfl rfl rfl rfl rfl rfl) ?_ | refine step_pure rfl (pure_load (i := 4) rfl rfl rfl rfl rfl rfl) ?_ | refine step_pure rfl (pure_load (i := 5) rfl rfl rfl rfl rfl rfl) ?_
      refine step_pure rfl (pure_len_slice rfl rfl rfl) ?_
      refine step_pure rfl (pure_gtr rfl rfl) ?_
      refine step_pure rfl (pure_pick_no rfl rfl) ?_
      refine step_nil ?_
      refine less_of ⟨rfl, rfl, rfl, ?_, trivial⟩ rfl
      refine congrArg some (congrArg Value.bool ?_)
      clear hf
      simp_all <;> omega
  repeat refine s_seqs ?_
  refine s_cond rfl (fun h => ?_) (fun h => ?_)
  · repeat refine s_seqs ?_
    refine s_reg ?_
    refine step_pure rfl (pure_move rfl) ?_
    refine step_pure rfl (pure_assign rfl) ?_
    refine Vc.step_end (fun a w ok => ?_)
    first | (refine WPs.run ?_ a w ok; clear ok w a) | skip
    exact s_ret fun a w ok => ends_k on (.inr rfl) ok (res_tmp Try.results9 rfl)
  clear h
  refine s_skip fun a w ok => WPs.run ?_ a w ok
  clear ok w a
  repeat refine s_seqs ?_
  refine s_reg ?_
  refine step_pure rfl (pure_load_agg (i := 0) rfl rfl rfl rfl rfl (by show 5 ≤ 5; decide) rfl) ?_
  refine step_gives rfl fun15 rfl (fun w' _ kp => check_any f _ w' (hf.mono (Cz.now kp)) hb) ?_
  refine step_pure rfl (pure_eql rfl rfl) ?_
  refine step_pure rfl (pure_assign rfl) ?_
  refine Vc.step_end (fun a w ok => ?_)
  first | (refine WPs.run ?_ a w ok; clear ok w a) | skip
  repeat refine s_seqs ?_
  refine s_meet [(1, .int .u16 n), (2, .pointer (some ⟨b2, 0, none⟩)), (5, .bool true), (6, .bool (fok f)), (7, .bool (asks0 f.kind))] [⟨b2, [.int .i64 f.kind, .int .i64 f.a, .int .i64 f.b, .slice rb f.rs.length rc, .slice db f.data.length dc], 33⟩] ?_ (fun a w ok => WPs.run ?_ a w ok)
  · clear hf
    have hfk : (((if fok f = true then (0 : Int) else 20) == 0)) = fok f := by cases fok f <;> rfl
    unfold asks0
    generalize fok f = fk at *
    generalize f.kind = k at *
    repeat refine c_seq ?_
    refine c_region ?_
    refine step_pure rfl (pure_fieldAddr rfl rfl rfl rfl rfl (by decide)) ?_
    first | refine step_pure rfl (pure_load (i := 0) rfl rfl rfl rfl rfl rfl) ?_ | refine step_pure rfl (pure_load (i := 1) rfl rfl rfl rfl rfl rfl) ?_ | refine step_pure rfl (pure_load (i := 2) rfl rfl rfl rfl rfl rfl) ?_ | refine step_pure rfl (pure_load (i := 3) rfl rfl rfl rfl rfl rfl) ?_ | refine step_pure rfl (pure_load (i := 4) rfl rfl rfl rfl rfl rfl) ?_ | refine step_pure rfl (pure_load (i := 5) rfl rfl rfl rfl rfl rfl) ?_
    refine step_pure rfl (pure_eql rfl rfl) ?_
    refine step_pure rfl (pure_move rfl) ?_
    refine step_split (t := 32) rfl (fun h32 => ?_) (fun h32 => ?_)
    · refine step_pass rfl rfl rfl ?_
      refine step_pass rfl rfl rfl ?_
      refine step_pass rfl rfl rfl ?_
      refine step_pure rfl (pure_pick_yes rfl rfl) ?_
      refine step_pure rfl (pure_move rfl) ?_
      refine step_pass rfl rfl rfl ?_
      refine step_pass rfl rfl rfl ?_
      refine step_pass rfl rfl rfl ?_
      refine step_pure rfl (pure_pick_yes rfl rfl) ?_
      refine step_pure rfl (pure_move rfl) ?_
      refine step_pass rfl rfl rfl ?_
      refine step_pass rfl rfl rfl ?_
      refine step_pass rfl rfl rfl ?_
      refine step_pure rfl (pure_pick_yes rfl rfl) ?_
      refine step_pure rfl (pure_assign rfl) ?_
      refine step_nil ?_
      refine less_of ⟨rfl, rfl, rfl, congrArg some (congrArg Value.bool hfk), ?_, trivial⟩ rfl
      refine congrArg some (congrArg Value.bool ?_)
      clear hfk
      rw [Bool.eq_iff_iff]
      simp_all
    · refine step_pure rfl (pure_fieldAddr rfl rfl rfl rfl rfl (by decide)) ?_
      first | refine step_pure rfl (pure_load (i := 0) rfl rfl rfl rfl rfl rfl) ?_ | refine step_pure rfl (pure_load (i := 1) rfl rfl rfl rfl rfl rfl) ?_ | refine step_pure rfl (pure_load (i := 2) rfl rfl rfl rfl rfl rfl) ?_ | refine step_pure rfl (pure_load (i := 3) rfl rfl rfl rfl rfl rfl) ?_ | refine step_pure rfl (pure_load (i := 4) rfl rfl rfl rfl rfl rfl) ?_ | refine step_pure rfl (pure_load (i := 5) rfl rfl rfl rfl rfl rfl) ?_
      refine step_pure rfl (pure_eql rfl rfl) ?_
      refine step_pure rfl (pure_pick_no rfl rfl) ?_
      refine step_pure rfl (pure_move rfl) ?_
      refine step_split (t := 37) rfl (fun h37 => ?_) (fun h37 => ?_)
      · refine step_pass rfl rfl rfl ?_
        refine step_pass rfl rfl rfl ?_
        refine step_pass rfl rfl rfl ?_
        refine step_pure rfl (pure_pick_yes rfl rfl) ?_
        refine step_pure rfl (pure_move rfl) ?_
        refine step_pass rfl rfl rfl ?_
        refine step_pass rfl rfl rfl ?_
        refine step_pass rfl rfl rfl ?_
        refine step_pure rfl (pure_pick_yes rfl rfl) ?_
        refine step_pure rfl (pure_assign rfl) ?_
        refine step_nil ?_
        refine less_of ⟨rfl, rfl, rfl, congrArg some (congrArg Value.bool hfk), ?_, trivial⟩ rfl
        refine congrArg some (congrArg Value.bool ?_)
        clear hfk
        rw [Bool.eq_iff_iff]
        simp_all
      · refine step_pure rfl (pure_fieldAddr rfl rfl rfl rfl rfl (by decide)) ?_
        first | refine step_pure rfl (pure_load (i := 0) rfl rfl rfl rfl rfl rfl) ?_ | refine step_pure rfl (pure_load (i := 1) rfl rfl rfl rfl rfl rfl) ?_ | refine step_pure rfl (pure_load (i := 2) rfl rfl rfl rfl rfl rfl) ?_ | refine step_pure rfl (pure_load (i := 3) rfl rfl rfl rfl rfl rfl) ?_ | refine step_pure rfl (pure_load (i := 4) rfl rfl rfl rfl rfl rfl) ?_ | refine step_pure rfl (pure_load (i := 5) rfl rfl rfl rfl rfl rfl) ?_
        refine step_pure rfl (pure_eql rfl rfl) ?_
        refine step_pure rfl (pure_pick_no rfl rfl) ?_
        refine step_pure rfl (pure_move rfl) ?_
        refine step_split (t := 42) rfl (fun h42 => ?_) (fun h42 => ?_)
        · refine step_pass rfl rfl rfl ?_
          refine step_pass rfl rfl rfl ?_
          refine step_pass rfl rfl rfl ?_
          refine step_pure rfl (pure_pick_yes rfl rfl) ?_
          refine step_pure rfl (pure_assign rfl) ?_
          refine step_nil ?_
          refine less_of ⟨rfl, rfl, rfl, congrArg some (congrArg Value.bool hfk), ?_, trivial⟩ rfl
          refine congrArg some (congrArg Value.bool ?_)
          clear hfk
          rw [Bool.eq_iff_iff]
          simp_all
        · refine step_pure rfl (pure_fieldAddr rfl rfl rfl rfl rfl (by decide)) ?_
          first | refine step_pure rfl (pure_load (i := 0) rfl rfl rfl rfl rfl rfl) ?_ | refine step_pure rfl (pure_load (i := 1) rfl rfl rfl rfl rfl rfl) ?_ | refine step_pure rfl (pure_load (i := 2) rfl rfl rfl rfl rfl rfl) ?_ | refine step_pure rfl (pure_load (i := 3) rfl rfl rfl rfl rfl rfl) ?_ | refine step_pure rfl (pure_load (i := 4) rfl rfl rfl rfl rfl rfl) ?_ | refine step_pure rfl (pure_load (i := 5) rfl rfl rfl rfl rfl rfl) ?_
          refine step_pure rfl (pure_eql rfl rfl) ?_
          refine step_pure rfl (pure_pick_no rfl rfl) ?_
          refine step_pure rfl (pure_assign rfl) ?_
          refine step_nil ?_
          refine less_of ⟨rfl, rfl, rfl, congrArg some (congrArg Value.bool hfk), ?_, trivial⟩ rfl
          refine congrArg some (congrArg Value.bool ?_)
          clear hfk
          rw [Bool.eq_iff_iff]
          simp_all
  repeat refine s_seqs ?_
  refine s_reg ?_
  refine step_pure rfl (pure_move rfl) ?_
  refine step_as rfl (pure_conv rfl rfl rfl rfl) (show _ = Value.int .i64 n from by rw [hcw]) ?_
  refine step_pure rfl (pure_build_struct (pl := [(0, 1), (1, 1), (2, 1), (3, 1), (4, 1)]) rfl zero33 rfl rfl rfl rfl) ?_
  refine step_buildSlice rfl rfl rfl rfl elem33 (by decide) (by decide) (fill_fr _ _ _ _ _) (fun b51 => ?_)
  refine step_givesP on.sc rfl fun13 rfl (fun w' Z' hh kp hZ hC => write_P [padN n] _ w' hZ (frs_mem (L := [⟨padN n, none, 0, none, 0, hole, hole⟩]) (sl_built ty33 33 b51 _ 1 rfl) (fun _ => .head _) (fun x hx => by rw [List.mem_singleton.1 hx]; exact opens_pad n) (fun x hx h => by rw [List.mem_singleton.1 hx] at h; exact absurd rfl h) (fun x hx h => by rw [List.mem_singleton.1 hx] at h; exact absurd rfl h) hh) (fun g hg => by rw [List.mem_singleton.1 hg]; exact Nat.zero_le _)) ?_
  rintro x E1 g ⟨v3, rfl, hw⟩
  replace on := on.next g
  replace hf := hf.mono g.cz
  clear g
  refine step_pure rfl (pure_move rfl) ?_
  refine step_pure rfl (pure_extract rfl rfl) ?_
  refine step_pure rfl (pure_extract rfl rfl) ?_
  refine step_pure rfl (pure_assign rfl) ?_
  refine step_pure rfl (pure_assign rfl) ?_
  refine Vc.step_end (fun a w ok => ?_)
  first | (refine WPs.run ?_ a w ok; clear ok w a) | skip
  repeat refine s_seqs ?_
  refine s_reg ?_
  refine step_pure rfl (pure_move rfl) ?_
  refine step_as rfl (pure_conv rfl rfl rfl rfl) (show _ = Value.int .i64 n from by rw [hcw]) ?_
  refine step_buildSlice rfl rfl rfl rfl elem3 (by decide) (by decide) (fill_two _ _ _ rfl) (fun b58 => ?_)
  refine step_givesP on.sc rfl fun22 rfl (fun w' Z' hh kp hZ hC => join_P [0, n] _ w' hZ (slis_mem (sl_built ty3 3 b58 (ints .i64 [0, n]) 2 rfl) (fun _ => .head _) hh) (by simp)) ?_
  rintro x E2 g ⟨v4, rfl, hj⟩
  replace on := on.next g
  replace hf := hf.mono g.cz
  replace hw := hw.mono g.cz
  clear g
  refine step_pure rfl (pure_move rfl) ?_
  refine step_pure rfl (pure_extract rfl rfl) ?_
  refine step_pure rfl (pure_extract rfl rfl) ?_
  refine step_pure rfl (pure_assign rfl) ?_
  refine step_pure rfl (pure_assign rfl) ?_
  refine Vc.step_end (fun a w ok => ?_)
  first | (refine WPs.run ?_ a w ok; clear ok w a) | skip
  have hjt := joinTwo hn.1 hn.2
  rw [if_pos hjt] at hj
  have hwp := wrPad n
  have hwz : wrOk [padN n] = true → wBs [padN n] = ([0, n] : List Int).flatMap vb ++ zeros n.toNat := by
    intro h
    rw [wBs_ok h, List.flatMap_cons, List.flatMap_nil, List.append_nil, padBytes]
  have hwn := wBs_no (fs := [padN n])
  have hhl : 0 < (([0, n] : List Int).flatMap vb).length ∧ (([0, n] : List Int).flatMap vb).length ≤ 16 := by
    refine ⟨?_, flat_le [0, n]⟩
    rw [List.flatMap_cons, List.length_append, vb_len]
    show 0 < 1 + _
    omega
  have hae := asks_eq f
  obtain ⟨base3, cap3, rfl, hcap3⟩ := slc_str hw
  obtain ⟨base4, cap4, rfl, hcap4⟩ := slc_str hj
  generalize wBs [padN n] = B at *
  generalize ([0, n] : List Int).flatMap vb = H at *
  repeat refine s_seqs ?_
  refine s_meet [(1, .int .u16 n), (2, .pointer (some ⟨b2, 0, none⟩)), (5, .bool true), (6, .bool (fok f)), (7, .bool (asks0 f.kind)), (8, .slice base3 B.length cap3), (9, .int .i64 (if wrOk [padN n] = true then 0 else 20)), (10, .slice base4 H.length cap4), (12, .bool (wrOk [padN n]))] [⟨b2, [.int .i64 f.kind, .int .i64 f.a, .int .i64 f.b, .slice rb f.rs.length rc, .slice db f.data.length dc], 33⟩] ?_ (fun a w ok => WPs.run ?_ a w ok)
  · rw [hwp]
    repeat refine c_seq ?_
    refine c_region ?_
    refine step_pure rfl (pure_move rfl) ?_
    refine step_pure rfl (pure_geq rfl rfl) ?_
    refine step_pure rfl (pure_move rfl) ?_
    refine step_split (t := 64) rfl (fun h64 => ?_) (fun h64 => ?_)
    · refine step_pure rfl (pure_move rfl) ?_
      refine step_pure rfl (pure_leq rfl rfl) ?_
      refine step_pure rfl (pure_pick_yes rfl rfl) ?_
      refine step_pure rfl (pure_assign rfl) ?_
      refine step_nil ?_
      refine less_sub ⟨rfl, rfl, rfl, rfl, rfl, rfl, rfl, rfl, ?_, trivial⟩ (by repeat (first | exact List.Sublist.refl _ | exact List.nil_sublist _ | apply List.Sublist.cons_cons | apply List.Sublist.cons))
      refine congrArg some (congrArg Value.bool ?_)
      clear hf hw hj hwz hwn hae
      simp_all <;> omega
    · refine step_pass rfl rfl rfl ?_
      refine step_pass rfl rfl rfl ?_
      refine step_pure rfl (pure_pick_no rfl rfl) ?_
      refine step_pure rfl (pure_assign rfl) ?_
      refine step_nil ?_
      refine less_sub ⟨rfl, rfl, rfl, rfl, rfl, rfl, rfl, rfl, ?_, trivial⟩ (by repeat (first | exact List.Sublist.refl _ | exact List.nil_sublist _ | apply List.Sublist.cons_cons | apply List.Sublist.cons))
      refine congrArg some (congrArg Value.bool ?_)
      clear hf hw hj hwz hwn hae
      simp_all <;> omega
  have hzero : ∀ i (h : i < B.length), H.length ≤ i → B[i] = 0 := by
    intro i h hi
    cases hk : wrOk [padN n] with
    | false => have := hwn hk; subst this; simp at h
    | true =>
      have := hwz hk
      subst this
      rw [List.getElem_append_right hi]
      simp [zeros]
  have hBl : B.length ≤ 70000 := by
    cases hk : wrOk [padN n] with
    | false => have := hwn hk; subst this; simp
    | true =>
      have := hwz hk
      subst this
      rw [List.length_append, zeros_len]
      omega
  repeat refine s_seqs ?_
  refine s_meet [(1, .int .u16 n), (2, .pointer (some ⟨b2, 0, none⟩)), (5, .bool true), (6, .bool (fok f)), (7, .bool (asks0 f.kind)), (8, .slice base3 B.length cap3), (9, .int .i64 (if wrOk [padN n] = true then 0 else 20)), (10, .slice base4 H.length cap4), (12, .bool (wrOk [padN n])), (91, .bool false)] [⟨b2, [.int .i64 f.kind, .int .i64 f.a, .int .i64 f.b, .slice rb f.rs.length rc, .slice db f.data.length dc], 33⟩] ?_ (fun a w ok => WPs.run ?_ a w ok)
  · cases hk : wrOk [padN n] with
    | false =>
      repeat refine c_seq ?_
      refine d_region [1, 9, 17, 25, 33, 41, 49, 57, 65, 73, 81, 89, 97, 105, 113, 121, 129, 137, 147, 153, 163, 169, 177, 185] follows (by kernel_rfl) ?_
      refine d_pure0 rfl rfl rfl (pure_move rfl) ?_
      refine d_pure0 rfl rfl rfl (pure_move rfl) ?_
      refine d_pass rfl rfl rfl (fun h => by cases h) rfl rfl rfl ?_
      refine d_pass rfl rfl rfl (fun h => by cases h) rfl rfl rfl ?_
      refine d_pass rfl rfl rfl (fun h => by cases h) rfl rfl rfl ?_
      refine d_pass rfl rfl rfl (fun h => by cases h) rfl rfl rfl ?_
      refine d_pass rfl rfl rfl (fun h => by cases h) rfl rfl rfl ?_
      refine d_pass rfl rfl rfl (fun h => by cases h) rfl rfl rfl ?_
      refine d_pass rfl rfl rfl (fun h => by cases h) rfl rfl rfl ?_
      refine d_pass rfl rfl rfl (fun h => by cases h) rfl rfl rfl ?_
      refine d_pass rfl rfl rfl (fun h => by cases h) rfl rfl rfl ?_
      refine d_pass rfl rfl rfl (fun h => by cases h) rfl rfl rfl ?_
      refine d_pass rfl rfl rfl (fun h => by cases h) rfl rfl rfl ?_
      refine d_pass rfl rfl rfl (fun h => by cases h) rfl rfl rfl ?_
      refine d_pass rfl rfl rfl (fun h => by cases h) rfl rfl rfl ?_
      refine d_pass rfl rfl rfl (fun h => by cases h) rfl rfl rfl ?_
      refine d_pass rfl rfl rfl (fun h => by cases h) rfl rfl rfl ?_
      refine d_pass rfl rfl rfl (fun h => by cases h) rfl rfl rfl ?_
      refine d_pass rfl rfl rfl (fun _ => (by first | exact SubMem.refl _ | exact (SubMem.refl _).cons | exact (SubMem.refl _).cons.cons | exact (SubMem.refl _).cons.cons.cons | exact (SubMem.refl _).cons.cons.cons.cons | exact (fun w hh => Has.sublist (by repeat (first | exact List.Sublist.refl _ | exact List.nil_sublist _ | apply List.Sublist.cons_cons | apply List.Sublist.cons)) hh))) rfl rfl rfl ?_
      refine d_pass rfl rfl rfl (fun h => by cases h) rfl rfl rfl ?_
      refine d_pass rfl rfl rfl (fun _ => (by first | exact SubMem.refl _ | exact (SubMem.refl _).cons | exact (SubMem.refl _).cons.cons | exact (SubMem.refl _).cons.cons.cons | exact (SubMem.refl _).cons.cons.cons.cons | exact (fun w hh => Has.sublist (by repeat (first | exact List.Sublist.refl _ | exact List.nil_sublist _ | apply List.Sublist.cons_cons | apply List.Sublist.cons)) hh))) rfl rfl rfl ?_
      refine d_pass rfl rfl rfl (fun h => by cases h) rfl rfl rfl ?_
      refine d_pass rfl rfl rfl (fun h => by cases h) rfl rfl rfl ?_
      refine d_pure0 rfl rfl rfl (pure_pick_no rfl rfl) ?_
      refine d_nil ?_
      exact less_of ⟨rfl, rfl, rfl, rfl, rfl, rfl, rfl, rfl, rfl, rfl, trivial⟩ rfl
    | true =>
      have hB := hwz hk
      have hlen : B.length = H.length + n.toNat := by rw [hB, List.length_append, zeros_len]
      have hsub := slc_sub (lo := 0) (hi := H.length) hw (Nat.zero_le _) (by omega)
      rw [Nat.zero_mul, List.drop_zero, Nat.sub_zero, Nat.mul_one, show (row B).take H.length = row H from by
        rw [show (row B).take H.length = row (B.take H.length) from (List.map_take ..).symm, hB, List.take_left]] at hsub
      repeat refine c_seq ?_
      refine d_region2 [1, 9, 17, 25, 33, 41, 49, 57, 65, 73, 81, 89, 97, 105, 113, 121, 129, 137, 147, 153, 163, 169, 177, 185] ([]) follows (by kernel_rfl) ?_
      refine d_pure0 rfl rfl rfl (pure_move rfl) ?_
      refine d_pure0 rfl rfl rfl (pure_move rfl) ?_
      refine d_pure0 rfl rfl rfl (pure_move rfl) ?_
      refine d_pure0 rfl rfl rfl (pure_len_slice rfl rfl rfl) ?_
      refine d_pure0 rfl rfl rfl (pure_move rfl) ?_
      refine d_pure0 rfl rfl rfl (pure_len_slice rfl rfl rfl) ?_
      refine d_pure0 rfl rfl rfl (pure_move rfl) ?_
      refine d_as0 rfl rfl rfl (pure_conv rfl rfl rfl rfl) (show _ = Value.int .i64 n from by rw [hcw]) ?_
      first | refine d_pure0 rfl rfl rfl (pure_add64 rfl rfl (by omega) (by omega)) ?_ | refine d_pure0 rfl rfl rfl (pure_add rfl rfl) ?_
      refine d_as0 rfl rfl rfl (pure_neq rfl rfl) (show _ = Value.bool false from by rw [show ((B.length : Int)) = (H.length : Int) + n by omega]; simp) ?_
      refine d_pure0 rfl rfl rfl (pure_move rfl) ?_
      refine d_pure0 rfl rfl rfl (pure_move rfl) ?_
      refine d_pure0 rfl rfl rfl (pure_move rfl) ?_
      refine d_pure0 rfl rfl rfl (pure_len_slice rfl rfl rfl) ?_
      refine d_pure0 rfl rfl rfl (pure_move rfl) ?_
      refine d_pure0 rfl rfl rfl (pure_len_slice rfl rfl rfl) ?_
      refine d_as0 rfl rfl rfl (pure_min rfl rfl) (show _ = Value.int .i64 (H.length : Int) from by rw [show min (H.length : Int) (B.length : Int) = H.length by omega]) ?_
      refine d_as0 rfl rfl rfl (pure_sub_hi rfl rfl rfl rfl rfl (by omega) (by omega)) (show _ = subS base3 cap3 1 0 H.length from by show subS base3 cap3 1 0 (H.length : Int).toNat = _; rw [Int.toNat_natCast]) ?_
      refine d_pure1 rfl rfl rfl (pure_cz_string rfl rfl rfl rfl rfl rfl rfl hsub) (by first | exact SubMem.refl _ | exact (SubMem.refl _).cons | exact (SubMem.refl _).cons.cons | exact (SubMem.refl _).cons.cons.cons | exact (SubMem.refl _).cons.cons.cons.cons | exact (fun w hh => Has.sublist (by repeat (first | exact List.Sublist.refl _ | exact List.nil_sublist _ | apply List.Sublist.cons_cons | apply List.Sublist.cons)) hh)) ?_
      refine d_pure0 rfl rfl rfl (pure_move rfl) ?_
      refine d_pure1 rfl rfl rfl (pure_cz_string rfl rfl rfl rfl rfl rfl rfl hj) (by first | exact SubMem.refl _ | exact (SubMem.refl _).cons | exact (SubMem.refl _).cons.cons | exact (SubMem.refl _).cons.cons.cons | exact (SubMem.refl _).cons.cons.cons.cons | exact (fun w hh => Has.sublist (by repeat (first | exact List.Sublist.refl _ | exact List.nil_sublist _ | apply List.Sublist.cons_cons | apply List.Sublist.cons)) hh)) ?_
      refine d_as0 rfl rfl rfl (pure_str_neq rfl rfl) (show _ = Value.bool false from by rw [beq_self_eq_true]; rfl) ?_
      refine d_pure0 rfl rfl rfl (pure_pick_no rfl rfl) ?_
      refine d_pure0 rfl rfl rfl (pure_pick_yes rfl rfl) ?_
      refine d_nil ?_
      exact less_of ⟨rfl, rfl, rfl, rfl, rfl, rfl, rfl, rfl, rfl, rfl, trivial⟩ rfl
  repeat refine s_seqs ?_
  refine s_cond_no rfl rfl ?_
  refine s_skip fun a w ok => WPs.run ?_ a w ok
  clear ok w a
  clear hwz hwn hj
  repeat refine s_seqs ?_
  refine s_reg ?_
  refine step_pure rfl (pure_move rfl) ?_
  refine step_pure rfl (pure_len_slice rfl rfl rfl) ?_
  refine step_pure rfl (pure_assign rfl) ?_
  refine Vc.step_end (fun a w ok => ?_)
  first | (refine WPs.run ?_ a w ok; clear ok w a) | skip
  repeat refine s_seqs ?_
  refine s_block ?_
  repeat refine s_seqs ?_
  refine s_loopP (α := Nat) (fun i => [(2, .pointer (some ⟨b2, 0, none⟩)), (5, .bool true), (6, .bool (fok f)), (7, .bool (asks0 f.kind)), (8, .slice base3 B.length cap3), (9, .int .i64 (if wrOk [padN n] = true then 0 else 20)), (12, .bool (wrOk [padN n])), (13, .int .i64 i)])
    (fun _ => [⟨b2, [.int .i64 f.kind, .int .i64 f.a, .int .i64 f.b, .slice rb f.rs.length rc, .slice db f.data.length dc], 33⟩]) (fun i _ => H.length ≤ i ∧ i ≤ 70016) (fun i => 100000 - i) H.length ⟨Nat.le_refl _, by omega⟩ (less_of ⟨rfl, rfl, rfl, rfl, rfl, rfl, rfl, rfl, trivial⟩ rfl) ?_
  intro i E4 hi g
  replace on := on.next g
  replace hw := hw.mono g.cz
  replace hf := hf.mono g.cz
  clear g
  repeat refine s_seqs ?_
  refine s_reg ?_
  refine step_pure rfl (pure_move rfl) ?_
  refine step_pure rfl (pure_move rfl) ?_
  refine step_pure rfl (pure_len_slice rfl rfl rfl) ?_
  refine step_pure rfl (pure_lss rfl rfl) ?_
  refine Vc.step_end (fun a w ok => ?_)
  first | (refine WPs.run ?_ a w ok; clear ok w a) | skip
  repeat refine s_seqs ?_
  refine s_cond rfl (fun h => ?_) (fun h => ?_)
  · have hlt : i < B.length := by have := of_decide_eq_true h; omega
    clear h
    refine s_skip fun a w ok => WPs.run ?_ a w ok
    clear ok w a
    repeat refine s_seqs ?_
    refine s_block ?_
    obtain ⟨p, cp, hq, hp⟩ := slc_at1 (k := .u8) hw hlt
    cases hq
    rw [hzero i hlt hi.1] at hp
    repeat refine s_seqs ?_
    refine s_reg ?_
    refine step_pure rfl (pure_move rfl) ?_
    refine step_pure rfl (pure_move rfl) ?_
    refine step_as rfl (pure_indexAddr_at rfl rfl rfl rfl rfl (by omega) (by omega)) (show _ = Value.pointer (some (p.add (i * 1))) from by show Value.pointer (some (p.add ((i : Int).toNat * 1))) = _; rw [Int.toNat_natCast]) ?_
    refine step_pure rfl (pure_cel rfl rfl rfl hp.1) ?_
    refine step_pure rfl (pure_neq rfl rfl) ?_
    refine Vc.step_end (fun a w ok => ?_)
    first | (refine WPs.run ?_ a w ok; clear ok w a) | skip
    repeat refine s_seqs ?_
    refine s_cond_no rfl rfl ?_
    refine s_skip fun a w ok => WPs.run ?_ a w ok
    clear ok w a
    repeat refine s_seqs ?_
    refine s_reg ?_
    refine step_pure rfl (pure_move rfl) ?_
    first | refine step_pure rfl (pure_add64 rfl rfl (by omega) (by omega)) ?_ | refine step_pure rfl (pure_add rfl rfl) ?_
    refine step_pure rfl (pure_assign rfl) ?_
    refine Vc.step_end (fun a w ok => ?_)
    refine ⟨i + 1, E4, by omega, by omega, Gt.refl _, Less.ok ?_ ok⟩
    exact less_of ⟨rfl, rfl, rfl, rfl, rfl, rfl, rfl, rfl, trivial⟩ rfl
  refine s_exit fun a w ok => WPs.run ?_ a w ok
  have h9 : ((if wrOk [padN n] = true then (0 : Int) else 20) == 0) = wrOk [padN n] := by cases wrOk [padN n] <;> rfl
  have hel := fun w' kp => eliciting_any f _ w' (hf.mono (Cz.now (w := w') kp)) (Nat.le_trans hb (by decide))
  rw [hae] at hel
  generalize wrOk [padN n] = wk at *
  generalize fok f = fk at *
  generalize asks0 f.kind = ak at *
  cases fk with
  | false =>
    repeat refine s_seqs ?_
    refine s_reg ?_
    refine step_pure rfl (pure_move rfl) ?_
    refine step_pure rfl (pure_move rfl) ?_
    refine step_pure rfl (pure_load_agg (i := 0) rfl rfl rfl rfl rfl (by show 5 ≤ 5; decide) rfl) ?_
    refine step_gives rfl fun17 rfl (fun w' _ kp => hel w' kp) ?_
    refine step_pure rfl (pure_move rfl) ?_
    refine step_pure rfl (pure_move rfl) ?_
    refine step_pass rfl rfl rfl ?_
    refine step_pure rfl (pure_pick_no rfl rfl) ?_
    refine step_as rfl (pure_beql rfl rfl rfl rfl) (show _ = Value.bool true from by cases ak <;> rfl) ?_
    refine step_pure rfl (pure_pick_yes rfl rfl) ?_
    refine step_pure rfl (pure_move rfl) ?_
    refine step_pure rfl (pure_move rfl) ?_
    refine step_pure rfl (pure_eql rfl rfl) ?_
    refine step_pure rfl (pure_move rfl) ?_
    refine step_as rfl (pure_beql rfl rfl rfl rfl) (show _ = Value.bool true from by rw [h9, beq_self_eq_true]) ?_
    refine step_pure rfl (pure_pick_yes rfl rfl) ?_
    refine step_pure rfl (pure_assign rfl) ?_
    refine Vc.step_end (fun a w ok => ?_)
    first | (refine WPs.run ?_ a w ok; clear ok w a) | skip
    exact s_ret fun a w ok => ends_k on (.inr rfl) ok (res_tmp Try.results9 rfl)
  | true =>
    repeat refine s_seqs ?_
    refine s_reg ?_
    refine step_pure rfl (pure_move rfl) ?_
    refine step_pure rfl (pure_move rfl) ?_
    refine step_pure rfl (pure_load_agg (i := 0) rfl rfl rfl rfl rfl (by show 5 ≤ 5; decide) rfl) ?_
    refine step_gives rfl fun17 rfl (fun w' _ kp => hel w' kp) ?_
    refine step_pure rfl (pure_move rfl) ?_
    refine step_pure rfl (pure_move rfl) ?_
    refine step_pure rfl (pure_move rfl) ?_
    refine step_pure rfl (pure_pick_yes rfl rfl) ?_
    refine step_as rfl (pure_beql rfl rfl rfl rfl) (show _ = Value.bool true from by cases ak <;> rfl) ?_
    refine step_pure rfl (pure_pick_yes rfl rfl) ?_
    refine step_pure rfl (pure_move rfl) ?_
    refine step_pure rfl (pure_move rfl) ?_
    refine step_pure rfl (pure_eql rfl rfl) ?_
    refine step_pure rfl (pure_move rfl) ?_
    refine step_as rfl (pure_beql rfl rfl rfl rfl) (show _ = Value.bool true from by rw [h9, beq_self_eq_true]) ?_
    refine step_pure rfl (pure_pick_yes rfl rfl) ?_
    refine step_pure rfl (pure_assign rfl) ?_
    refine Vc.step_end (fun a w ok => ?_)
    first | (refine WPs.run ?_ a w ok; clear ok w a) | skip
    exact s_ret fun a w ok => ends_k on (.inr rfl) ok (res_tmp Try.results9 rfl)
end Go.Proofs.Ytphpmallnlajjaa
