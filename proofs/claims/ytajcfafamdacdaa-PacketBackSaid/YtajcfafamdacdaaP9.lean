/- Strings joined; the law PacketHeads: walked. -/
import Derived.Test.YtajcfafamdacdaaP8
namespace Go.Proofs.Ytajcfafamdacdaa
open Go.RowKit Go.Vc
set_option linter.unusedVariables false

theorem str_data (ns : List Int) : (str ns).data.toList = ns.map fun n => UInt8.ofNat n.toNat := by
  have key : ∀ (ns : List Int) (acc : ByteArray), (ns.foldl (fun r n => r.push (UInt8.ofNat n.toNat)) acc).data.toList = acc.data.toList ++ ns.map fun n => UInt8.ofNat n.toNat := by
    intro ns
    induction ns with
    | nil => intro acc; simp
    | cons n ns ih =>
      intro acc
      rw [List.foldl_cons, ih]
      simp [ByteArray.push]
  unfold str
  rw [key]
  rfl
theorem str_size (ns : List Int) : (str ns).size = ns.length := by
  show (str ns).data.size = _
  rw [← Array.length_toList, str_data, List.length_map]
theorem str_app (a b : List Int) : str a ++ str b = str (a ++ b) := by
  refine (str_list _ _).1 ?_
  rw [ByteArray.toList_eq, ByteArray.toList_eq, str_data, List.map_append, ← str_data, ← str_data]
  simp
theorem pure_str_add {E : Env} {rs : Rs} {m : Mem} {dst : Option Tmp} {ty : TypeId} {pos : String} {aft : Array Edge} {gd : Option (Nat × Bool)} {x y : Operand} {T U : TypeId} {a b : List Int}
    (hx : ev rs x = some (.string (str a))) (hy : ev rs y = some (.string (str b))) (hle : a.length + b.length ≤ 1000000000) :
    Pure tb E rs m ⟨dst, .binOp .add T x y U, ty, pos, aft, gd⟩ (.string (str (a ++ b))) := by
  refine ⟨fun a' w hr hh hk => ?_⟩
  have h1 : ¬ ((((str a).size + (str b).size : Nat) : Int) > IntKind.i64.max) := by
    rw [str_size, str_size, show IntKind.i64.max = 9223372036854775807 from rfl]
    omega
  have h2 : Op.stringOp .add (str a) (str b) = pure (.string (str (a ++ b))) := by
    show (if _ then _ else _) = _
    rw [if_neg h1, str_app]
  simp [execOp, ev_ok hr hx, ev_ok hr hy, eqGuard, binOp, h2]
theorem ping_mem {b : Nat} {m : Mem} {w : World} (he : (⟨b, pingCells, 52⟩ : Ent) ∈ m) (hh : Has w m) : FrsC (At w) (.slice (some ⟨b, 0, none⟩) 1 1) [pingF] :=
  ping_sl fun j x hx => cell_of (hh.cell he (by simp [pingCells])) hx
theorem wrPing : wrOk [pingF] = true := by decide
theorem wBs_ping : wBs [pingF] = [1] := by decide
theorem pk_ping {s n : Int} (h : hOk s n = true) : pOk ⟨s, n, [pingF]⟩ = true := pOk_of h wrPing (by show 1 ≠ 0; decide)
theorem row_nil : row [] = [] := rfl
set_option maxHeartbeats 4000000 in
theorem packetheads_any (s n : Int) (b : List Int) (v : Value) (w0 : World) (hv : SlC (At w0) 1 v b.length (row b)) (hb : Bytes b) : Gives tb 9 [.int .i64 s, .int .i64 n, v] w0 (.bool true) := by
  obtain ⟨base1, cap1, rfl, hcap1⟩ := slc_str hv
  refine gives_ofk (fn := Try.f9) Try.func9 rfl Try.ntmps9 rfl (fun on => ?_)
  have hv : SlC (Cz (fun _ => True) ⟨w0, [], []⟩) 1 (.slice base1 b.length cap1) b.length (row b) := hv.mono fun p x h => cz_start p x ⟨h, trivial⟩
  repeat refine s_seqs ?_
  refine s_reg ?_
  refine step_pure rfl (pure_assign rfl) ?_
  refine Vc.step_end (fun a w ok => ?_)
  first | (refine WPs.run ?_ a w ok; clear ok w a) | skip
  repeat refine s_seqs ?_
  refine s_reg ?_
  refine step_gives rfl fun10 rfl (fun w _ _ => awake_any w) ?_
  refine step_pure rfl (pure_assign rfl) ?_
  refine Vc.step_end (fun a w ok => ?_)
  first | (refine WPs.run ?_ a w ok; clear ok w a) | skip
  repeat refine s_seqs ?_
  refine s_reg ?_
  refine step_pure rfl (pure_move rfl) ?_
  refine step_pure rfl (pure_len_slice rfl rfl rfl) ?_
  refine step_pure rfl (pure_gtr rfl rfl) ?_
  refine Vc.step_end (fun a w ok => ?_)
  first | (refine WPs.run ?_ a w ok; clear ok w a) | skip
  repeat refine s_seqs ?_
  refine s_cond rfl (fun h => ?_) (fun h => ?_)
  · repeat refine s_seqs ?_
    refine s_reg ?_
    refine step_pure rfl (pure_move rfl) ?_
    refine step_pure rfl (pure_assign rfl) ?_
    refine Vc.step_end (fun a w ok => ?_)
    first | (refine WPs.run ?_ a w ok; clear ok w a) | skip
    exact s_ret fun a w ok => ends_k on (.inr rfl) ok (res_tmp Try.results9 rfl)
  have hb3 : b.length ≤ 300 := by have := of_decide_eq_false h; omega
  clear h
  refine s_skip fun a w ok => WPs.run ?_ a w ok
  clear ok w a
  repeat refine s_seqs ?_
  refine s_reg ?_
  refine step_pure rfl (pure_move rfl) ?_
  refine step_pure rfl (pure_move rfl) ?_
  refine step_givesP on.sc rfl fun14 rfl (fun w' Z' hh kp hZ hC => hdR_of (head_any s n w') hZ) ?_
  rintro u E4 g ⟨v8, rfl, hw8⟩
  replace on := on.next g
  replace hv := hv.mono g.cz
  clear g
  refine step_pure rfl (pure_move rfl) ?_
  refine step_pure rfl (pure_extract rfl rfl) ?_
  refine step_pure rfl (pure_extract rfl rfl) ?_
  refine step_pure rfl (pure_assign rfl) ?_
  refine step_pure rfl (pure_assign rfl) ?_
  refine Vc.step_end (fun a w ok => ?_)
  first | (refine WPs.run ?_ a w ok; clear ok w a) | skip
  repeat refine s_seqs ?_
  refine s_reg ?_
  refine step_pure rfl (pure_move rfl) ?_
  refine step_pure rfl (pure_neq rfl rfl) ?_
  refine Vc.step_end (fun a w ok => ?_)
  first | (refine WPs.run ?_ a w ok; clear ok w a) | skip
  obtain ⟨base8, cap8, rfl, hcap8⟩ := slc_str hw8
  cases hok : hOk s n with
  | false =>
    obtain ⟨h1, h2⟩ := hd_no hok
    rw [h1, h2]
    have hbad : ¬ (s = 0 ∨ s = 1) ∨ n < 0 ∨ 4611686018427387904 ≤ n := by
      apply Classical.byContradiction
      intro hc
      have : hOk s n = true := hOk_of (by omega) (by omega) (by omega)
      rw [hok] at this
      cases this
    repeat refine s_seqs ?_
    refine s_cond_yes rfl rfl ?_
    repeat refine s_seqs ?_
    refine s_meet [(6, .bool true)] [] ?_ (fun a w ok => WPs.run ?_ a w ok)
    · clear hw8 hv hok on h1 h2
      repeat refine c_seq ?_
      refine c_region ?_
      refine step_pure rfl (pure_move rfl) ?_
      refine step_pure rfl (pure_move rfl) ?_
      refine step_pure rfl (pure_move rfl) ?_
      refine step_pure rfl (pure_len_slice rfl rfl rfl) ?_
      refine step_as rfl (pure_eql rfl rfl) (show _ = Value.bool true from rfl) ?_
      refine step_pure rfl (pure_pick_yes rfl rfl) ?_
      refine step_pure rfl (pure_move rfl) ?_
      refine step_pure rfl (pure_move rfl) ?_
      refine step_as rfl (pure_eql rfl rfl) (show _ = Value.bool true from rfl) ?_
      refine step_pure rfl (pure_pick_yes rfl rfl) ?_
      refine step_pure rfl (pure_move rfl) ?_
      refine step_pure rfl (pure_move rfl) ?_
      refine step_pure rfl (pure_lss rfl rfl) ?_
      refine step_pure rfl (pure_move rfl) ?_
      refine step_split (t := 44) rfl (fun h44 => ?_) (fun h44 => ?_)
      · refine step_pass rfl rfl rfl ?_
        refine step_pass rfl rfl rfl ?_
        refine step_pure rfl (pure_pick_yes rfl rfl) ?_
        refine step_pure rfl (pure_move rfl) ?_
        refine step_pass rfl rfl rfl ?_
        refine step_pass rfl rfl rfl ?_
        refine step_pure rfl (pure_pick_yes rfl rfl) ?_
        refine step_pure rfl (pure_move rfl) ?_
        refine step_pass rfl rfl rfl ?_
        refine step_pass rfl rfl rfl ?_
        refine step_pure rfl (pure_pick_yes rfl rfl) ?_
        refine step_pure rfl (pure_pick_yes rfl rfl) ?_
        refine step_pure rfl (pure_assign rfl) ?_
        refine step_nil ?_
        refine less_of ⟨?_, trivial⟩ rfl
        refine congrArg some (congrArg Value.bool ?_)
        simp_all <;> omega
      · refine step_pure rfl (pure_move rfl) ?_
        refine step_pure rfl (pure_gtr rfl rfl) ?_
        refine step_pure rfl (pure_pick_no rfl rfl) ?_
        refine step_pure rfl (pure_move rfl) ?_
        refine step_split (t := 48) rfl (fun h48 => ?_) (fun h48 => ?_)
        · refine step_pass rfl rfl rfl ?_
          refine step_pass rfl rfl rfl ?_
          refine step_pure rfl (pure_pick_yes rfl rfl) ?_
          refine step_pure rfl (pure_move rfl) ?_
          refine step_pass rfl rfl rfl ?_
          refine step_pass rfl rfl rfl ?_
          refine step_pure rfl (pure_pick_yes rfl rfl) ?_
          refine step_pure rfl (pure_pick_yes rfl rfl) ?_
          refine step_pure rfl (pure_assign rfl) ?_
          refine step_nil ?_
          refine less_of ⟨?_, trivial⟩ rfl
          refine congrArg some (congrArg Value.bool ?_)
          simp_all <;> omega
        · refine step_pure rfl (pure_move rfl) ?_
          refine step_pure rfl (pure_lss rfl rfl) ?_
          refine step_pure rfl (pure_pick_no rfl rfl) ?_
          refine step_pure rfl (pure_move rfl) ?_
          refine step_split (t := 52) rfl (fun h52 => ?_) (fun h52 => ?_)
          · refine step_pass rfl rfl rfl ?_
            refine step_pass rfl rfl rfl ?_
            refine step_pure rfl (pure_pick_yes rfl rfl) ?_
            refine step_pure rfl (pure_pick_yes rfl rfl) ?_
            refine step_pure rfl (pure_assign rfl) ?_
            refine step_nil ?_
            refine less_of ⟨?_, trivial⟩ rfl
            refine congrArg some (congrArg Value.bool ?_)
            simp_all <;> omega
          · refine step_pure rfl (pure_move rfl) ?_
            refine step_pure rfl (pure_gtr rfl rfl) ?_
            refine step_pure rfl (pure_pick_no rfl rfl) ?_
            refine step_pure rfl (pure_pick_yes rfl rfl) ?_
            refine step_pure rfl (pure_assign rfl) ?_
            refine step_nil ?_
            refine less_of ⟨?_, trivial⟩ rfl
            refine congrArg some (congrArg Value.bool ?_)
            simp_all <;> omega
    exact s_ret fun a w ok => ends_k on (.inr rfl) ok (res_tmp Try.results9 rfl)
  | true =>
  obtain ⟨h1, h2⟩ := hd_yes hok
  rw [h1] at hw8 ⊢
  rw [h2]
  repeat refine s_seqs ?_
  refine s_cond_no rfl rfl ?_
  refine s_skip fun a w ok => WPs.run ?_ a w ok
  clear ok w a
  have hhl := hB_len s n
  have hv8 := vsize_cases n
  have hdd := hdd_hB hok b
  have hbb : Bytes (hB s n ++ b) := fun x hx => (List.mem_append.1 hx).elim (hB_bytes hok x) (hb x)
  have hpk := pk_ping hok
  have hpb := pB_yes hpk
  have hpe := pE_yes hpk
  repeat refine s_seqs ?_
  refine s_reg ?_
  refine step_buildSlice0 rfl rfl rfl rfl (fun b58 => ?_)
  refine step_pure rfl (pure_move rfl) ?_
  refine step_app8 (L := []) 0 rfl rfl (sl_empty ty5 5 b58) rfl (SlC.mono hw8 Cz.cel) rfl (by omega) (fun base9 cap9 e9 hs9 => ?_)
  rw [List.nil_append, Nat.zero_add] at hs9
  rw [Nat.zero_add]
  refine step_pure rfl (pure_move rfl) ?_
  refine step_app8 0 rfl rfl hs9 rfl (SlC.mono hv Cz.cel) rfl (by omega) (fun base10 cap10 e10 hs10 => ?_)
  rw [← List.length_append] at hs10 ⊢
  refine step_gives rfl fun22 rfl (fun w' hh kp => headed_any (hB s n ++ b) _ w' (slis_mem hs10 (fun _ => .head _) hh).slv hbb (by rw [List.length_append]; omega)) ?_
  rw [hdv_yes hdd]
  refine step_pure rfl (pure_move rfl) ?_
  refine step_pure rfl (pure_extract rfl rfl) ?_
  refine step_pure rfl (pure_extract rfl rfl) ?_
  refine step_pure rfl (pure_extract rfl rfl) ?_
  refine step_pure rfl (pure_extract rfl rfl) ?_
  refine step_pure rfl (pure_assign rfl) ?_
  refine step_pure rfl (pure_assign rfl) ?_
  refine step_pure rfl (pure_assign rfl) ?_
  refine step_pure rfl (pure_assign rfl) ?_
  refine Vc.step_end (fun a w ok => ?_)
  first | (refine WPs.run ?_ a w ok; clear ok w a) | skip
  repeat refine s_seqs ?_
  refine s_reg ?_
  refine step_pure rfl (pure_move rfl) ?_
  refine step_pure rfl (pure_move rfl) ?_
  refine step_pure rfl (pure_build_struct (pl := [(0, 1), (1, 1), (2, 1), (3, 1), (4, 1)]) rfl zero52 rfl rfl rfl rfl) ?_
  refine step_buildSlice rfl rfl rfl rfl elem52 (by decide) (by decide) (fill_fr _ _ _ _ _) (fun b72 => ?_)
  refine step_pure rfl (pure_build_struct (pl := [(0, 1), (1, 1), (2, 1)]) rfl zero24 rfl rfl rfl rfl) ?_
  refine step_givesP on.sc rfl fun12 rfl (fun w' Z' hh kp hZ hC => pwrite_P ⟨s, n, [pingF]⟩ _ w' hZ ⟨_, rfl, ping_mem (.head _) hh⟩ ping_big) ?_
  rintro u E5 g ⟨v14, rfl, hw14⟩
  replace on := on.next g
  replace hw8 := hw8.mono g.cz
  clear g
  rw [hpb] at hw14
  rw [hpe]
  refine step_pure rfl (pure_move rfl) ?_
  refine step_pure rfl (pure_extract rfl rfl) ?_
  refine step_pure rfl (pure_extract rfl rfl) ?_
  refine step_pure rfl (pure_assign rfl) ?_
  refine step_pure rfl (pure_assign rfl) ?_
  refine Vc.step_end (fun a w ok => ?_)
  first | (refine WPs.run ?_ a w ok; clear ok w a) | skip
  repeat refine s_seqs ?_
  refine s_reg ?_
  refine step_pure rfl (pure_build_struct (pl := [(0, 1), (1, 1), (2, 1), (3, 1), (4, 1)]) rfl zero52 rfl rfl rfl rfl) ?_
  refine step_buildSlice rfl rfl rfl rfl elem52 (by decide) (by decide) (fill_fr _ _ _ _ _) (fun b79 => ?_)
  refine step_givesP on.sc rfl fun28 rfl (fun w' Z' hh kp hZ hC => write_P [pingF] _ w' hZ (ping_mem (.head _) hh) ping_big) ?_
  rintro u E6 g ⟨v16, rfl, hw16⟩
  replace on := on.next g
  replace hw8 := hw8.mono g.cz
  replace hw14 := hw14.mono g.cz
  clear g
  rw [if_pos wrPing]
  refine step_pure rfl (pure_move rfl) ?_
  refine step_pure rfl (pure_extract rfl rfl) ?_
  refine step_pure rfl (pure_extract rfl rfl) ?_
  refine step_pure rfl (pure_assign rfl) ?_
  refine step_pure rfl (pure_assign rfl) ?_
  refine Vc.step_end (fun a w ok => ?_)
  first | (refine WPs.run ?_ a w ok; clear ok w a) | skip
  have hwp := wBs_ping
  generalize wBs [pingF] = W at *
  have hwl : W.length ≤ 10 := by rw [hwp]; decide
  clear hwp
  repeat refine s_seqs ?_
  refine s_reg ?_
  refine step_pure rfl (pure_move rfl) ?_
  refine step_pure rfl (pure_move rfl) ?_
  refine step_pure rfl (pure_move rfl) ?_
  refine step_as rfl (pure_eql rfl rfl) (show _ = Value.bool true from by rw [beq_self_eq_true]) ?_
  refine step_pure rfl (pure_pick_yes rfl rfl) ?_
  refine step_pure rfl (pure_move rfl) ?_
  refine step_pure rfl (pure_move rfl) ?_
  refine step_pure rfl (pure_move rfl) ?_
  refine step_as rfl (pure_eql rfl rfl) (show _ = Value.bool true from by rw [beq_self_eq_true]) ?_
  refine step_pure rfl (pure_pick_yes rfl rfl) ?_
  refine step_pure rfl (pure_move rfl) ?_
  refine step_pure rfl (pure_move rfl) ?_
  refine step_pure rfl (pure_move rfl) ?_
  refine step_as rfl (pure_eql rfl rfl) (show _ = Value.bool true from by rw [beq_self_eq_true]) ?_
  refine step_pure rfl (pure_pick_yes rfl rfl) ?_
  refine step_pure rfl (pure_move rfl) ?_
  refine step_pure rfl (pure_move rfl) ?_
  refine step_pure rfl (pure_move rfl) ?_
  refine step_pure rfl (pure_len_slice rfl rfl rfl) ?_
  refine step_as rfl (pure_eql rfl rfl) (show _ = Value.bool true from by rw [beq_self_eq_true]) ?_
  refine step_pure rfl (pure_pick_yes rfl rfl) ?_
  refine step_pure rfl (pure_move rfl) ?_
  refine step_pure rfl (pure_move rfl) ?_
  refine step_as rfl (pure_eql rfl rfl) (show _ = Value.bool true from by rw [beq_self_eq_true]) ?_
  refine step_pure rfl (pure_pick_yes rfl rfl) ?_
  refine step_pure rfl (pure_move rfl) ?_
  refine step_pure rfl (pure_move rfl) ?_
  refine step_as rfl (pure_eql rfl rfl) (show _ = Value.bool true from by rw [beq_self_eq_true]) ?_
  refine step_pure rfl (pure_pick_yes rfl rfl) ?_
  refine step_pure rfl (pure_move rfl) ?_
  refine step_pure rfl (pure_move rfl) ?_
  refine step_pure rfl (pure_cz_string rfl rfl rfl rfl rfl rfl rfl hw14) ?_
  refine step_pure rfl (pure_move rfl) ?_
  refine step_pure rfl (pure_cz_string rfl rfl rfl rfl rfl rfl rfl hw8) ?_
  refine step_pure rfl (pure_move rfl) ?_
  refine step_pure rfl (pure_cz_string rfl rfl rfl rfl rfl rfl rfl hw16) ?_
  refine step_pure rfl (pure_str_add rfl rfl (by omega)) ?_
  refine step_as rfl (pure_str_eql rfl rfl) (show _ = Value.bool true from by rw [beq_self_eq_true]) ?_
  refine step_pure rfl (pure_pick_yes rfl rfl) ?_
  refine step_pure rfl (pure_assign rfl) ?_
  refine Vc.step_end (fun a w ok => ?_)
  first | (refine WPs.run ?_ a w ok; clear ok w a) | skip
  exact s_ret fun a w ok => ends_k on (.inr rfl) ok (res_tmp Try.results9 rfl)
end Go.Proofs.Ytajcfafamdacdaa
