/- Few frames; the calls at the head of all laws of packets: walked. -/
import Derived.Test.YtajcfafamdacdaaP6
namespace Go.Proofs.Ytajcfafamdacdaa
open Go.RowKit Go.Vc
set_option linter.unusedVariables false

theorem few_any (fs : List Fr) (v : Value) (w : World) (hv : FrsC (fun p x => w.cell? p = some x) v fs) : Gives tb 11 [v] w (.bool (fewB fs)) := by
  obtain ⟨base1, cap1, rfl, hcap1⟩ := hv.slice
  refine gives_of (fn := Try.f11) Try.func11 rfl Try.ntmps11 rfl ?_
  repeat refine c_seq ?_
  refine c_region ?_
  refine step_pure rfl (pure_assign rfl) ?_
  refine step_nil ?_
  repeat refine c_seq ?_
  refine c_region ?_
  refine step_pure rfl (pure_move rfl) ?_
  refine step_pure rfl (pure_len_slice rfl rfl rfl) ?_
  refine step_pure rfl (pure_gtr rfl rfl) ?_
  refine step_nil ?_
  repeat refine c_seq ?_
  refine c_cond rfl (fun h => ?_) (fun h => ?_)
  · have hno : fewB fs = false := by
      have := of_decide_eq_true h
      unfold fewB
      rw [decide_eq_false (by omega), Bool.false_and]
    rw [hno]
    repeat refine c_seq ?_
    refine c_region ?_
    refine step_pure rfl (pure_assign rfl) ?_
    refine step_nil ?_
    exact c_ret ⟨_, res_tmp Try.results11 rfl, rfl⟩
  · have h30 : fs.length ≤ 30 := by have := of_decide_eq_false h; omega
    clear h
    refine c_skip ?_
    repeat refine c_seq ?_
    refine c_region ?_
    refine step_pure rfl (pure_assign rfl) ?_
    refine step_nil ?_
    repeat refine c_seq ?_
    refine c_block ?_
    repeat refine c_seq ?_
    refine c_loop (α := Nat) (fun i => [(0, .slice base1 fs.length cap1), (3, .int .i64 i)]) (fun _ => [])
      (fun i => i ≤ fs.length ∧ ∀ j f, j < i → fs[j]? = some f → smallF f = true) (fun i => fs.length - i) 0 ⟨Nat.zero_le _, by omega⟩ (less_sub ⟨rfl, rfl, trivial⟩ (List.nil_sublist _)) ?_
    rintro i ⟨hi, hall⟩
    repeat refine c_seq ?_
    refine c_region ?_
    refine step_pure rfl (pure_move rfl) ?_
    refine step_pure rfl (pure_move rfl) ?_
    refine step_pure rfl (pure_len_slice rfl rfl rfl) ?_
    refine step_pure rfl (pure_lss rfl rfl) ?_
    refine step_nil ?_
    repeat refine c_seq ?_
    refine c_cond rfl (fun h => ?_) (fun h => ?_)
    · have hlt : i < fs.length := by have := of_decide_eq_true h; omega
      clear h
      refine c_skip ?_
      repeat refine c_seq ?_
      refine c_block ?_
      obtain ⟨p1, cp, cs, hq, hfc, hp⟩ := hv.at hlt
      cases hq
      obtain ⟨rv, dv, rfl, hr, hd⟩ := hfc
      obtain ⟨rb, rc, rfl, -, -, -⟩ := hr
      obtain ⟨db, dc, rfl, -, -, -⟩ := hd
      have hc3 := hp 3 _ rfl
      have hc4 := hp 4 _ rfl
      have hsf : smallF fs[i] = !(decide ((fs[i].data.length : Int) > 3000) || decide ((fs[i].rs.length : Int) > 40)) := rfl
      repeat refine c_seq ?_
      repeat refine c_seq ?_
      refine c_meet [(0, .slice (some p1) fs.length cap1), (3, .int .i64 i), (28, .bool (!smallF fs[i]))] [] ?_ ?_
      · rw [hsf]
        generalize fs[i].data.length = dl at *
        generalize fs[i].rs.length = rl at *
        repeat refine c_seq ?_
        refine c_region ?_
        refine step_pure rfl (pure_move rfl) ?_
        refine step_pure rfl (pure_move rfl) ?_
        refine step_as rfl (pure_indexAddr_at rfl rfl rfl rfl rfl (by omega) (by omega)) (show _ = Value.pointer (some (p1.add (i * 5))) from by show Value.pointer (some (p1.add ((i : Int).toNat * 5))) = _; rw [Int.toNat_natCast]) ?_
        refine step_pure rfl (pure_fieldAddr_at rfl rfl rfl rfl rfl (by decide)) ?_
        refine step_pure rfl (pure_view_at rfl rfl rfl hc4 List.not_mem_nil) ?_
        refine step_pure rfl (pure_len_slice rfl rfl rfl) ?_
        refine step_pure rfl (pure_gtr rfl rfl) ?_
        refine step_pure rfl (pure_move rfl) ?_
        refine step_split (t := 20) rfl (fun h20 => ?_) (fun h20 => ?_)
        · refine step_pass rfl rfl rfl ?_
          refine step_pass rfl rfl rfl ?_
          refine step_pass rfl rfl rfl ?_
          refine step_pass rfl rfl rfl ?_
          refine step_pass rfl rfl rfl ?_
          refine step_pass rfl rfl rfl ?_
          refine step_pass rfl rfl rfl ?_
          refine step_pure rfl (pure_pick_yes rfl rfl) ?_
          refine step_nil ?_
          refine less_sub ⟨rfl, rfl, ?_, trivial⟩ (List.nil_sublist _)
          refine congrArg some (congrArg Value.bool ?_)
          clear hc3 hc4 hp hv
          simp_all <;> omega
        · refine step_pure rfl (pure_move rfl) ?_
          refine step_pure rfl (pure_move rfl) ?_
          refine step_as rfl (pure_indexAddr_at rfl rfl rfl rfl rfl (by omega) (by omega)) (show _ = Value.pointer (some (p1.add (i * 5))) from by show Value.pointer (some (p1.add ((i : Int).toNat * 5))) = _; rw [Int.toNat_natCast]) ?_
          refine step_pure rfl (pure_fieldAddr_at rfl rfl rfl rfl rfl (by decide)) ?_
          refine step_pure rfl (pure_view_at rfl rfl rfl hc3 List.not_mem_nil) ?_
          refine step_pure rfl (pure_len_slice rfl rfl rfl) ?_
          refine step_pure rfl (pure_gtr rfl rfl) ?_
          refine step_pure rfl (pure_pick_no rfl rfl) ?_
          refine step_nil ?_
          refine less_sub ⟨rfl, rfl, ?_, trivial⟩ (List.nil_sublist _)
          refine congrArg some (congrArg Value.bool ?_)
          clear hc3 hc4 hp hv
          simp_all <;> omega
      repeat refine c_seq ?_
      refine c_cond rfl (fun h => ?_) (fun h => ?_)
      · have hz : smallF fs[i] = false := by simpa using h
        rw [show fewB fs = false by
          unfold fewB
          rw [Bool.and_eq_false_iff]
          right
          rw [List.all_eq_false]
          exact ⟨fs[i], List.getElem_mem hlt, by simp [hz]⟩]
        repeat refine c_seq ?_
        refine c_region ?_
        refine step_pure rfl (pure_assign rfl) ?_
        refine step_nil ?_
        exact c_ret ⟨_, res_tmp Try.results11 rfl, rfl⟩
      · have hz : smallF fs[i] = true := by simpa using h
        refine c_skip ?_
        repeat refine c_seq ?_
        refine c_region ?_
        refine step_pure rfl (pure_move rfl) ?_
        first | refine step_pure rfl (pure_add64 rfl rfl (by omega) (by omega)) ?_ | refine step_pure rfl (pure_add rfl rfl) ?_
        refine step_pure rfl (pure_assign rfl) ?_
        refine step_nil ?_
        refine ⟨i + 1, ⟨hlt, fun j f hj hf => ?_⟩, by omega, less_sub ⟨rfl, rfl, trivial⟩ (List.nil_sublist _)⟩
        by_cases hji : j = i
        · subst hji
          rw [List.getElem?_eq_getElem hlt] at hf
          cases hf
          exact hz
        · exact hall j f (by omega) hf
    · have hie : i = fs.length := by have := of_decide_eq_false h; omega
      rw [show fewB fs = true by
        unfold fewB
        rw [Bool.and_eq_true, List.all_eq_true]
        refine ⟨by simpa using h30, fun f hf => ?_⟩
        obtain ⟨j, hj, rfl⟩ := List.mem_iff_getElem.1 hf
        exact hall j _ (by omega) (List.getElem?_eq_getElem hj)]
      refine c_exit ?_
      repeat refine c_seq ?_
      refine c_region ?_
      refine step_pure rfl (pure_assign rfl) ?_
      refine step_nil ?_
      exact c_ret ⟨_, res_tmp Try.results11 rfl, rfl⟩

theorem frs_one {C : Addr → Value → Prop} {f : Fr} {cs : List Value} {v : Value} (h : FrC C f cs) (hs : SlC C 5 v 1 cs) : FrsC C v [f] := by
  refine ⟨[cs], rfl, fun i f' cs' h1 h2 => ?_, by simpa using hs⟩
  cases i with
  | zero => cases h1; cases h2; exact h
  | succ i => simp at h1
def pingCells : List Value := [.int .i64 1, .int .i64 0, .int .i64 0, .slice none 0 0, .slice none 0 0]
theorem pingC {C : Addr → Value → Prop} : FrC C pingF pingCells := ⟨_, _, rfl, slc_nil, slc_nil⟩
theorem ping_sl {C : Addr → Value → Prop} {b : Nat} (hc : ∀ j x, pingCells[j]? = some x → C ⟨b, j, none⟩ x) : FrsC C (.slice (some ⟨b, 0, none⟩) 1 1) [pingF] :=
  frs_one pingC (slis_cz (sl_built ty52 52 b pingCells 1 rfl) hc)
def pingP : Pk := ⟨1, 5, [pingF]⟩
theorem pB_ping : pB pingP = [1, 5, 1] := by decide
theorem pE_ping : pE pingP = 0 := by decide
theorem pG_ping : pG [1, 5, 1] = pingP := by rfl
theorem pX_ping : pX [1, 5, 1] = 0 := by decide
theorem pad5 : pPad 5 [pingF] = some [pingF, padN 2] := by rfl
theorem pad2 : pPad 2 [pingF] = none := by rfl
theorem hd_ping : HdV [1, 5, 1] = .tuple #[.int .i64 1, .int .i64 5, .int .i64 2, .int .i64 0] := by rfl
theorem ps_ping : psB pingP pingP = true := (psB_iff (by intro f hf; simp [pingP] at hf; subst hf; intro x hx; cases hx) (by intro f hf; simp [pingP] at hf; subst hf; intro x hx; cases hx)).2 rfl
theorem pa_ping : pasks pingP = true := by decide
theorem pE_zero : pE ⟨0, 0, []⟩ = 30 := by decide
theorem all_ping : allB [pingF, padN 2] [pingF, padF] = true := (allB_iff (by intro f hf; simp at hf; rcases hf with rfl | rfl <;> (intro x hx; cases hx)) (by intro f hf; simp at hf; rcases hf with rfl | rfl <;> (intro x hx; cases hx))).2 rfl
theorem fill151 : fillL (fun i => some (i * ty5.size, ty5.size)) (rowOf [Value.int .u8 0] (3 * ty5.size)) [(0, .int .u8 1), (1, .int .u8 5), (2, .int .u8 1)] = some (row [1, 5, 1]) := by kernel_rfl
theorem ping_big : ∀ f ∈ [pingF], f.data.length ≤ maxLen := by intro f hf; simp at hf; subst hf; exact Nat.zero_le _
set_option maxHeartbeats 4000000 in
theorem awake_any (w : World) : Gives tb 10 [] w (.bool true) := by
  refine gives_ofk (fn := Try.f10) Try.func10 rfl Try.ntmps10 rfl (fun on => ?_)
  repeat refine s_seqs ?_
  refine s_reg ?_
  refine step_pure rfl (pure_assign rfl) ?_
  refine Vc.step_end (fun a w ok => ?_)
  first | (refine WPs.run ?_ a w ok; clear ok w a) | skip
  repeat refine s_seqs ?_
  refine s_reg ?_
  refine step_pure rfl (pure_build_struct (pl := [(0, 1), (1, 1), (2, 1), (3, 1), (4, 1)]) rfl zero52 rfl rfl rfl rfl) ?_
  refine step_alloc rfl zero52 (fun b1 => ?_)
  first | refine step_store_agg 0 rfl rfl rfl (by decide) rfl rfl rfl rfl (by decide) rfl ?_ | refine step_store_agg 1 rfl rfl rfl (by decide) rfl rfl rfl rfl (by decide) rfl ?_ | refine step_store_agg 2 rfl rfl rfl (by decide) rfl rfl rfl rfl (by decide) rfl ?_ | refine step_store_agg 3 rfl rfl rfl (by decide) rfl rfl rfl rfl (by decide) rfl ?_ | refine step_store_agg 4 rfl rfl rfl (by decide) rfl rfl rfl rfl (by decide) rfl ?_ | refine step_store_agg 5 rfl rfl rfl (by decide) rfl rfl rfl rfl (by decide) rfl ?_ | refine step_store_agg 0 rfl rfl rfl (of_one rfl) rfl rfl rfl rfl (Nat.le_of_ble_eq_true rfl) rfl ?_ | refine step_store_agg 1 rfl rfl rfl (of_one rfl) rfl rfl rfl rfl (Nat.le_of_ble_eq_true rfl) rfl ?_ | refine step_store_agg 2 rfl rfl rfl (of_one rfl) rfl rfl rfl rfl (Nat.le_of_ble_eq_true rfl) rfl ?_ | refine step_store_agg 3 rfl rfl rfl (of_one rfl) rfl rfl rfl rfl (Nat.le_of_ble_eq_true rfl) rfl ?_ | refine step_store_agg 4 rfl rfl rfl (of_one rfl) rfl rfl rfl rfl (Nat.le_of_ble_eq_true rfl) rfl ?_ | refine step_store_agg 5 rfl rfl rfl (of_one rfl) rfl rfl rfl rfl (Nat.le_of_ble_eq_true rfl) rfl ?_
  refine Vc.step_end (fun a w ok => ?_)
  first | (refine WPs.run ?_ a w ok; clear ok w a) | skip
  repeat refine s_seqs ?_
  refine s_reg ?_
  first | refine step_pure rfl (pure_load_agg (i := 0) rfl rfl rfl rfl rfl (by first | decide | exact Nat.le_of_ble_eq_true rfl) rfl) ?_ | refine step_pure rfl (pure_load_agg (i := 1) rfl rfl rfl rfl rfl (by first | decide | exact Nat.le_of_ble_eq_true rfl) rfl) ?_ | refine step_pure rfl (pure_load_agg (i := 2) rfl rfl rfl rfl rfl (by first | decide | exact Nat.le_of_ble_eq_true rfl) rfl) ?_ | refine step_pure rfl (pure_load_agg (i := 3) rfl rfl rfl rfl rfl (by first | decide | exact Nat.le_of_ble_eq_true rfl) rfl) ?_ | refine step_pure rfl (pure_load_agg (i := 4) rfl rfl rfl rfl rfl (by first | decide | exact Nat.le_of_ble_eq_true rfl) rfl) ?_ | refine step_pure rfl (pure_load_agg (i := 5) rfl rfl rfl rfl rfl (by first | decide | exact Nat.le_of_ble_eq_true rfl) rfl) ?_
  refine step_buildSlice rfl rfl rfl rfl elem52 (by decide) (by decide) (fill_fr _ _ _ _ _) (fun b18 => ?_)
  refine step_pure rfl (pure_build_struct (pl := [(0, 1), (1, 1), (2, 1)]) rfl zero24 rfl rfl rfl rfl) ?_
  refine step_alloc rfl zero24 (fun b2 => ?_)
  first | refine step_store_agg 0 rfl rfl rfl (by decide) rfl rfl rfl rfl (by decide) rfl ?_ | refine step_store_agg 1 rfl rfl rfl (by decide) rfl rfl rfl rfl (by decide) rfl ?_ | refine step_store_agg 2 rfl rfl rfl (by decide) rfl rfl rfl rfl (by decide) rfl ?_ | refine step_store_agg 3 rfl rfl rfl (by decide) rfl rfl rfl rfl (by decide) rfl ?_ | refine step_store_agg 4 rfl rfl rfl (by decide) rfl rfl rfl rfl (by decide) rfl ?_ | refine step_store_agg 5 rfl rfl rfl (by decide) rfl rfl rfl rfl (by decide) rfl ?_ | refine step_store_agg 0 rfl rfl rfl (of_one rfl) rfl rfl rfl rfl (Nat.le_of_ble_eq_true rfl) rfl ?_ | refine step_store_agg 1 rfl rfl rfl (of_one rfl) rfl rfl rfl rfl (Nat.le_of_ble_eq_true rfl) rfl ?_ | refine step_store_agg 2 rfl rfl rfl (of_one rfl) rfl rfl rfl rfl (Nat.le_of_ble_eq_true rfl) rfl ?_ | refine step_store_agg 3 rfl rfl rfl (of_one rfl) rfl rfl rfl rfl (Nat.le_of_ble_eq_true rfl) rfl ?_ | refine step_store_agg 4 rfl rfl rfl (of_one rfl) rfl rfl rfl rfl (Nat.le_of_ble_eq_true rfl) rfl ?_ | refine step_store_agg 5 rfl rfl rfl (of_one rfl) rfl rfl rfl rfl (Nat.le_of_ble_eq_true rfl) rfl ?_
  refine Vc.step_end (fun a w ok => ?_)
  first | (refine WPs.run ?_ a w ok; clear ok w a) | skip
  refine s_let 1 rfl (fun E1 g hc => ?_)
  replace on := on.next g
  have hp := ping_sl (hc (fun _ => True) (fun _ _ => trivial))
  clear g hc
  repeat refine s_seqs ?_
  refine s_reg ?_
  refine step_pure rfl (pure_load_agg (i := 0) rfl rfl rfl rfl rfl (by show 3 ≤ 3; decide) rfl) ?_
  refine step_givesP on.sc rfl fun12 rfl (fun w' Z' hh kp hZ hC => pwrite_P pingP _ w' hZ ⟨_, rfl, hp.mono (Cz.now kp)⟩ ping_big) ?_
  rintro u E2 g ⟨v3, rfl, hw⟩
  replace on := on.next g
  replace hp := hp.mono g.cz
  clear g
  rw [pB_ping] at hw
  rw [pE_ping]
  refine step_pure rfl (pure_move rfl) ?_
  refine step_pure rfl (pure_extract rfl rfl) ?_
  refine step_pure rfl (pure_extract rfl rfl) ?_
  refine step_pure rfl (pure_assign rfl) ?_
  refine step_pure rfl (pure_assign rfl) ?_
  refine Vc.step_end (fun a w ok => ?_)
  first | (refine WPs.run ?_ a w ok; clear ok w a) | skip
  obtain ⟨base3, cap3, rfl, hcap3⟩ := slc_str hw
  repeat refine s_seqs ?_
  refine s_reg ?_
  refine step_pure rfl (pure_move rfl) ?_
  refine step_givesP on.sc rfl fun20 rfl (fun w' Z' hh kp hZ hC => pread_P [1, 5, 1] _ w' hZ (hw.mono (Cz.now kp)) (by intro x hx; simp at hx; omega) (by decide)) ?_
  rintro u E3 g ⟨v5, rfl, hr⟩
  replace on := on.next g
  replace hp := hp.mono g.cz
  replace hw := hw.mono g.cz
  clear g
  rw [pG_ping] at hr ⊢
  rw [pX_ping]
  obtain ⟨base5, cap5, rfl, hcap5⟩ := hr.slice
  refine step_pure rfl (pure_move rfl) ?_
  refine step_pure rfl (pure_extract rfl rfl) ?_
  refine step_pure rfl (pure_extract rfl rfl) ?_
  refine step_alloc rfl zero24 (fun b5 => ?_)
  first | refine step_store_agg 0 rfl rfl rfl (by decide) rfl rfl rfl rfl (by decide) rfl ?_ | refine step_store_agg 1 rfl rfl rfl (by decide) rfl rfl rfl rfl (by decide) rfl ?_ | refine step_store_agg 2 rfl rfl rfl (by decide) rfl rfl rfl rfl (by decide) rfl ?_ | refine step_store_agg 3 rfl rfl rfl (by decide) rfl rfl rfl rfl (by decide) rfl ?_ | refine step_store_agg 4 rfl rfl rfl (by decide) rfl rfl rfl rfl (by decide) rfl ?_ | refine step_store_agg 5 rfl rfl rfl (by decide) rfl rfl rfl rfl (by decide) rfl ?_ | refine step_store_agg 0 rfl rfl rfl (of_one rfl) rfl rfl rfl rfl (Nat.le_of_ble_eq_true rfl) rfl ?_ | refine step_store_agg 1 rfl rfl rfl (of_one rfl) rfl rfl rfl rfl (Nat.le_of_ble_eq_true rfl) rfl ?_ | refine step_store_agg 2 rfl rfl rfl (of_one rfl) rfl rfl rfl rfl (Nat.le_of_ble_eq_true rfl) rfl ?_ | refine step_store_agg 3 rfl rfl rfl (of_one rfl) rfl rfl rfl rfl (Nat.le_of_ble_eq_true rfl) rfl ?_ | refine step_store_agg 4 rfl rfl rfl (of_one rfl) rfl rfl rfl rfl (Nat.le_of_ble_eq_true rfl) rfl ?_ | refine step_store_agg 5 rfl rfl rfl (of_one rfl) rfl rfl rfl rfl (Nat.le_of_ble_eq_true rfl) rfl ?_
  refine step_pure rfl (pure_assign rfl) ?_
  refine Vc.step_end (fun a w ok => ?_)
  first | (refine WPs.run ?_ a w ok; clear ok w a) | skip
  repeat refine s_seqs ?_
  refine s_reg ?_
  first | refine step_pure rfl (pure_load_agg (i := 0) rfl rfl rfl rfl rfl (by first | decide | exact Nat.le_of_ble_eq_true rfl) rfl) ?_ | refine step_pure rfl (pure_load_agg (i := 1) rfl rfl rfl rfl rfl (by first | decide | exact Nat.le_of_ble_eq_true rfl) rfl) ?_ | refine step_pure rfl (pure_load_agg (i := 2) rfl rfl rfl rfl rfl (by first | decide | exact Nat.le_of_ble_eq_true rfl) rfl) ?_ | refine step_pure rfl (pure_load_agg (i := 3) rfl rfl rfl rfl rfl (by first | decide | exact Nat.le_of_ble_eq_true rfl) rfl) ?_ | refine step_pure rfl (pure_load_agg (i := 4) rfl rfl rfl rfl rfl (by first | decide | exact Nat.le_of_ble_eq_true rfl) rfl) ?_ | refine step_pure rfl (pure_load_agg (i := 5) rfl rfl rfl rfl rfl (by first | decide | exact Nat.le_of_ble_eq_true rfl) rfl) ?_
  refine step_buildSlice rfl rfl rfl rfl elem52 (by decide) (by decide) (fill_fr _ _ _ _ _) (fun b32 => ?_)
  refine l_let 0 rfl (fun E4 g hc => ?_)
  replace on := on.next g
  replace hp := hp.mono g.cz
  replace hw := hw.mono g.cz
  replace hr := hr.mono g.cz
  have hp2 := ping_sl (hc (fun _ => True) (fun _ _ => trivial))
  clear g hc
  refine step_givesP on.sc rfl fun25 rfl (fun w' Z' hh kp hZ hC => pad_P 5 [pingF] _ w' hZ (hp2.mono hC) ping_big) ?_
  rintro u E5 g ⟨v7, rfl, hd⟩
  replace on := on.next g
  replace hp := hp.mono g.cz
  replace hw := hw.mono g.cz
  replace hr := hr.mono g.cz
  clear g
  rw [pad5] at hd ⊢
  refine step_pure rfl (pure_move rfl) ?_
  refine step_pure rfl (pure_extract rfl rfl) ?_
  refine step_pure rfl (pure_extract rfl rfl) ?_
  refine step_pure rfl (pure_assign rfl) ?_
  refine step_pure rfl (pure_assign rfl) ?_
  refine Vc.step_end (fun a w ok => ?_)
  first | (refine WPs.run ?_ a w ok; clear ok w a) | skip
  repeat refine s_seqs ?_
  refine s_reg ?_
  first | refine step_pure rfl (pure_load_agg (i := 0) rfl rfl rfl rfl rfl (by first | decide | exact Nat.le_of_ble_eq_true rfl) rfl) ?_ | refine step_pure rfl (pure_load_agg (i := 1) rfl rfl rfl rfl rfl (by first | decide | exact Nat.le_of_ble_eq_true rfl) rfl) ?_ | refine step_pure rfl (pure_load_agg (i := 2) rfl rfl rfl rfl rfl (by first | decide | exact Nat.le_of_ble_eq_true rfl) rfl) ?_ | refine step_pure rfl (pure_load_agg (i := 3) rfl rfl rfl rfl rfl (by first | decide | exact Nat.le_of_ble_eq_true rfl) rfl) ?_ | refine step_pure rfl (pure_load_agg (i := 4) rfl rfl rfl rfl rfl (by first | decide | exact Nat.le_of_ble_eq_true rfl) rfl) ?_ | refine step_pure rfl (pure_load_agg (i := 5) rfl rfl rfl rfl rfl (by first | decide | exact Nat.le_of_ble_eq_true rfl) rfl) ?_
  refine step_buildSlice rfl rfl rfl rfl elem52 (by decide) (by decide) (fill_fr _ _ _ _ _) (fun b38 => ?_)
  refine l_let 0 rfl (fun E6 g hc => ?_)
  replace on := on.next g
  replace hp := hp.mono g.cz
  replace hw := hw.mono g.cz
  replace hr := hr.mono g.cz
  replace hd := hd.mono g.cz
  have hp3 := ping_sl (hc (fun _ => True) (fun _ _ => trivial))
  clear g hc
  refine step_givesP on.sc rfl fun25 rfl (fun w' Z' hh kp hZ hC => pad_P 2 [pingF] _ w' hZ (hp3.mono hC) ping_big) ?_
  rintro u E7 g ⟨v9, rfl, hd9⟩
  replace on := on.next g
  replace hp := hp.mono g.cz
  replace hw := hw.mono g.cz
  replace hr := hr.mono g.cz
  replace hd := hd.mono g.cz
  clear g hd9
  rw [pad2]
  refine step_pure rfl (pure_move rfl) ?_
  refine step_pure rfl (pure_extract rfl rfl) ?_
  refine step_pure rfl (pure_extract rfl rfl) ?_
  refine step_pure rfl (pure_assign rfl) ?_
  refine step_pure rfl (pure_assign rfl) ?_
  refine Vc.step_end (fun a w ok => ?_)
  first | (refine WPs.run ?_ a w ok; clear ok w a) | skip
  repeat refine s_seqs ?_
  refine s_reg ?_
  refine step_pure rfl (pure_move rfl) ?_
  refine step_gives rfl fun22 rfl (fun w' hh kp => headed_any [1, 5, 1] _ w' (hw.mono (Cz.now kp)).slv (by intro x hx; simp at hx; omega) (by decide)) ?_
  rw [hd_ping]
  refine step_pure rfl (pure_move rfl) ?_
  refine step_pure rfl (pure_extract rfl rfl) ?_
  refine step_pure rfl (pure_extract rfl rfl) ?_
  refine step_pure rfl (pure_extract rfl rfl) ?_
  refine step_pure rfl (pure_extract rfl rfl) ?_
  refine step_pure rfl (pure_assign rfl) ?_
  refine step_pure rfl (pure_assign rfl) ?_
  refine step_pure rfl (pure_assign rfl) ?_
  refine step_pure rfl (pure_assign rfl) ?_
  refine Vc.step_end (fun a w ok => ?_)
  first | (refine WPs.run ?_ a w ok; clear ok w a) | skip
  repeat refine s_seqs ?_
  refine s_reg ?_
  first | refine step_pure rfl (pure_load_agg (i := 0) rfl rfl rfl rfl rfl (by first | decide | exact Nat.le_of_ble_eq_true rfl) rfl) ?_ | refine step_pure rfl (pure_load_agg (i := 1) rfl rfl rfl rfl rfl (by first | decide | exact Nat.le_of_ble_eq_true rfl) rfl) ?_ | refine step_pure rfl (pure_load_agg (i := 2) rfl rfl rfl rfl rfl (by first | decide | exact Nat.le_of_ble_eq_true rfl) rfl) ?_ | refine step_pure rfl (pure_load_agg (i := 3) rfl rfl rfl rfl rfl (by first | decide | exact Nat.le_of_ble_eq_true rfl) rfl) ?_ | refine step_pure rfl (pure_load_agg (i := 4) rfl rfl rfl rfl rfl (by first | decide | exact Nat.le_of_ble_eq_true rfl) rfl) ?_ | refine step_pure rfl (pure_load_agg (i := 5) rfl rfl rfl rfl rfl (by first | decide | exact Nat.le_of_ble_eq_true rfl) rfl) ?_
  first | refine step_pure rfl (pure_load_agg (i := 0) rfl rfl rfl rfl rfl (by first | decide | exact Nat.le_of_ble_eq_true rfl) rfl) ?_ | refine step_pure rfl (pure_load_agg (i := 1) rfl rfl rfl rfl rfl (by first | decide | exact Nat.le_of_ble_eq_true rfl) rfl) ?_ | refine step_pure rfl (pure_load_agg (i := 2) rfl rfl rfl rfl rfl (by first | decide | exact Nat.le_of_ble_eq_true rfl) rfl) ?_ | refine step_pure rfl (pure_load_agg (i := 3) rfl rfl rfl rfl rfl (by first | decide | exact Nat.le_of_ble_eq_true rfl) rfl) ?_ | refine step_pure rfl (pure_load_agg (i := 4) rfl rfl rfl rfl rfl (by first | decide | exact Nat.le_of_ble_eq_true rfl) rfl) ?_ | refine step_pure rfl (pure_load_agg (i := 5) rfl rfl rfl rfl rfl (by first | decide | exact Nat.le_of_ble_eq_true rfl) rfl) ?_
  refine step_gives rfl fun24 rfl (fun w' hh kp => psame_any pingP pingP _ _ w' ⟨_, rfl, hp.mono (Cz.now kp)⟩ ⟨_, rfl, hr.mono (Cz.now kp)⟩ (by intro f hf; simp [pingP] at hf; subst hf; exact Nat.zero_le _) (by decide)) ?_
  rw [ps_ping]
  refine step_pure rfl (pure_assign rfl) ?_
  refine Vc.step_end (fun a w ok => ?_)
  first | (refine WPs.run ?_ a w ok; clear ok w a) | skip
  repeat refine s_seqs ?_
  refine s_reg ?_
  refine step_pure rfl (pure_move rfl) ?_
  refine step_pure rfl (pure_cz_string rfl rfl rfl rfl rfl rfl rfl hw) ?_
  refine step_buildSlice rfl rfl rfl rfl elem5 (by decide) (by decide) fill151 (fun b54 => ?_)
  refine step_pure rfl (pure_bytes_string rfl rfl rfl rfl rfl rfl rfl rfl (sl_built ty5 5 b54 (row [1, 5, 1]) 3 rfl) (j := 0) rfl) ?_
  refine step_as rfl (pure_str_eql rfl rfl) (show _ = Value.bool true from by rw [beq_self_eq_true]) ?_
  refine step_pure rfl (pure_move rfl) ?_
  refine step_pure rfl (pure_move rfl) ?_
  refine step_pure rfl (pure_eql rfl rfl) ?_
  refine step_pure rfl (pure_pick_yes rfl rfl) ?_
  refine step_pure rfl (pure_move rfl) ?_
  refine step_pure rfl (pure_move rfl) ?_
  refine step_pure rfl (pure_pick_yes rfl rfl) ?_
  refine step_pure rfl (pure_move rfl) ?_
  refine step_pure rfl (pure_move rfl) ?_
  refine step_pure rfl (pure_eql rfl rfl) ?_
  refine step_pure rfl (pure_pick_yes rfl rfl) ?_
  refine step_pure rfl (pure_move rfl) ?_
  refine step_pure rfl (pure_move rfl) ?_
  first | refine step_pure rfl (pure_load_agg (i := 0) rfl rfl rfl rfl rfl (by first | decide | exact Nat.le_of_ble_eq_true rfl) rfl) ?_ | refine step_pure rfl (pure_load_agg (i := 1) rfl rfl rfl rfl rfl (by first | decide | exact Nat.le_of_ble_eq_true rfl) rfl) ?_ | refine step_pure rfl (pure_load_agg (i := 2) rfl rfl rfl rfl rfl (by first | decide | exact Nat.le_of_ble_eq_true rfl) rfl) ?_ | refine step_pure rfl (pure_load_agg (i := 3) rfl rfl rfl rfl rfl (by first | decide | exact Nat.le_of_ble_eq_true rfl) rfl) ?_ | refine step_pure rfl (pure_load_agg (i := 4) rfl rfl rfl rfl rfl (by first | decide | exact Nat.le_of_ble_eq_true rfl) rfl) ?_ | refine step_pure rfl (pure_load_agg (i := 5) rfl rfl rfl rfl rfl (by first | decide | exact Nat.le_of_ble_eq_true rfl) rfl) ?_
  refine step_pure rfl (pure_build_struct (pl := [(0, 1), (1, 1), (2, 1), (3, 1), (4, 1)]) rfl zero52 rfl rfl rfl rfl) ?_
  refine step_buildSlice rfl rfl rfl rfl elem52 (by decide) (by decide) fillTwo (fun b72 => ?_)
  refine step_gives rfl fun27 rfl (fun w' hh kp => all_any [pingF, padN 2] [pingF, padF] _ _ w' (hd.mono (Cz.now kp)) (two_mem (sl_built ty52 52 b72 _ 2 rfl) (.head _) hh) (by intro f hf; simp at hf; rcases hf with rfl | rfl <;> exact Nat.zero_le _) (by decide)) ?_
  rw [all_ping]
  refine step_pure rfl (pure_pick_yes rfl rfl) ?_
  refine step_pure rfl (pure_move rfl) ?_
  refine step_pure rfl (pure_move rfl) ?_
  refine step_pure rfl (pure_eql rfl rfl) ?_
  refine step_pure rfl (pure_pick_yes rfl rfl) ?_
  refine step_pure rfl (pure_move rfl) ?_
  refine step_pure rfl (pure_move rfl) ?_
  refine step_pure rfl (pure_eql rfl rfl) ?_
  refine step_pure rfl (pure_pick_yes rfl rfl) ?_
  refine step_pure rfl (pure_move rfl) ?_
  refine step_pure rfl (pure_move rfl) ?_
  refine step_pure rfl (pure_eql rfl rfl) ?_
  refine step_pure rfl (pure_pick_yes rfl rfl) ?_
  refine step_pure rfl (pure_move rfl) ?_
  refine step_pure rfl (pure_move rfl) ?_
  refine step_pure rfl (pure_eql rfl rfl) ?_
  refine step_pure rfl (pure_pick_yes rfl rfl) ?_
  refine step_pure rfl (pure_move rfl) ?_
  refine step_pure rfl (pure_move rfl) ?_
  refine step_pure rfl (pure_eql rfl rfl) ?_
  refine step_pure rfl (pure_pick_yes rfl rfl) ?_
  refine step_pure rfl (pure_move rfl) ?_
  refine step_pure rfl (pure_move rfl) ?_
  refine step_pure rfl (pure_eql rfl rfl) ?_
  refine step_pure rfl (pure_pick_yes rfl rfl) ?_
  refine step_pure rfl (pure_move rfl) ?_
  first | refine step_pure rfl (pure_load_agg (i := 0) rfl rfl rfl rfl rfl (by first | decide | exact Nat.le_of_ble_eq_true rfl) rfl) ?_ | refine step_pure rfl (pure_load_agg (i := 1) rfl rfl rfl rfl rfl (by first | decide | exact Nat.le_of_ble_eq_true rfl) rfl) ?_ | refine step_pure rfl (pure_load_agg (i := 2) rfl rfl rfl rfl rfl (by first | decide | exact Nat.le_of_ble_eq_true rfl) rfl) ?_ | refine step_pure rfl (pure_load_agg (i := 3) rfl rfl rfl rfl rfl (by first | decide | exact Nat.le_of_ble_eq_true rfl) rfl) ?_ | refine step_pure rfl (pure_load_agg (i := 4) rfl rfl rfl rfl rfl (by first | decide | exact Nat.le_of_ble_eq_true rfl) rfl) ?_ | refine step_pure rfl (pure_load_agg (i := 5) rfl rfl rfl rfl rfl (by first | decide | exact Nat.le_of_ble_eq_true rfl) rfl) ?_
  refine step_gives rfl fun18 rfl (fun w' hh kp => peliciting_any pingP _ w' ⟨_, rfl, hp.mono (Cz.now kp)⟩ ping_big (by decide)) ?_
  rw [pa_ping]
  refine step_pure rfl (pure_pick_yes rfl rfl) ?_
  refine step_pure rfl (pure_move rfl) ?_
  refine step_pure rfl (pure_build_struct (pl := [(0, 1), (1, 1), (2, 1)]) rfl zero24 rfl rfl rfl rfl) ?_
  refine step_gives rfl fun16 rfl (fun w' hh kp => pcheck_any ⟨0, 0, []⟩ _ w' ⟨_, rfl, frs_nil⟩ (by intro f hf; cases hf)) ?_
  rw [pE_zero]
  refine step_pure rfl (pure_eql rfl rfl) ?_
  refine step_pure rfl (pure_pick_yes rfl rfl) ?_
  refine step_pure rfl (pure_move rfl) ?_
  refine step_pure rfl (pure_pick_yes rfl rfl) ?_
  refine step_pure rfl (pure_move rfl) ?_
  refine step_pure rfl (pure_pick_yes rfl rfl) ?_
  refine step_pure rfl (pure_move rfl) ?_
  refine step_pure rfl (pure_pick_yes rfl rfl) ?_
  refine step_pure rfl (pure_assign rfl) ?_
  refine Vc.step_end (fun a w ok => ?_)
  first | (refine WPs.run ?_ a w ok; clear ok w a) | skip
  exact s_ret fun a w ok => ends_k on (.inr rfl) ok (res_tmp Try.results10 rfl)
end Go.Proofs.Ytajcfafamdacdaa
