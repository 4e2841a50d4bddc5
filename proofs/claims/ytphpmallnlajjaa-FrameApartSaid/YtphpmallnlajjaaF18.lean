/- few, walked. -/
import Derived.Test.YtphpmallnlajjaaF17
namespace Go.Proofs.Ytphpmallnlajjaa
open Go.RowKit Go.Vc
set_option linter.unusedVariables false

def smallF (f : Fr) : Bool := !(decide ((f.data.length : Int) > 3000) || decide ((f.rs.length : Int) > 40))
def fewB (fs : List Fr) : Bool := decide (fs.length ≤ 30) && fs.all smallF
theorem few_in {fs : List Fr} (h : fewB fs = true) : fs.length ≤ 30 ∧ ∀ f ∈ fs, f.data.length ≤ 3000 ∧ f.rs.length ≤ 40 := by
  unfold fewB at h
  rw [Bool.and_eq_true, List.all_eq_true] at h
  refine ⟨by simpa using h.1, fun f hf => ?_⟩
  have := h.2 f hf
  unfold smallF at this
  simp at this
  omega
set_option maxHeartbeats 4000000 in
theorem few_any (fs : List Fr) (v : Value) (w : World) (hv : FrsC (fun p x => w.cell? p = some x) v fs) : Gives tb 12 [v] w (.bool (fewB fs)) := by
  obtain ⟨base1, cap1, rfl, hcap1⟩ := hv.slice
  refine gives_of (fn := Try.f12) Try.func12 rfl Try.ntmps12 rfl ?_
  repeat refine c_seq ?_
  refine c_region ?_
  refine step_pure rfl (pure_assign rfl) ?_
  refine step_nil ?_
  repeat refine c_seq ?_
  refine c_region ?_
  refine step_pure rfl (pure_move rfl) ?_
  refine step_pure rfl (pure_len_slice rfl rfl rfl) ?_
  refine step_pure rfl (pure_gtr rfl rfl) ?_
  refine step_nil ?_
  repeat refine c_seq ?_
  refine c_cond rfl (fun h => ?_) (fun h => ?_)
  · have hno : fewB fs = false := by
      have := of_decide_eq_true h
      unfold fewB
      rw [decide_eq_false (by omega), Bool.false_and]
    rw [hno]
    repeat refine c_seq ?_
    refine c_region ?_
    refine step_pure rfl (pure_assign rfl) ?_
    refine step_nil ?_
    exact c_ret ⟨_, res_tmp Try.results12 rfl, rfl⟩
  · have h30 : fs.length ≤ 30 := by have := of_decide_eq_false h; omega
    clear h
    refine c_skip ?_
    repeat refine c_seq ?_
    refine c_region ?_
    refine step_pure rfl (pure_assign rfl) ?_
    refine step_nil ?_
    repeat refine c_seq ?_
    refine c_block ?_
    repeat refine c_seq ?_
    refine c_loop (α := Nat) (fun i => [(0, .slice base1 fs.length cap1), (3, .int .i64 i)]) (fun _ => [])
      (fun i => i ≤ fs.length ∧ ∀ j f, j < i → fs[j]? = some f → smallF f = true) (fun i => fs.length - i) 0 ⟨Nat.zero_le _, by omega⟩ (less_sub ⟨rfl, rfl, trivial⟩ (List.nil_sublist _)) ?_
    rintro i ⟨hi, hall⟩
    repeat refine c_seq ?_
    refine c_region ?_
    refine step_pure rfl (pure_move rfl) ?_
    refine step_pure rfl (pure_move rfl) ?_
    refine step_pure rfl (pure_len_slice rfl rfl rfl) ?_
    refine step_pure rfl (pure_lss rfl rfl) ?_
    refine step_nil ?_
    repeat refine c_seq ?_
    refine c_cond rfl (fun h => ?_) (fun h => ?_)
    · have hlt : i < fs.length := by have := of_decide_eq_true h; omega
      clear h
      refine c_skip ?_
      repeat refine c_seq ?_
      refine c_block ?_
      obtain ⟨p1, cp, cs, hq, hfc, hp⟩ := hv.at hlt
      cases hq
      obtain ⟨rv, dv, rfl, hr, hd⟩ := hfc
      obtain ⟨rb, rc, rfl, -, -, -⟩ := hr
      obtain ⟨db, dc, rfl, -, -, -⟩ := hd
      have hc3 := hp 3 _ rfl
      have hc4 := hp 4 _ rfl
      have hsf : smallF fs[i] = !(decide ((fs[i].data.length : Int) > 3000) || decide ((fs[i].rs.length : Int) > 40)) := rfl
      repeat refine c_seq ?_
      repeat refine c_seq ?_
      refine c_meet [(0, .slice (some p1) fs.length cap1), (3, .int .i64 i), (28, .bool (!smallF fs[i]))] [] ?_ ?_
      · rw [hsf]
        generalize fs[i].data.length = dl at *
        generalize fs[i].rs.length = rl at *
        repeat refine c_seq ?_
        refine c_region ?_
        refine step_pure rfl (pure_move rfl) ?_
        refine step_pure rfl (pure_move rfl) ?_
        refine step_as rfl (pure_indexAddr_at rfl rfl rfl rfl rfl (by omega) (by omega)) (show _ = Value.pointer (some (p1.add (i * 5))) from by show Value.pointer (some (p1.add ((i : Int).toNat * 5))) = _; rw [Int.toNat_natCast]) ?_
        refine step_pure rfl (pure_fieldAddr_at rfl rfl rfl rfl rfl (by decide)) ?_
        refine step_pure rfl (pure_view_at rfl rfl rfl hc4 List.not_mem_nil) ?_
        refine step_pure rfl (pure_len_slice rfl rfl rfl) ?_
        refine step_pure rfl (pure_gtr rfl rfl) ?_
        refine step_pure rfl (pure_move rfl) ?_
        refine step_split (t := 20) rfl (fun h20 => ?_) (fun h20 => ?_)
        · refine step_pass rfl rfl rfl ?_
          refine step_pass rfl rfl rfl ?_
          refine step_pass rfl rfl rfl ?_
          refine step_pass rfl rfl rfl ?_
          refine step_pass rfl rfl rfl ?_
          refine step_pass rfl rfl rfl ?_
          refine step_pass rfl rfl rfl ?_
          refine step_pure rfl (pure_pick_yes rfl rfl) ?_
          refine step_nil ?_
          refine less_sub ⟨rfl, rfl, ?_, trivial⟩ (List.nil_sublist _)
          refine congrArg some (congrArg Value.bool ?_)
          clear hc3 hc4 hp hv
          simp_all <;> omega
        · refine step_pure rfl (pure_move rfl) ?_
          refine step_pure rfl (pure_move rfl) ?_
          refine step_as rfl (pure_indexAddr_at rfl rfl rfl rfl rfl (by omega) (by omega)) (show _ = Value.pointer (some (p1.add (i * 5))) from by show Value.pointer (some (p1.add ((i : Int).toNat * 5))) = _; rw [Int.toNat_natCast]) ?_
          refine step_pure rfl (pure_fieldAddr_at rfl rfl rfl rfl rfl (by decide)) ?_
          refine step_pure rfl (pure_view_at rfl rfl rfl hc3 List.not_mem_nil) ?_
          refine step_pure rfl (pure_len_slice rfl rfl rfl) ?_
          refine step_pure rfl (pure_gtr rfl rfl) ?_
          refine step_pure rfl (pure_pick_no rfl rfl) ?_
          refine step_nil ?_
          refine less_sub ⟨rfl, rfl, ?_, trivial⟩ (List.nil_sublist _)
          refine congrArg some (congrArg Value.bool ?_)
          clear hc3 hc4 hp hv
          simp_all <;> omega
      repeat refine c_seq ?_
      refine c_cond rfl (fun h => ?_) (fun h => ?_)
      · have hz : smallF fs[i] = false := by simpa using h
        rw [show fewB fs = false by
          unfold fewB
          rw [Bool.and_eq_false_iff]
          right
          rw [List.all_eq_false]
          exact ⟨fs[i], List.getElem_mem hlt, by simp [hz]⟩]
        repeat refine c_seq ?_
        refine c_region ?_
        refine step_pure rfl (pure_assign rfl) ?_
        refine step_nil ?_
        exact c_ret ⟨_, res_tmp Try.results12 rfl, rfl⟩
      · have hz : smallF fs[i] = true := by simpa using h
        refine c_skip ?_
        repeat refine c_seq ?_
        refine c_region ?_
        refine step_pure rfl (pure_move rfl) ?_
        first | refine step_pure rfl (pure_add64 rfl rfl (by omega) (by omega)) ?_ | refine step_pure rfl (pure_add rfl rfl) ?_
        refine step_pure rfl (pure_assign rfl) ?_
        refine step_nil ?_
        refine ⟨i + 1, ⟨hlt, fun j f hj hf => ?_⟩, by omega, less_sub ⟨rfl, rfl, trivial⟩ (List.nil_sublist _)⟩
        by_cases hji : j = i
        · subst hji
          rw [List.getElem?_eq_getElem hlt] at hf
          cases hf
          exact hz
        · exact hall j f (by omega) hf
    · have hie : i = fs.length := by have := of_decide_eq_false h; omega
      rw [show fewB fs = true by
        unfold fewB
        rw [Bool.and_eq_true, List.all_eq_true]
        refine ⟨by simpa using h30, fun f hf => ?_⟩
        obtain ⟨j, hj, rfl⟩ := List.mem_iff_getElem.1 hf
        exact hall j _ (by omega) (List.getElem?_eq_getElem hj)]
      refine c_exit ?_
      repeat refine c_seq ?_
      refine c_region ?_
      refine step_pure rfl (pure_assign rfl) ?_
      refine step_nil ?_
      exact c_ret ⟨_, res_tmp Try.results12 rfl, rfl⟩
end Go.Proofs.Ytphpmallnlajjaa
