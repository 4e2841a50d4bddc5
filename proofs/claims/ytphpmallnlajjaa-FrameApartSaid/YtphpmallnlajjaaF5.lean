/- Whether a frame may be: walked. -/
import Derived.Test.YtphpmallnlajjaaF4
namespace Go.Proofs.Ytphpmallnlajjaa
open Go.RowKit Go.Vc
set_option linter.unusedVariables false

def inB (n lo hi : Int) : Bool := decide (lo ≤ n) && decide (n ≤ hi)
theorem within_any (n lo hi : Int) (w : World) : Gives tb 27 [.int .i64 n, .int .i64 lo, .int .i64 hi] w (.bool (inB n lo hi)) := by
  refine gives_of (fn := Try.f27) Try.func27 rfl Try.ntmps27 rfl ?_
  repeat refine c_seq ?_
  refine c_region ?_
  refine step_pure rfl (pure_assign rfl) ?_
  refine step_nil ?_
  repeat refine c_seq ?_
  refine c_region ?_
  refine step_pure rfl (pure_move rfl) ?_
  refine step_pure rfl (pure_move rfl) ?_
  refine step_pure rfl (pure_geq rfl rfl) ?_
  refine step_pure rfl (pure_move rfl) ?_
  refine step_split (t := 10) rfl (fun h10 => ?_) (fun h10 => ?_)
  · refine step_pure rfl (pure_move rfl) ?_
    refine step_pure rfl (pure_move rfl) ?_
    refine step_pure rfl (pure_leq rfl rfl) ?_
    refine step_pure rfl (pure_pick_yes rfl rfl) ?_
    refine step_pure rfl (pure_assign rfl) ?_
    refine step_nil ?_
    exact c_ret ⟨_, res_tmp Try.results27 rfl, by unfold inB; simp_all <;> omega⟩
  · refine step_pass rfl rfl rfl ?_
    refine step_pass rfl rfl rfl ?_
    refine step_pass rfl rfl rfl ?_
    refine step_pure rfl (pure_pick_no rfl rfl) ?_
    refine step_pure rfl (pure_assign rfl) ?_
    refine step_nil ?_
    exact c_ret ⟨_, res_tmp Try.results27 rfl, by unfold inB; simp_all <;> omega⟩

def wantB (k : Int) : Bool := k == 3 || k == 5
def wantR (k : Int) : Bool := k == 2
def wantD (k : Int) : Bool := k == 3 || k == 4
theorem wants_any (k : Int) (w : World) : Gives tb 25 [.int .i64 k] w (.tuple #[.bool (wantB k), .bool (wantR k), .bool (wantD k)]) := by
  have res3 : ∀ {rs : Rs} {m : Mem} {v x y : Value}, Vc.look rs 2 = some v → Vc.look rs 3 = some x → Vc.look rs 4 = some y → ResIs tb Try.f25 rs m (.tuple #[v, x, y]) := by
    intro rs m v x y h1 h2 h3
    refine ⟨fun a w hr hh => ?_⟩
    have g1 := hr _ _ h1
    have g2 := hr _ _ h2
    have g3 := hr _ _ h3
    simp [results, Try.results25, Array.getD_eq_getD_getElem?, g1, g2, g3]
  refine gives_of (fn := Try.f25) Try.func25 rfl Try.ntmps25 rfl ?_
  repeat refine c_seq ?_
  refine c_region ?_
  refine step_pure rfl (pure_assign rfl) ?_
  refine step_pure rfl (pure_assign rfl) ?_
  refine step_pure rfl (pure_assign rfl) ?_
  refine step_nil ?_
  repeat refine c_seq ?_
  refine c_region ?_
  refine step_pure rfl (pure_move rfl) ?_
  refine step_pure rfl (pure_eql rfl rfl) ?_
  refine step_pure rfl (pure_move rfl) ?_
  refine step_split (t := 7) rfl (fun h7 => ?_) (fun h7 => ?_)
  · refine step_pass rfl rfl rfl ?_
    refine step_pass rfl rfl rfl ?_
    refine step_pure rfl (pure_pick_yes rfl rfl) ?_
    refine step_pure rfl (pure_move rfl) ?_
    refine step_pure rfl (pure_eql rfl rfl) ?_
    refine step_pure rfl (pure_move rfl) ?_
    refine step_pure rfl (pure_eql rfl rfl) ?_
    refine step_pure rfl (pure_move rfl) ?_
    refine step_split (t := 15) rfl (fun h15 => ?_) (fun h15 => ?_)
    · refine step_pass rfl rfl rfl ?_
      refine step_pass rfl rfl rfl ?_
      refine step_pure rfl (pure_pick_yes rfl rfl) ?_
      refine step_pure rfl (pure_assign rfl) ?_
      refine step_pure rfl (pure_assign rfl) ?_
      refine step_pure rfl (pure_assign rfl) ?_
      refine step_nil ?_
      exact c_ret ⟨_, res3 rfl rfl rfl, by unfold wantB wantR wantD; simp_all⟩
    · refine step_pure rfl (pure_move rfl) ?_
      refine step_pure rfl (pure_eql rfl rfl) ?_
      refine step_pure rfl (pure_pick_no rfl rfl) ?_
      refine step_pure rfl (pure_assign rfl) ?_
      refine step_pure rfl (pure_assign rfl) ?_
      refine step_pure rfl (pure_assign rfl) ?_
      refine step_nil ?_
      exact c_ret ⟨_, res3 rfl rfl rfl, by unfold wantB wantR wantD; simp_all⟩
  · refine step_pure rfl (pure_move rfl) ?_
    refine step_pure rfl (pure_eql rfl rfl) ?_
    refine step_pure rfl (pure_pick_no rfl rfl) ?_
    refine step_pure rfl (pure_move rfl) ?_
    refine step_pure rfl (pure_eql rfl rfl) ?_
    refine step_pure rfl (pure_move rfl) ?_
    refine step_pure rfl (pure_eql rfl rfl) ?_
    refine step_pure rfl (pure_move rfl) ?_
    refine step_split (t := 15) rfl (fun h15 => ?_) (fun h15 => ?_)
    · refine step_pass rfl rfl rfl ?_
      refine step_pass rfl rfl rfl ?_
      refine step_pure rfl (pure_pick_yes rfl rfl) ?_
      refine step_pure rfl (pure_assign rfl) ?_
      refine step_pure rfl (pure_assign rfl) ?_
      refine step_pure rfl (pure_assign rfl) ?_
      refine step_nil ?_
      exact c_ret ⟨_, res3 rfl rfl rfl, by unfold wantB wantR wantD; simp_all⟩
    · refine step_pure rfl (pure_move rfl) ?_
      refine step_pure rfl (pure_eql rfl rfl) ?_
      refine step_pure rfl (pure_pick_no rfl rfl) ?_
      refine step_pure rfl (pure_assign rfl) ?_
      refine step_pure rfl (pure_assign rfl) ?_
      refine step_pure rfl (pure_assign rfl) ?_
      refine step_nil ?_
      exact c_ret ⟨_, res3 rfl rfl rfl, by unfold wantB wantR wantD; simp_all⟩

/-! ranges -/
def rgCells (rs : List (Int × Int)) : List Value := rs.flatMap fun r => [.int .i64 r.1, .int .i64 r.2]
theorem rgCells_len (rs : List (Int × Int)) : (rgCells rs).length = rs.length * 2 := by
  induction rs with
  | nil => rfl
  | cons r rs ih => simp [rgCells] at ih ⊢; omega
theorem rgCells_at (rs : List (Int × Int)) (i : Nat) (h : i < rs.length) : (rgCells rs)[i * 2 + 0]? = some (.int .i64 (rs.getD i (0, 0)).1) ∧ (rgCells rs)[i * 2 + 1]? = some (.int .i64 (rs.getD i (0, 0)).2) := by
  induction rs generalizing i with
  | nil => simp at h
  | cons r rs ih =>
    cases i with
    | zero => exact ⟨rfl, rfl⟩
    | succ i =>
      have := ih i (by simpa using h)
      rw [show (i + 1) * 2 + 0 = (i * 2 + 0) + 2 by omega, show (i + 1) * 2 + 1 = (i * 2 + 1) + 2 by omega]
      exact this
def M62 : Int := 4611686018427387903
def rgAt (rs : List (Int × Int)) (i : Nat) : Bool :=
  decide (0 ≤ (rs.getD i (0, 0)).1) && (inB (rs.getD i (0, 0)).2 (rs.getD i (0, 0)).1 M62 && (decide (i = 0) || decide ((rs.getD i (0, 0)).2 < (rs.getD (i - 1) (0, 0)).1 - 1)))
def rgOk (rs : List (Int × Int)) : Bool := inB rs.length 1 16 && (List.range rs.length).all (rgAt rs)
theorem rgOk_not {rs : List (Int × Int)} {i : Nat} (h : i < rs.length) (hz : rgAt rs i = false) : rgOk rs = false := by
  have : (List.range rs.length).all (rgAt rs) = false := by
    rw [← Bool.not_eq_true, List.all_eq_true]
    intro h1
    have := h1 i (List.mem_range.2 h)
    rw [hz] at this
    cases this
  unfold rgOk
  rw [this, Bool.and_false]
theorem rgOk_yes {rs : List (Int × Int)} (h0 : inB rs.length 1 16 = true) (h : ∀ j, j < rs.length → rgAt rs j = true) : rgOk rs = true := by
  unfold rgOk
  rw [h0, Bool.true_and, List.all_eq_true]
  exact fun j hj => h j (List.mem_range.1 hj)

set_option maxHeartbeats 1000000 in
theorem ranges_any (l : List (Int × Int)) (v : Value) (w : World) (hv : SlC (fun p x => w.cell? p = some x) 2 v l.length (rgCells l)) : Gives tb 26 [v] w (.bool (rgOk l)) := by
  have hv0 := hv
  obtain ⟨base0, cap0, rfl, hcap, hlen, hc⟩ := hv
  refine gives_of (fn := Try.f26) Try.func26 rfl Try.ntmps26 rfl ?_
  repeat refine c_seq ?_
  refine c_region ?_
  refine step_pure rfl (pure_assign rfl) ?_
  refine step_nil ?_
  repeat refine c_seq ?_
  refine c_region ?_
  refine step_pure rfl (pure_move rfl) ?_
  refine step_pure rfl (pure_len_slice rfl rfl rfl) ?_
  refine step_gives rfl fun27 rfl (fun w _ _ => within_any _ _ _ w) ?_
  refine step_pure rfl (pure_not rfl) ?_
  refine step_nil ?_
  repeat refine c_seq ?_
  refine c_cond rfl (fun h => ?_) (fun h => ?_)
  · have h0 : inB l.length 1 16 = false := by simpa using h
    have hno : rgOk l = false := by unfold rgOk; rw [h0, Bool.false_and]
    rw [hno]
    repeat refine c_seq ?_
    refine c_region ?_
    refine step_pure rfl (pure_assign rfl) ?_
    refine step_nil ?_
    exact c_ret ⟨_, res_tmp Try.results26 rfl, rfl⟩
  · have h0 : inB l.length 1 16 = true := by simpa using h
    clear h
    have hl16 : l.length ≤ 16 := by unfold inB at h0; simp at h0; omega
    refine c_skip ?_
    repeat refine c_seq ?_
    refine c_region ?_
    refine step_pure rfl (pure_move rfl) ?_
    refine step_pure rfl (pure_len_slice rfl rfl rfl) ?_
    refine step_pure rfl (pure_move rfl) ?_
    refine step_nil ?_
    repeat refine c_seq ?_
    refine c_block ?_
    repeat refine c_seq ?_
    refine c_loop (α := Nat) (fun i => [(0, .slice base0 l.length cap0), (9, .slice base0 l.length cap0), (10, .int .i64 l.length), (11, .int .i64 i)]) (fun _ => []) (fun i => i ≤ l.length ∧ ∀ j, j < i → rgAt l j = true) (fun i => l.length - i) 0
      ⟨Nat.zero_le _, fun j h => absurd h (Nat.not_lt_zero j)⟩ (less_of ⟨rfl, rfl, rfl, rfl, trivial⟩ rfl) ?_
    rintro i ⟨hi, hall⟩
    repeat refine c_seq ?_
    refine c_region ?_
    refine step_pure rfl (pure_lss rfl rfl) ?_
    refine step_nil ?_
    repeat refine c_seq ?_
    refine c_cond rfl (fun h => ?_) (fun h => ?_)
    · have hlt : i < l.length := by have := of_decide_eq_true h; omega
      clear h
      obtain ⟨p, cap', hq, hp⟩ := hv0.at (i := i) (by decide) hlt
      cases hq
      obtain ⟨hlo, hhi⟩ := rgCells_at l i hlt
      have clo := hp 0 _ hlo
      have chi := hp 1 _ hhi
      have cpr : 0 < i → w.cell? ((p.add ((i - 1) * 2)).add 0) = some (.int .i64 (l.getD (i - 1) (0, 0)).1) := fun hpos => by
        obtain ⟨p', cap'', hq', hp'⟩ := hv0.at (i := i - 1) (by decide) (by omega)
        cases hq'
        exact hp' 0 _ (rgCells_at l (i - 1) (by omega)).1
      have hno := fun hz => rgOk_not hlt hz
      have hrg : rgAt l i = (decide (0 ≤ (l.getD i (0, 0)).1) && (inB (l.getD i (0, 0)).2 (l.getD i (0, 0)).1 M62 && (decide (i = 0) || decide ((l.getD i (0, 0)).2 < (l.getD (i - 1) (0, 0)).1 - 1)))) := rfl
      have hpr : 0 < i → 0 ≤ (l.getD (i - 1) (0, 0)).1 ∧ (l.getD (i - 1) (0, 0)).1 ≤ 4611686018427387903 := fun hpos => by
        have := hall (i - 1) (by omega)
        unfold rgAt inB M62 at this
        simp at this
        simp
        omega
      have hcells : ∀ j x, [Value.int .i64 (l.getD i (0, 0)).1, .int .i64 (l.getD i (0, 0)).2][j]? = some x → Cel ⟨w, [], []⟩ ((p.add (i * 2)).add j) x := by
        intro j x hx
        refine ⟨?_, List.not_mem_nil⟩
        obtain _ | _ | j := j
        · cases hx; exact clo
        · cases hx; exact chi
        · cases hx
      generalize (l.getD i (0, 0)).1 = lo at *
      generalize (l.getD i (0, 0)).2 = hi' at *
      generalize (l.getD (i - 1) (0, 0)).1 = pr at *
      refine c_skip ?_
      repeat refine c_seq ?_
      refine c_block ?_
      repeat refine c_seq ?_
      refine c_region ?_
      refine step_pure rfl (pure_move rfl) ?_
      refine step_as rfl (pure_indexAddr_at rfl rfl rfl rfl rfl (by omega) (by omega)) (show _ = Value.pointer (some (p.add (i * 2))) from by show Value.pointer (some (p.add ((i : Int).toNat * 2))) = _; rw [Int.toNat_natCast]) ?_
      refine step_pure rfl (pure_cel_agg rfl rfl rfl rfl hcells) ?_
      refine step_alloc rfl zero45 (fun b4 => ?_)
      refine step_pure rfl (pure_assign rfl) ?_
      refine step_store_agg 0 rfl rfl rfl (by intro v hv; simp at hv; rcases hv with rfl | rfl <;> rfl) rfl rfl rfl rfl (by show 2 ≤ 2; decide) (splice_all rfl) ?_
      refine step_nil ?_
      repeat refine c_seq ?_
      repeat refine c_seq ?_
      refine c_meet [(0, .slice (some p) l.length cap0), (9, .slice (some p) l.length cap0), (10, .int .i64 l.length), (11, .int .i64 i), (42, .bool (!rgAt l i))] [] ?_ ?_
      · repeat refine c_seq ?_
        refine d_region [1, 11, 17, 25, 33, 43, 49, 59, 67, 73, 81, 89, 97, 105, 113, 121, 131, 137, 145, 153, 161, 169, 179, 185, 193, 201, 209] follows (by kernel_rfl) ?_
        refine d_pure0 rfl rfl rfl (pure_fieldAddr rfl rfl rfl rfl rfl (by decide)) ?_
        first | refine d_pure1 rfl rfl rfl (pure_load (i := 0) rfl rfl rfl rfl rfl rfl) (by first | exact SubMem.refl _ | exact (SubMem.refl _).cons | exact (SubMem.refl _).cons.cons | exact (SubMem.refl _).cons.cons.cons | exact (SubMem.refl _).cons.cons.cons.cons | exact (fun w hh => Has.sublist (by repeat (first | exact List.Sublist.refl _ | exact List.nil_sublist _ | apply List.Sublist.cons_cons | apply List.Sublist.cons)) hh)) ?_ | refine d_pure1 rfl rfl rfl (pure_load (i := 1) rfl rfl rfl rfl rfl rfl) (by first | exact SubMem.refl _ | exact (SubMem.refl _).cons | exact (SubMem.refl _).cons.cons | exact (SubMem.refl _).cons.cons.cons | exact (SubMem.refl _).cons.cons.cons.cons | exact (fun w hh => Has.sublist (by repeat (first | exact List.Sublist.refl _ | exact List.nil_sublist _ | apply List.Sublist.cons_cons | apply List.Sublist.cons)) hh)) ?_ | refine d_pure1 rfl rfl rfl (pure_load (i := 2) rfl rfl rfl rfl rfl rfl) (by first | exact SubMem.refl _ | exact (SubMem.refl _).cons | exact (SubMem.refl _).cons.cons | exact (SubMem.refl _).cons.cons.cons | exact (SubMem.refl _).cons.cons.cons.cons | exact (fun w hh => Has.sublist (by repeat (first | exact List.Sublist.refl _ | exact List.nil_sublist _ | apply List.Sublist.cons_cons | apply List.Sublist.cons)) hh)) ?_ | refine d_pure1 rfl rfl rfl (pure_load (i := 3) rfl rfl rfl rfl rfl rfl) (by first | exact SubMem.refl _ | exact (SubMem.refl _).cons | exact (SubMem.refl _).cons.cons | exact (SubMem.refl _).cons.cons.cons | exact (SubMem.refl _).cons.cons.cons.cons | exact (fun w hh => Has.sublist (by repeat (first | exact List.Sublist.refl _ | exact List.nil_sublist _ | apply List.Sublist.cons_cons | apply List.Sublist.cons)) hh)) ?_ | refine d_pure1 rfl rfl rfl (pure_load (i := 4) rfl rfl rfl rfl rfl rfl) (by first | exact SubMem.refl _ | exact (SubMem.refl _).cons | exact (SubMem.refl _).cons.cons | exact (SubMem.refl _).cons.cons.cons | exact (SubMem.refl _).cons.cons.cons.cons | exact (fun w hh => Has.sublist (by repeat (first | exact List.Sublist.refl _ | exact List.nil_sublist _ | apply List.Sublist.cons_cons | apply List.Sublist.cons)) hh)) ?_ | refine d_pure1 rfl rfl rfl (pure_load (i := 5) rfl rfl rfl rfl rfl rfl) (by first | exact SubMem.refl _ | exact (SubMem.refl _).cons | exact (SubMem.refl _).cons.cons | exact (SubMem.refl _).cons.cons.cons | exact (SubMem.refl _).cons.cons.cons.cons | exact (fun w hh => Has.sublist (by repeat (first | exact List.Sublist.refl _ | exact List.nil_sublist _ | apply List.Sublist.cons_cons | apply List.Sublist.cons)) hh)) ?_
        refine d_pure0 rfl rfl rfl (pure_lss rfl rfl) ?_
        refine d_pure0 rfl rfl rfl (pure_move rfl) ?_
        refine d_split (t := 19) rfl (fun h19 => ?_) (fun h19 => ?_)
        · refine d_pass rfl rfl rfl (fun h => by cases h) rfl rfl rfl ?_
          refine d_pass rfl rfl rfl (fun _ => (by first | exact SubMem.refl _ | exact (SubMem.refl _).cons | exact (SubMem.refl _).cons.cons | exact (SubMem.refl _).cons.cons.cons | exact (SubMem.refl _).cons.cons.cons.cons | exact (fun w hh => Has.sublist (by repeat (first | exact List.Sublist.refl _ | exact List.nil_sublist _ | apply List.Sublist.cons_cons | apply List.Sublist.cons)) hh))) rfl rfl rfl ?_
          refine d_pass rfl rfl rfl (fun h => by cases h) rfl rfl rfl ?_
          refine d_pass rfl rfl rfl (fun _ => (by first | exact SubMem.refl _ | exact (SubMem.refl _).cons | exact (SubMem.refl _).cons.cons | exact (SubMem.refl _).cons.cons.cons | exact (SubMem.refl _).cons.cons.cons.cons | exact (fun w hh => Has.sublist (by repeat (first | exact List.Sublist.refl _ | exact List.nil_sublist _ | apply List.Sublist.cons_cons | apply List.Sublist.cons)) hh))) rfl rfl rfl ?_
          refine d_pass rfl rfl rfl (fun _ => (by first | exact SubMem.refl _ | exact (SubMem.refl _).cons | exact (SubMem.refl _).cons.cons | exact (SubMem.refl _).cons.cons.cons | exact (SubMem.refl _).cons.cons.cons.cons | exact (fun w hh => Has.sublist (by repeat (first | exact List.Sublist.refl _ | exact List.nil_sublist _ | apply List.Sublist.cons_cons | apply List.Sublist.cons)) hh))) rfl rfl rfl ?_
          refine d_pass rfl rfl rfl (fun h => by cases h) rfl rfl rfl ?_
          refine d_pure0 rfl rfl rfl (pure_pick_yes rfl rfl) ?_
          refine d_pure0 rfl rfl rfl (pure_move rfl) ?_
          refine d_pass rfl rfl rfl (fun h => by cases h) rfl rfl rfl ?_
          refine d_pass rfl rfl rfl (fun h => by cases h) rfl rfl rfl ?_
          refine d_pass rfl rfl rfl (fun h => by cases h) rfl rfl rfl ?_
          refine d_pass rfl rfl rfl (fun h => by cases h) rfl rfl rfl ?_
          refine d_pass rfl rfl rfl (fun _ => (by first | exact SubMem.refl _ | exact (SubMem.refl _).cons | exact (SubMem.refl _).cons.cons | exact (SubMem.refl _).cons.cons.cons | exact (SubMem.refl _).cons.cons.cons.cons | exact (fun w hh => Has.sublist (by repeat (first | exact List.Sublist.refl _ | exact List.nil_sublist _ | apply List.Sublist.cons_cons | apply List.Sublist.cons)) hh))) rfl rfl rfl ?_
          refine d_pass rfl rfl rfl (fun h => by cases h) rfl rfl rfl ?_
          refine d_pass rfl rfl rfl (fun h => by cases h) rfl rfl rfl ?_
          refine d_pass rfl rfl rfl (fun h => by cases h) rfl rfl rfl ?_
          refine d_pass rfl rfl rfl (fun h => by cases h) rfl rfl rfl ?_
          refine d_pass rfl rfl rfl (fun h => by cases h) rfl rfl rfl ?_
          refine d_pass rfl rfl rfl (fun _ => (by first | exact SubMem.refl _ | exact (SubMem.refl _).cons | exact (SubMem.refl _).cons.cons | exact (SubMem.refl _).cons.cons.cons | exact (SubMem.refl _).cons.cons.cons.cons | exact (fun w hh => Has.sublist (by repeat (first | exact List.Sublist.refl _ | exact List.nil_sublist _ | apply List.Sublist.cons_cons | apply List.Sublist.cons)) hh))) rfl rfl rfl ?_
          refine d_pass rfl rfl rfl (fun h => by cases h) rfl rfl rfl ?_
          refine d_pass rfl rfl rfl (fun h => by cases h) rfl rfl rfl ?_
          refine d_pass rfl rfl rfl (fun h => by cases h) rfl rfl rfl ?_
          refine d_pure0 rfl rfl rfl (pure_pick_yes rfl rfl) ?_
          refine d_nil ?_
          refine less_sub ⟨rfl, rfl, rfl, rfl, ?_, trivial⟩ (List.nil_sublist _)
          refine congrArg some (congrArg Value.bool ?_)
          rw [hrg, Bool.eq_iff_iff]
          unfold M62
          simp_all <;> omega
        · refine d_pure0 rfl rfl rfl (pure_fieldAddr rfl rfl rfl rfl rfl (by decide)) ?_
          first | refine d_pure1 rfl rfl rfl (pure_load (i := 0) rfl rfl rfl rfl rfl rfl) (by first | exact SubMem.refl _ | exact (SubMem.refl _).cons | exact (SubMem.refl _).cons.cons | exact (SubMem.refl _).cons.cons.cons | exact (SubMem.refl _).cons.cons.cons.cons | exact (fun w hh => Has.sublist (by repeat (first | exact List.Sublist.refl _ | exact List.nil_sublist _ | apply List.Sublist.cons_cons | apply List.Sublist.cons)) hh)) ?_ | refine d_pure1 rfl rfl rfl (pure_load (i := 1) rfl rfl rfl rfl rfl rfl) (by first | exact SubMem.refl _ | exact (SubMem.refl _).cons | exact (SubMem.refl _).cons.cons | exact (SubMem.refl _).cons.cons.cons | exact (SubMem.refl _).cons.cons.cons.cons | exact (fun w hh => Has.sublist (by repeat (first | exact List.Sublist.refl _ | exact List.nil_sublist _ | apply List.Sublist.cons_cons | apply List.Sublist.cons)) hh)) ?_ | refine d_pure1 rfl rfl rfl (pure_load (i := 2) rfl rfl rfl rfl rfl rfl) (by first | exact SubMem.refl _ | exact (SubMem.refl _).cons | exact (SubMem.refl _).cons.cons | exact (SubMem.refl _).cons.cons.cons | exact (SubMem.refl _).cons.cons.cons.cons | exact (fun w hh => Has.sublist (by repeat (first | exact List.Sublist.refl _ | exact List.nil_sublist _ | apply List.Sublist.cons_cons | apply List.Sublist.cons)) hh)) ?_ | refine d_pure1 rfl rfl rfl (pure_load (i := 3) rfl rfl rfl rfl rfl rfl) (by first | exact SubMem.refl _ | exact (SubMem.refl _).cons | exact (SubMem.refl _).cons.cons | exact (SubMem.refl _).cons.cons.cons | exact (SubMem.refl _).cons.cons.cons.cons | exact (fun w hh => Has.sublist (by repeat (first | exact List.Sublist.refl _ | exact List.nil_sublist _ | apply List.Sublist.cons_cons | apply List.Sublist.cons)) hh)) ?_ | refine d_pure1 rfl rfl rfl (pure_load (i := 4) rfl rfl rfl rfl rfl rfl) (by first | exact SubMem.refl _ | exact (SubMem.refl _).cons | exact (SubMem.refl _).cons.cons | exact (SubMem.refl _).cons.cons.cons | exact (SubMem.refl _).cons.cons.cons.cons | exact (fun w hh => Has.sublist (by repeat (first | exact List.Sublist.refl _ | exact List.nil_sublist _ | apply List.Sublist.cons_cons | apply List.Sublist.cons)) hh)) ?_ | refine d_pure1 rfl rfl rfl (pure_load (i := 5) rfl rfl rfl rfl rfl rfl) (by first | exact SubMem.refl _ | exact (SubMem.refl _).cons | exact (SubMem.refl _).cons.cons | exact (SubMem.refl _).cons.cons.cons | exact (SubMem.refl _).cons.cons.cons.cons | exact (fun w hh => Has.sublist (by repeat (first | exact List.Sublist.refl _ | exact List.nil_sublist _ | apply List.Sublist.cons_cons | apply List.Sublist.cons)) hh)) ?_
          refine d_pure0 rfl rfl rfl (pure_fieldAddr rfl rfl rfl rfl rfl (by decide)) ?_
          first | refine d_pure1 rfl rfl rfl (pure_load (i := 0) rfl rfl rfl rfl rfl rfl) (by first | exact SubMem.refl _ | exact (SubMem.refl _).cons | exact (SubMem.refl _).cons.cons | exact (SubMem.refl _).cons.cons.cons | exact (SubMem.refl _).cons.cons.cons.cons | exact (fun w hh => Has.sublist (by repeat (first | exact List.Sublist.refl _ | exact List.nil_sublist _ | apply List.Sublist.cons_cons | apply List.Sublist.cons)) hh)) ?_ | refine d_pure1 rfl rfl rfl (pure_load (i := 1) rfl rfl rfl rfl rfl rfl) (by first | exact SubMem.refl _ | exact (SubMem.refl _).cons | exact (SubMem.refl _).cons.cons | exact (SubMem.refl _).cons.cons.cons | exact (SubMem.refl _).cons.cons.cons.cons | exact (fun w hh => Has.sublist (by repeat (first | exact List.Sublist.refl _ | exact List.nil_sublist _ | apply List.Sublist.cons_cons | apply List.Sublist.cons)) hh)) ?_ | refine d_pure1 rfl rfl rfl (pure_load (i := 2) rfl rfl rfl rfl rfl rfl) (by first | exact SubMem.refl _ | exact (SubMem.refl _).cons | exact (SubMem.refl _).cons.cons | exact (SubMem.refl _).cons.cons.cons | exact (SubMem.refl _).cons.cons.cons.cons | exact (fun w hh => Has.sublist (by repeat (first | exact List.Sublist.refl _ | exact List.nil_sublist _ | apply List.Sublist.cons_cons | apply List.Sublist.cons)) hh)) ?_ | refine d_pure1 rfl rfl rfl (pure_load (i := 3) rfl rfl rfl rfl rfl rfl) (by first | exact SubMem.refl _ | exact (SubMem.refl _).cons | exact (SubMem.refl _).cons.cons | exact (SubMem.refl _).cons.cons.cons | exact (SubMem.refl _).cons.cons.cons.cons | exact (fun w hh => Has.sublist (by repeat (first | exact List.Sublist.refl _ | exact List.nil_sublist _ | apply List.Sublist.cons_cons | apply List.Sublist.cons)) hh)) ?_ | refine d_pure1 rfl rfl rfl (pure_load (i := 4) rfl rfl rfl rfl rfl rfl) (by first | exact SubMem.refl _ | exact (SubMem.refl _).cons | exact (SubMem.refl _).cons.cons | exact (SubMem.refl _).cons.cons.cons | exact (SubMem.refl _).cons.cons.cons.cons | exact (fun w hh => Has.sublist (by repeat (first | exact List.Sublist.refl _ | exact List.nil_sublist _ | apply List.Sublist.cons_cons | apply List.Sublist.cons)) hh)) ?_ | refine d_pure1 rfl rfl rfl (pure_load (i := 5) rfl rfl rfl rfl rfl rfl) (by first | exact SubMem.refl _ | exact (SubMem.refl _).cons | exact (SubMem.refl _).cons.cons | exact (SubMem.refl _).cons.cons.cons | exact (SubMem.refl _).cons.cons.cons.cons | exact (fun w hh => Has.sublist (by repeat (first | exact List.Sublist.refl _ | exact List.nil_sublist _ | apply List.Sublist.cons_cons | apply List.Sublist.cons)) hh)) ?_
          refine d_gives rfl rfl rfl fun27 rfl (fun w _ _ => within_any _ _ _ w) (by first | exact SubMem.refl _ | exact (SubMem.refl _).cons | exact (SubMem.refl _).cons.cons | exact (SubMem.refl _).cons.cons.cons | exact (SubMem.refl _).cons.cons.cons.cons | exact (fun w hh => Has.sublist (by repeat (first | exact List.Sublist.refl _ | exact List.nil_sublist _ | apply List.Sublist.cons_cons | apply List.Sublist.cons)) hh)) ?_
          refine d_pure0 rfl rfl rfl (pure_not rfl) ?_
          refine d_pure0 rfl rfl rfl (pure_pick_no rfl rfl) ?_
          refine d_pure0 rfl rfl rfl (pure_move rfl) ?_
          refine d_split (t := 27) rfl (fun h27 => ?_) (fun h27 => ?_)
          · refine d_pass rfl rfl rfl (fun h => by cases h) rfl rfl rfl ?_
            refine d_pass rfl rfl rfl (fun h => by cases h) rfl rfl rfl ?_
            refine d_pass rfl rfl rfl (fun h => by cases h) rfl rfl rfl ?_
            refine d_pass rfl rfl rfl (fun h => by cases h) rfl rfl rfl ?_
            refine d_pass rfl rfl rfl (fun _ => (by first | exact SubMem.refl _ | exact (SubMem.refl _).cons | exact (SubMem.refl _).cons.cons | exact (SubMem.refl _).cons.cons.cons | exact (SubMem.refl _).cons.cons.cons.cons | exact (fun w hh => Has.sublist (by repeat (first | exact List.Sublist.refl _ | exact List.nil_sublist _ | apply List.Sublist.cons_cons | apply List.Sublist.cons)) hh))) rfl rfl rfl ?_
            refine d_pass rfl rfl rfl (fun h => by cases h) rfl rfl rfl ?_
            refine d_pass rfl rfl rfl (fun h => by cases h) rfl rfl rfl ?_
            refine d_pass rfl rfl rfl (fun h => by cases h) rfl rfl rfl ?_
            refine d_pass rfl rfl rfl (fun h => by cases h) rfl rfl rfl ?_
            refine d_pass rfl rfl rfl (fun h => by cases h) rfl rfl rfl ?_
            refine d_pass rfl rfl rfl (fun _ => (by first | exact SubMem.refl _ | exact (SubMem.refl _).cons | exact (SubMem.refl _).cons.cons | exact (SubMem.refl _).cons.cons.cons | exact (SubMem.refl _).cons.cons.cons.cons | exact (fun w hh => Has.sublist (by repeat (first | exact List.Sublist.refl _ | exact List.nil_sublist _ | apply List.Sublist.cons_cons | apply List.Sublist.cons)) hh))) rfl rfl rfl ?_
            refine d_pass rfl rfl rfl (fun h => by cases h) rfl rfl rfl ?_
            refine d_pass rfl rfl rfl (fun h => by cases h) rfl rfl rfl ?_
            refine d_pass rfl rfl rfl (fun h => by cases h) rfl rfl rfl ?_
            refine d_pure0 rfl rfl rfl (pure_pick_yes rfl rfl) ?_
            refine d_nil ?_
            refine less_sub ⟨rfl, rfl, rfl, rfl, ?_, trivial⟩ (List.nil_sublist _)
            refine congrArg some (congrArg Value.bool ?_)
            rw [hrg, Bool.eq_iff_iff]
            unfold M62
            simp_all <;> omega
          · refine d_pure0 rfl rfl rfl (pure_move rfl) ?_
            refine d_as0 rfl rfl rfl (pure_gtr rfl rfl) (show _ = Value.bool (decide (0 < i)) from by congr 1; simp) ?_
            refine d_pure0 rfl rfl rfl (pure_move rfl) ?_
            refine d_split (t := 30) rfl (fun h30 => ?_) (fun h30 => ?_)
            · refine d_pure0 rfl rfl rfl (pure_fieldAddr rfl rfl rfl rfl rfl (by decide)) ?_
              first | refine d_pure1 rfl rfl rfl (pure_load (i := 0) rfl rfl rfl rfl rfl rfl) (by first | exact SubMem.refl _ | exact (SubMem.refl _).cons | exact (SubMem.refl _).cons.cons | exact (SubMem.refl _).cons.cons.cons | exact (SubMem.refl _).cons.cons.cons.cons | exact (fun w hh => Has.sublist (by repeat (first | exact List.Sublist.refl _ | exact List.nil_sublist _ | apply List.Sublist.cons_cons | apply List.Sublist.cons)) hh)) ?_ | refine d_pure1 rfl rfl rfl (pure_load (i := 1) rfl rfl rfl rfl rfl rfl) (by first | exact SubMem.refl _ | exact (SubMem.refl _).cons | exact (SubMem.refl _).cons.cons | exact (SubMem.refl _).cons.cons.cons | exact (SubMem.refl _).cons.cons.cons.cons | exact (fun w hh => Has.sublist (by repeat (first | exact List.Sublist.refl _ | exact List.nil_sublist _ | apply List.Sublist.cons_cons | apply List.Sublist.cons)) hh)) ?_ | refine d_pure1 rfl rfl rfl (pure_load (i := 2) rfl rfl rfl rfl rfl rfl) (by first | exact SubMem.refl _ | exact (SubMem.refl _).cons | exact (SubMem.refl _).cons.cons | exact (SubMem.refl _).cons.cons.cons | exact (SubMem.refl _).cons.cons.cons.cons | exact (fun w hh => Has.sublist (by repeat (first | exact List.Sublist.refl _ | exact List.nil_sublist _ | apply List.Sublist.cons_cons | apply List.Sublist.cons)) hh)) ?_ | refine d_pure1 rfl rfl rfl (pure_load (i := 3) rfl rfl rfl rfl rfl rfl) (by first | exact SubMem.refl _ | exact (SubMem.refl _).cons | exact (SubMem.refl _).cons.cons | exact (SubMem.refl _).cons.cons.cons | exact (SubMem.refl _).cons.cons.cons.cons | exact (fun w hh => Has.sublist (by repeat (first | exact List.Sublist.refl _ | exact List.nil_sublist _ | apply List.Sublist.cons_cons | apply List.Sublist.cons)) hh)) ?_ | refine d_pure1 rfl rfl rfl (pure_load (i := 4) rfl rfl rfl rfl rfl rfl) (by first | exact SubMem.refl _ | exact (SubMem.refl _).cons | exact (SubMem.refl _).cons.cons | exact (SubMem.refl _).cons.cons.cons | exact (SubMem.refl _).cons.cons.cons.cons | exact (fun w hh => Has.sublist (by repeat (first | exact List.Sublist.refl _ | exact List.nil_sublist _ | apply List.Sublist.cons_cons | apply List.Sublist.cons)) hh)) ?_ | refine d_pure1 rfl rfl rfl (pure_load (i := 5) rfl rfl rfl rfl rfl rfl) (by first | exact SubMem.refl _ | exact (SubMem.refl _).cons | exact (SubMem.refl _).cons.cons | exact (SubMem.refl _).cons.cons.cons | exact (SubMem.refl _).cons.cons.cons.cons | exact (fun w hh => Has.sublist (by repeat (first | exact List.Sublist.refl _ | exact List.nil_sublist _ | apply List.Sublist.cons_cons | apply List.Sublist.cons)) hh)) ?_
              refine d_pure0 rfl rfl rfl (pure_move rfl) ?_
              refine d_pure0 rfl rfl rfl (pure_move rfl) ?_
              refine d_pure0 rfl rfl rfl (pure_sub64 rfl rfl (by omega) (by omega)) ?_
              refine d_as0 rfl rfl rfl (pure_indexAddr_at rfl rfl rfl rfl rfl (by have := of_decide_eq_true h30; omega) (by omega)) (show _ = Value.pointer (some (p.add ((i - 1) * 2))) from by have := of_decide_eq_true h30; show Value.pointer (some (p.add (((i : Int) - 1).toNat * 2))) = _; rw [show ((i : Int) - 1).toNat = i - 1 by omega]) ?_
              refine d_pure0 rfl rfl rfl (pure_fieldAddr_at rfl rfl rfl rfl rfl (by decide)) ?_
              refine d_pure1 rfl rfl rfl (pure_view_at rfl rfl rfl (cpr (of_decide_eq_true h30)) List.not_mem_nil) (by first | exact SubMem.refl _ | exact (SubMem.refl _).cons | exact (SubMem.refl _).cons.cons | exact (SubMem.refl _).cons.cons.cons | exact (SubMem.refl _).cons.cons.cons.cons | exact (fun w hh => Has.sublist (by repeat (first | exact List.Sublist.refl _ | exact List.nil_sublist _ | apply List.Sublist.cons_cons | apply List.Sublist.cons)) hh)) ?_
              refine d_pure0 rfl rfl rfl (pure_sub64 rfl rfl (by have := hpr (of_decide_eq_true h30); omega) (by have := hpr (of_decide_eq_true h30); omega)) ?_
              refine d_pure0 rfl rfl rfl (pure_geq rfl rfl) ?_
              refine d_pure0 rfl rfl rfl (pure_pick_yes rfl rfl) ?_
              refine d_pure0 rfl rfl rfl (pure_pick_no rfl rfl) ?_
              refine d_nil ?_
              refine less_sub ⟨rfl, rfl, rfl, rfl, ?_, trivial⟩ (List.nil_sublist _)
              refine congrArg some (congrArg Value.bool ?_)
              rw [hrg, Bool.eq_iff_iff]
              unfold M62
              simp_all <;> omega
            · refine d_pass rfl rfl rfl (fun h => by cases h) rfl rfl rfl ?_
              refine d_pass rfl rfl rfl (fun _ => (by first | exact SubMem.refl _ | exact (SubMem.refl _).cons | exact (SubMem.refl _).cons.cons | exact (SubMem.refl _).cons.cons.cons | exact (SubMem.refl _).cons.cons.cons.cons | exact (fun w hh => Has.sublist (by repeat (first | exact List.Sublist.refl _ | exact List.nil_sublist _ | apply List.Sublist.cons_cons | apply List.Sublist.cons)) hh))) rfl rfl rfl ?_
              refine d_pass rfl rfl rfl (fun h => by cases h) rfl rfl rfl ?_
              refine d_pass rfl rfl rfl (fun h => by cases h) rfl rfl rfl ?_
              refine d_pass rfl rfl rfl (fun h => by cases h) rfl rfl rfl ?_
              refine d_pass rfl rfl rfl (fun h => by cases h) rfl rfl rfl ?_
              refine d_pass rfl rfl rfl (fun h => by cases h) rfl rfl rfl ?_
              refine d_pass rfl rfl rfl (fun _ => (by first | exact SubMem.refl _ | exact (SubMem.refl _).cons | exact (SubMem.refl _).cons.cons | exact (SubMem.refl _).cons.cons.cons | exact (SubMem.refl _).cons.cons.cons.cons | exact (fun w hh => Has.sublist (by repeat (first | exact List.Sublist.refl _ | exact List.nil_sublist _ | apply List.Sublist.cons_cons | apply List.Sublist.cons)) hh))) rfl rfl rfl ?_
              refine d_pass rfl rfl rfl (fun h => by cases h) rfl rfl rfl ?_
              refine d_pass rfl rfl rfl (fun h => by cases h) rfl rfl rfl ?_
              refine d_pure0 rfl rfl rfl (pure_pick_no rfl rfl) ?_
              refine d_pure0 rfl rfl rfl (pure_pick_no rfl rfl) ?_
              refine d_nil ?_
              refine less_sub ⟨rfl, rfl, rfl, rfl, ?_, trivial⟩ (List.nil_sublist _)
              refine congrArg some (congrArg Value.bool ?_)
              rw [hrg, Bool.eq_iff_iff]
              unfold M62
              simp_all <;> omega
      repeat refine c_seq ?_
      refine c_cond rfl (fun h => ?_) (fun h => ?_)
      · have hz : rgAt l i = false := by simpa using h
        rw [hno hz]
        repeat refine c_seq ?_
        refine c_region ?_
        refine step_pure rfl (pure_assign rfl) ?_
        refine step_nil ?_
        exact c_ret ⟨_, res_tmp Try.results26 rfl, rfl⟩
      · have hz : rgAt l i = true := by simpa using h
        refine c_skip ?_
        repeat refine c_seq ?_
        refine c_region ?_
        first | refine step_pure rfl (pure_add64 rfl rfl (by omega) (by omega)) ?_ | refine step_pure rfl (pure_add rfl rfl) ?_
        refine step_pure rfl (pure_move rfl) ?_
        refine step_nil ?_
        refine ⟨i + 1, ⟨hlt, fun j hj => ?_⟩, by omega, less_of ⟨rfl, rfl, rfl, rfl, trivial⟩ rfl⟩
        by_cases hji : j = i
        · rw [hji]; exact hz
        · exact hall j (by omega)
    · have hie : i = l.length := by have := of_decide_eq_false h; omega
      clear h
      subst hie
      rw [rgOk_yes h0 hall]
      refine c_exit ?_
      repeat refine c_seq ?_
      refine c_region ?_
      refine step_pure rfl (pure_assign rfl) ?_
      refine step_nil ?_
      exact c_ret ⟨_, res_tmp Try.results26 rfl, rfl⟩
end Go.Proofs.Ytphpmallnlajjaa
