/- A frame's numbers: walked. -/
import Derived.Test.YtphpmallnlajjaaF9
namespace Go.Proofs.Ytphpmallnlajjaa
open Go.RowKit Go.Vc
set_option linter.unusedVariables false

def nu1 (f : Fr) : List Int := if f.kind = 1 then [f.kind] else [f.kind, f.a]
def nu2 (f : Fr) : List Int := if wantB f.kind = true then nu1 f ++ [f.b] else nu1 f
def nu3 (f : Fr) : List Int := if wantR f.kind = true then nu2 f ++ [(f.rs.length : Int)] else nu2 f
def nuR (rs : List (Int × Int)) : List Int := rs.flatMap fun r => [r.1, r.2]
def nu4 (f : Fr) : List Int := nu3 f ++ nuR f.rs
def fnums (f : Fr) : List Int := if wantD f.kind = true then nu4 f ++ [(f.data.length : Int)] else nu4 f
theorem nuR_len (rs : List (Int × Int)) : (nuR rs).length = 2 * rs.length := by
  induction rs with
  | nil => rfl
  | cons r rs ih => simp [nuR] at ih ⊢; omega
theorem nuR_snoc (rs : List (Int × Int)) (i : Nat) (h : i < rs.length) : nuR (rs.take (i + 1)) = nuR (rs.take i) ++ [(rs.getD i (0, 0)).1, (rs.getD i (0, 0)).2] := by
  unfold nuR
  rw [List.take_succ_eq_append_getElem h, List.flatMap_append]
  simp [List.getD_eq_getElem?_getD, List.getElem?_eq_getElem h]
theorem nu3_len (f : Fr) : (nu3 f).length ≤ 4 := by
  unfold nu3 nu2 nu1
  repeat' split
  all_goals simp
theorem fnums_len (f : Fr) : (fnums f).length ≤ 5 + 2 * f.rs.length := by
  have := nu3_len f
  unfold fnums nu4
  split <;> simp [nuR_len] <;> omega
theorem slis_ints {e : Ent} {base : Option Addr} {len cap : Nat} {l : List Int} (h : SlIs ty3 3 e base len cap (ints .i64 l)) : len = l.length := by
  have := h.len
  rw [ints_len] at this
  have h1 : l.length = len * 1 := this
  omega

set_option maxHeartbeats 4000000 in
theorem numbers_any (f : Fr) (cs : List Value) (w : World) (hf : FrC (fun p x => w.cell? p = some x) f cs) (hrl : f.rs.length ≤ 1000) (hdl : f.data.length ≤ 140737488355328) :
    Makes tb 23 [.agg cs.toArray] w fun u m' => ∃ base cap e, u = .slice base (fnums f).length cap ∧ m' = [e] ∧ SlIs ty3 3 e base (fnums f).length cap (ints .i64 (fnums f)) := by
  obtain ⟨rv, dv, rfl, hr0, hd⟩ := hf
  obtain ⟨rb, rc, rfl, -, -, -⟩ := id hr0
  obtain ⟨db, dc, rfl, -, -, -⟩ := hd
  have d1 : nu1 f = if f.kind = 1 then [f.kind] else [f.kind, f.a] := rfl
  have d2 : nu2 f = if wantB f.kind = true then nu1 f ++ [f.b] else nu1 f := rfl
  have d3 : nu3 f = if wantR f.kind = true then nu2 f ++ [(f.rs.length : Int)] else nu2 f := rfl
  have d4 : nu4 f = nu3 f ++ nuR f.rs := rfl
  have d5 : fnums f = if wantD f.kind = true then nu4 f ++ [(f.data.length : Int)] else nu4 f := rfl
  have l3 := nu3_len f
  have one : ∀ x : Int, ∀ v ∈ [Value.int .i64 x], v.oneCell' = true := by intro x v hv; simp at hv; subst hv; rfl
  refine makes_of (fn := Try.f23) Try.func23 rfl Try.ntmps23 rfl ?_
  repeat refine c_seq ?_
  refine c_region ?_
  refine step_box_agg rfl rfl (fun b1 => ?_)
  refine step_pure rfl (pure_assign rfl) ?_
  refine step_nil ?_
  repeat refine c_seq ?_
  refine c_region ?_
  refine step_pure rfl (pure_fieldAddr rfl rfl rfl rfl rfl (by decide)) ?_
  first | refine step_pure rfl (pure_load (i := 0) rfl rfl rfl rfl rfl rfl) ?_ | refine step_pure rfl (pure_load (i := 1) rfl rfl rfl rfl rfl rfl) ?_ | refine step_pure rfl (pure_load (i := 2) rfl rfl rfl rfl rfl rfl) ?_ | refine step_pure rfl (pure_load (i := 3) rfl rfl rfl rfl rfl rfl) ?_ | refine step_pure rfl (pure_load (i := 4) rfl rfl rfl rfl rfl rfl) ?_ | refine step_pure rfl (pure_load (i := 5) rfl rfl rfl rfl rfl rfl) ?_
  refine step_gives rfl fun25 rfl (fun w _ _ => wants_any _ w) ?_
  refine step_pure rfl (pure_move rfl) ?_
  refine step_pure rfl (pure_extract rfl rfl) ?_
  refine step_pure rfl (pure_extract rfl rfl) ?_
  refine step_pure rfl (pure_extract rfl rfl) ?_
  refine step_pure rfl (pure_assign rfl) ?_
  refine step_pure rfl (pure_assign rfl) ?_
  refine step_pure rfl (pure_assign rfl) ?_
  refine step_nil ?_
  repeat refine c_seq ?_
  refine c_region ?_
  refine step_pure rfl (pure_fieldAddr rfl rfl rfl rfl rfl (by decide)) ?_
  first | refine step_pure rfl (pure_load (i := 0) rfl rfl rfl rfl rfl rfl) ?_ | refine step_pure rfl (pure_load (i := 1) rfl rfl rfl rfl rfl rfl) ?_ | refine step_pure rfl (pure_load (i := 2) rfl rfl rfl rfl rfl rfl) ?_ | refine step_pure rfl (pure_load (i := 3) rfl rfl rfl rfl rfl rfl) ?_ | refine step_pure rfl (pure_load (i := 4) rfl rfl rfl rfl rfl rfl) ?_ | refine step_pure rfl (pure_load (i := 5) rfl rfl rfl rfl rfl rfl) ?_
  refine step_buildSlice rfl rfl rfl rfl elem3 (by decide) (by decide) (fill_one .i64 _ rfl) (fun b18 => ?_)
  refine step_pure rfl (pure_assign rfl) ?_
  refine step_nil ?_
  repeat refine c_seq ?_
  refine c_region ?_
  refine step_pure rfl (pure_fieldAddr rfl rfl rfl rfl rfl (by decide)) ?_
  first | refine step_pure rfl (pure_load (i := 0) rfl rfl rfl rfl rfl rfl) ?_ | refine step_pure rfl (pure_load (i := 1) rfl rfl rfl rfl rfl rfl) ?_ | refine step_pure rfl (pure_load (i := 2) rfl rfl rfl rfl rfl rfl) ?_ | refine step_pure rfl (pure_load (i := 3) rfl rfl rfl rfl rfl rfl) ?_ | refine step_pure rfl (pure_load (i := 4) rfl rfl rfl rfl rfl rfl) ?_ | refine step_pure rfl (pure_load (i := 5) rfl rfl rfl rfl rfl rfl) ?_
  refine step_pure rfl (pure_neq rfl rfl) ?_
  refine step_nil ?_
  generalize wantB f.kind = wb at *
  generalize wantR f.kind = wr at *
  generalize wantD f.kind = wd at *
  repeat refine c_seq ?_
  refine c_meetx (α := SlS) (fun z => [(1, .pointer (some ⟨b1, 0, none⟩)), (3, .bool wb), (4, .bool wr), (5, .bool wd), (6, .slice z.base z.len z.cap)])
    (fun z => [z.e, ⟨b1, [.int .i64 f.kind, .int .i64 f.a, .int .i64 f.b, .slice rb f.rs.length rc, .slice db f.data.length dc], 33⟩])
    (fun z => z.len ≤ 2 ∧ SlIs ty3 3 z.e z.base z.len z.cap (ints .i64 (nu1 f))) ?_ ?_
  · repeat refine c_seq ?_
    refine c_cond rfl (fun h => ?_) (fun h => ?_)
    · have hk : f.kind ≠ 1 := by simpa using h
      rw [d1, if_neg hk]
      repeat refine c_seq ?_
      refine c_region ?_
      refine step_pure rfl (pure_move rfl) ?_
      refine step_pure rfl (pure_fieldAddr rfl rfl rfl rfl rfl (by decide)) ?_
      first | refine step_pure rfl (pure_load (i := 0) rfl rfl rfl rfl rfl rfl) ?_ | refine step_pure rfl (pure_load (i := 1) rfl rfl rfl rfl rfl rfl) ?_ | refine step_pure rfl (pure_load (i := 2) rfl rfl rfl rfl rfl rfl) ?_ | refine step_pure rfl (pure_load (i := 3) rfl rfl rfl rfl rfl rfl) ?_ | refine step_pure rfl (pure_load (i := 4) rfl rfl rfl rfl rfl rfl) ?_ | refine step_pure rfl (pure_load (i := 5) rfl rfl rfl rfl rfl rfl) ?_
      refine step_buildSlice rfl rfl rfl rfl elem3 (by decide) (by decide) (fill_one .i64 _ rfl) (fun b25 => ?_)
      refine step_append 1 rfl rfl (sl_built ty3 3 b18 [.int .i64 f.kind] 1 rfl) rfl rfl rfl rfl rfl elem3 rfl (by decide) rfl rfl rfl (src_own (j := 0) (sl_built ty3 3 b25 [.int .i64 f.a] 1 rfl) rfl) (one _) (by decide) (by decide) (fun base' cap' e' hs' => ?_)
      refine step_pure rfl (pure_assign rfl) ?_
      refine step_nil ?_
      exact ⟨⟨base', 2, cap', e'⟩, ⟨Nat.le_refl _, hs'⟩, less_sub ⟨rfl, rfl, rfl, rfl, rfl, trivial⟩ (List.Sublist.cons _ (List.Sublist.refl _))⟩
    · have hk : f.kind = 1 := by simpa using h
      rw [d1, if_pos hk]
      exact c_skip ⟨⟨some ⟨b18, 0, none⟩, 1, 1, ⟨b18, [.int .i64 f.kind], 3⟩⟩, ⟨(by show 1 ≤ 2; decide), sl_built ty3 3 b18 [.int .i64 f.kind] 1 rfl⟩, less_of ⟨rfl, rfl, rfl, rfl, rfl, trivial⟩ rfl⟩
  rintro ⟨base, len, cap, e⟩ ⟨hlen, hs⟩
  dsimp only at hlen hs ⊢
  repeat refine c_seq ?_
  refine c_region ?_
  refine step_pure rfl (pure_move rfl) ?_
  refine step_nil ?_
  repeat refine c_seq ?_
  refine c_meetx (α := SlS) (fun z => [(1, .pointer (some ⟨b1, 0, none⟩)), (4, .bool wr), (5, .bool wd), (6, .slice z.base z.len z.cap)])
    (fun z => [z.e, ⟨b1, [.int .i64 f.kind, .int .i64 f.a, .int .i64 f.b, .slice rb f.rs.length rc, .slice db f.data.length dc], 33⟩])
    (fun z => z.len ≤ 3 ∧ SlIs ty3 3 z.e z.base z.len z.cap (ints .i64 (nu2 f))) ?_ ?_
  · repeat refine c_seq ?_
    refine c_cond rfl (fun h => ?_) (fun h => ?_)
    · rw [d2, if_pos h]
      repeat refine c_seq ?_
      refine c_region ?_
      refine step_pure rfl (pure_move rfl) ?_
      refine step_pure rfl (pure_fieldAddr rfl rfl rfl rfl rfl (by decide)) ?_
      first | refine step_pure rfl (pure_load (i := 0) rfl rfl rfl rfl rfl rfl) ?_ | refine step_pure rfl (pure_load (i := 1) rfl rfl rfl rfl rfl rfl) ?_ | refine step_pure rfl (pure_load (i := 2) rfl rfl rfl rfl rfl rfl) ?_ | refine step_pure rfl (pure_load (i := 3) rfl rfl rfl rfl rfl rfl) ?_ | refine step_pure rfl (pure_load (i := 4) rfl rfl rfl rfl rfl rfl) ?_ | refine step_pure rfl (pure_load (i := 5) rfl rfl rfl rfl rfl rfl) ?_
      refine step_buildSlice rfl rfl rfl rfl elem3 (by decide) (by decide) (fill_one .i64 _ rfl) (fun b31 => ?_)
      refine step_append 1 rfl rfl hs rfl rfl rfl rfl rfl elem3 rfl (by decide) rfl rfl rfl (src_own (j := 0) (sl_built ty3 3 b31 [.int .i64 f.b] 1 rfl) rfl) (one _) (by omega) (by omega) (fun base' cap' e' hs' => ?_)
      refine step_pure rfl (pure_assign rfl) ?_
      refine step_nil ?_
      exact ⟨⟨base', len + 1, cap', e'⟩, ⟨by dsimp only; omega, by rw [← ints_app]; exact hs'⟩, less_sub ⟨rfl, rfl, rfl, rfl, trivial⟩ (List.Sublist.cons _ (List.Sublist.refl _))⟩
    · rw [d2, if_neg (by rw [h]; decide)]
      exact c_skip ⟨⟨base, len, cap, e⟩, ⟨by dsimp only; omega, hs⟩, less_of ⟨rfl, rfl, rfl, rfl, trivial⟩ rfl⟩
  clear hs hlen e cap len base
  rintro ⟨base, len, cap, e⟩ ⟨hlen, hs⟩
  dsimp only at hlen hs ⊢
  repeat refine c_seq ?_
  refine c_region ?_
  refine step_pure rfl (pure_move rfl) ?_
  refine step_nil ?_
  repeat refine c_seq ?_
  refine c_meetx (α := SlS) (fun z => [(1, .pointer (some ⟨b1, 0, none⟩)), (5, .bool wd), (6, .slice z.base z.len z.cap)])
    (fun z => [z.e, ⟨b1, [.int .i64 f.kind, .int .i64 f.a, .int .i64 f.b, .slice rb f.rs.length rc, .slice db f.data.length dc], 33⟩])
    (fun z => SlIs ty3 3 z.e z.base z.len z.cap (ints .i64 (nu3 f))) ?_ ?_
  · repeat refine c_seq ?_
    refine c_cond rfl (fun h => ?_) (fun h => ?_)
    · rw [d3, if_pos h]
      repeat refine c_seq ?_
      refine c_region ?_
      refine step_pure rfl (pure_move rfl) ?_
      refine step_pure rfl (pure_fieldAddr rfl rfl rfl rfl rfl (by decide)) ?_
      first | refine step_pure rfl (pure_load (i := 0) rfl rfl rfl rfl rfl rfl) ?_ | refine step_pure rfl (pure_load (i := 1) rfl rfl rfl rfl rfl rfl) ?_ | refine step_pure rfl (pure_load (i := 2) rfl rfl rfl rfl rfl rfl) ?_ | refine step_pure rfl (pure_load (i := 3) rfl rfl rfl rfl rfl rfl) ?_ | refine step_pure rfl (pure_load (i := 4) rfl rfl rfl rfl rfl rfl) ?_ | refine step_pure rfl (pure_load (i := 5) rfl rfl rfl rfl rfl rfl) ?_
      refine step_pure rfl (pure_len_slice rfl rfl rfl) ?_
      refine step_buildSlice rfl rfl rfl rfl elem3 (by decide) (by decide) (fill_one .i64 _ rfl) (fun b38 => ?_)
      refine step_append 1 rfl rfl hs rfl rfl rfl rfl rfl elem3 rfl (by decide) rfl rfl rfl (src_own (j := 0) (sl_built ty3 3 b38 [.int .i64 (f.rs.length : Int)] 1 rfl) rfl) (one _) (by omega) (by omega) (fun base' cap' e' hs' => ?_)
      refine step_pure rfl (pure_assign rfl) ?_
      refine step_nil ?_
      exact ⟨⟨base', len + 1, cap', e'⟩, by rw [← ints_app]; exact hs', less_sub ⟨rfl, rfl, rfl, trivial⟩ (List.Sublist.cons _ (List.Sublist.refl _))⟩
    · rw [d3, if_neg (by rw [h]; decide)]
      exact c_skip ⟨⟨base, len, cap, e⟩, hs, less_of ⟨rfl, rfl, rfl, trivial⟩ rfl⟩
  clear hs hlen e cap len base
  rintro ⟨base, len, cap, e⟩ hs
  dsimp only at hs ⊢
  repeat refine c_seq ?_
  refine c_region ?_
  refine step_pure rfl (pure_fieldAddr rfl rfl rfl rfl rfl (by decide)) ?_
  first | refine step_pure rfl (pure_load (i := 0) rfl rfl rfl rfl rfl rfl) ?_ | refine step_pure rfl (pure_load (i := 1) rfl rfl rfl rfl rfl rfl) ?_ | refine step_pure rfl (pure_load (i := 2) rfl rfl rfl rfl rfl rfl) ?_ | refine step_pure rfl (pure_load (i := 3) rfl rfl rfl rfl rfl rfl) ?_ | refine step_pure rfl (pure_load (i := 4) rfl rfl rfl rfl rfl rfl) ?_ | refine step_pure rfl (pure_load (i := 5) rfl rfl rfl rfl rfl rfl) ?_
  refine step_pure rfl (pure_len_slice rfl rfl rfl) ?_
  refine step_pure rfl (pure_move rfl) ?_
  refine step_nil ?_
  repeat refine c_seq ?_
  refine c_block ?_
  repeat refine c_seq ?_
  refine c_loop (α := SlS × Nat) (fun x => [(1, .pointer (some ⟨b1, 0, none⟩)), (5, .bool wd), (6, .slice x.1.base x.1.len x.1.cap), (41, .slice rb f.rs.length rc), (42, .int .i64 f.rs.length), (43, .int .i64 x.2)])
    (fun x => [x.1.e, ⟨b1, [.int .i64 f.kind, .int .i64 f.a, .int .i64 f.b, .slice rb f.rs.length rc, .slice db f.data.length dc], 33⟩])
    (fun x => x.2 ≤ f.rs.length ∧ SlIs ty3 3 x.1.e x.1.base x.1.len x.1.cap (ints .i64 (nu3 f ++ nuR (f.rs.take x.2)))) (fun x => f.rs.length - x.2) (⟨base, len, cap, e⟩, 0)
    ⟨Nat.zero_le _, by rw [List.take_zero]; unfold nuR; rw [List.flatMap_nil, List.append_nil]; exact hs⟩ (less_of ⟨rfl, rfl, rfl, rfl, rfl, rfl, trivial⟩ rfl) ?_
  clear hs e cap len base
  rintro ⟨⟨base, len, cap, e⟩, i⟩ ⟨hi, hs⟩
  dsimp only at hi hs ⊢
  have hll := slis_ints hs
  rw [List.length_append, nuR_len, List.length_take] at hll
  repeat refine c_seq ?_
  refine c_region ?_
  refine step_pure rfl (pure_lss rfl rfl) ?_
  refine step_nil ?_
  repeat refine c_seq ?_
  refine c_cond rfl (fun h => ?_) (fun h => ?_)
  · have hlt : i < f.rs.length := by have := of_decide_eq_true h; omega
    clear h
    obtain ⟨p, cap'', hq, hp⟩ := hr0.at (i := i) (by decide) hlt
    cases hq
    obtain ⟨hlo, hhi⟩ := rgCells_at f.rs i hlt
    have hcells : ∀ j x, [Value.int .i64 (f.rs.getD i (0, 0)).1, .int .i64 (f.rs.getD i (0, 0)).2][j]? = some x → Cel ⟨w, [], []⟩ ((p.add (i * 2)).add j) x := by
      intro j x hx
      refine ⟨?_, List.not_mem_nil⟩
      obtain _ | _ | j := j
      · cases hx; exact hp 0 _ hlo
      · cases hx; exact hp 1 _ hhi
      · cases hx
    have hsn := nuR_snoc f.rs i hlt
    clear hlo hhi hp
    generalize (f.rs.getD i (0, 0)).1 = lo at *
    generalize (f.rs.getD i (0, 0)).2 = hi' at *
    refine c_skip ?_
    repeat refine c_seq ?_
    refine c_block ?_
    repeat refine c_seq ?_
    refine c_region ?_
    refine step_as rfl (pure_indexAddr_at rfl rfl rfl rfl rfl (by omega) (by omega)) (show _ = Value.pointer (some (p.add (i * 2))) from by show Value.pointer (some (p.add ((i : Int).toNat * 2))) = _; rw [Int.toNat_natCast]) ?_
    refine step_pure rfl (pure_cel_agg rfl rfl rfl rfl hcells) ?_
    refine step_alloc rfl zero45 (fun b8 => ?_)
    refine step_store_agg 0 rfl rfl rfl (by intro v hv; simp at hv; rcases hv with rfl | rfl <;> rfl) rfl rfl rfl rfl (by show 2 ≤ 2; decide) (splice_all rfl) ?_
    refine step_nil ?_
    repeat refine c_seq ?_
    refine c_region ?_
    refine step_pure rfl (pure_move rfl) ?_
    refine step_pure rfl (pure_fieldAddr rfl rfl rfl rfl rfl (by decide)) ?_
    first | refine step_pure rfl (pure_load (i := 0) rfl rfl rfl rfl rfl rfl) ?_ | refine step_pure rfl (pure_load (i := 1) rfl rfl rfl rfl rfl rfl) ?_ | refine step_pure rfl (pure_load (i := 2) rfl rfl rfl rfl rfl rfl) ?_ | refine step_pure rfl (pure_load (i := 3) rfl rfl rfl rfl rfl rfl) ?_ | refine step_pure rfl (pure_load (i := 4) rfl rfl rfl rfl rfl rfl) ?_ | refine step_pure rfl (pure_load (i := 5) rfl rfl rfl rfl rfl rfl) ?_
    refine step_pure rfl (pure_fieldAddr rfl rfl rfl rfl rfl (by decide)) ?_
    first | refine step_pure rfl (pure_load (i := 0) rfl rfl rfl rfl rfl rfl) ?_ | refine step_pure rfl (pure_load (i := 1) rfl rfl rfl rfl rfl rfl) ?_ | refine step_pure rfl (pure_load (i := 2) rfl rfl rfl rfl rfl rfl) ?_ | refine step_pure rfl (pure_load (i := 3) rfl rfl rfl rfl rfl rfl) ?_ | refine step_pure rfl (pure_load (i := 4) rfl rfl rfl rfl rfl rfl) ?_ | refine step_pure rfl (pure_load (i := 5) rfl rfl rfl rfl rfl rfl) ?_
    refine step_buildSlice rfl rfl rfl rfl elem3 (by decide) (by decide) (fill_two .i64 _ _ rfl) (fun b52 => ?_)
    refine step_append 2 rfl rfl hs rfl rfl rfl rfl rfl elem3 rfl (by decide) rfl rfl rfl (src_own (j := 0) (sl_built ty3 3 b52 [.int .i64 lo, .int .i64 hi'] 2 rfl) rfl) (by intro v hv; simp at hv; rcases hv with rfl | rfl <;> rfl) (by omega) (by omega) (fun base' cap' e' hs' => ?_)
    refine step_pure rfl (pure_assign rfl) ?_
    refine step_nil ?_
    repeat refine c_seq ?_
    refine c_region ?_
    first | refine step_pure rfl (pure_add64 rfl rfl (by omega) (by omega)) ?_ | refine step_pure rfl (pure_add rfl rfl) ?_
    refine step_pure rfl (pure_move rfl) ?_
    refine step_nil ?_
    refine ⟨(⟨base', len + 2, cap', e'⟩, i + 1), ⟨hlt, ?_⟩, by dsimp only; omega, less_sub ⟨rfl, rfl, rfl, rfl, rfl, rfl, trivial⟩ (List.Sublist.cons _ (List.Sublist.cons _ (List.Sublist.refl _)))⟩
    dsimp only
    rw [hsn, ← List.append_assoc, ← ints_app]
    exact hs'
  · have hie : i = f.rs.length := by have := of_decide_eq_false h; omega
    clear h
    rw [hie, List.take_length, ← d4] at hs
    refine c_exit ?_
    repeat refine c_seq ?_
    refine c_region ?_
    refine step_pure rfl (pure_move rfl) ?_
    refine step_nil ?_
    repeat refine c_seq ?_
    refine c_meetx (α := SlS) (fun z => [(6, .slice z.base z.len z.cap)]) (fun z => [z.e]) (fun z => SlIs ty3 3 z.e z.base z.len z.cap (ints .i64 (fnums f))) ?_ ?_
    · repeat refine c_seq ?_
      refine c_cond rfl (fun h => ?_) (fun h => ?_)
      · rw [d5, if_pos h]
        repeat refine c_seq ?_
        refine c_region ?_
        refine step_pure rfl (pure_move rfl) ?_
        refine step_pure rfl (pure_fieldAddr rfl rfl rfl rfl rfl (by decide)) ?_
        first | refine step_pure rfl (pure_load (i := 0) rfl rfl rfl rfl rfl rfl) ?_ | refine step_pure rfl (pure_load (i := 1) rfl rfl rfl rfl rfl rfl) ?_ | refine step_pure rfl (pure_load (i := 2) rfl rfl rfl rfl rfl rfl) ?_ | refine step_pure rfl (pure_load (i := 3) rfl rfl rfl rfl rfl rfl) ?_ | refine step_pure rfl (pure_load (i := 4) rfl rfl rfl rfl rfl rfl) ?_ | refine step_pure rfl (pure_load (i := 5) rfl rfl rfl rfl rfl rfl) ?_
        refine step_pure rfl (pure_len_slice rfl rfl rfl) ?_
        refine step_buildSlice rfl rfl rfl rfl elem3 (by decide) (by decide) (fill_one .i64 _ rfl) (fun b60 => ?_)
        refine step_append 1 rfl rfl hs rfl rfl rfl rfl rfl elem3 rfl (by decide) rfl rfl rfl (src_own (j := 0) (sl_built ty3 3 b60 [.int .i64 (f.data.length : Int)] 1 rfl) rfl) (one _) (by omega) (by omega) (fun base' cap' e' hs' => ?_)
        refine step_pure rfl (pure_assign rfl) ?_
        refine step_nil ?_
        exact ⟨⟨base', len + 1, cap', e'⟩, by rw [← ints_app]; exact hs', less_sub ⟨rfl, trivial⟩ (List.Sublist.cons _ (List.Sublist.cons_cons _ (List.nil_sublist _)))⟩
      · rw [d5, if_neg (by rw [h]; decide)]
        exact c_skip ⟨⟨base, len, cap, e⟩, hs, less_sub ⟨rfl, trivial⟩ (List.Sublist.cons_cons _ (List.nil_sublist _))⟩
    clear hs hll e cap len base
    rintro ⟨base, len, cap, e⟩ hs
    dsimp only at hs ⊢
    have hl := slis_ints hs
    subst hl
    repeat refine c_seq ?_
    refine c_region ?_
    refine step_pure rfl (pure_move rfl) ?_
    refine step_pure rfl (pure_assign rfl) ?_
    refine step_nil ?_
    exact c_ret ⟨_, res_tmp Try.results23 rfl, [e], List.Sublist.refl _, base, cap, e, rfl, rfl, hs⟩
end Go.Proofs.Ytphpmallnlajjaa
