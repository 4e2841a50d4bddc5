/- A frame's numbers: walked. -/
import Derived.Test.YthieegnhjoehbaaFB
import Derived.Test.YthieegnhjoehbaaVx
namespace Go.Proofs.Ythieegnhjoehbaa
open Go.RowKit Go.Vc
set_option linter.unusedVariables false
def nu1 (f : Fr) : List Int := if f.kind = 1 then [f.kind] else [f.kind, f.a]
def nu2 (f : Fr) : List Int := if wantB f.kind = true then nu1 f ++ [f.b] else nu1 f
def nu3 (f : Fr) : List Int := if wantR f.kind = true then nu2 f ++ [(f.rs.length : Int)] else nu2 f
def nuR (rs : List (Int × Int)) : List Int := rs.flatMap fun r => [r.1, r.2]
def nu4 (f : Fr) : List Int := nu3 f ++ nuR f.rs
def fnums (f : Fr) : List Int := if wantD f.kind = true then nu4 f ++ [(f.data.length : Int)] else nu4 f
theorem nuR_len (rs : List (Int × Int)) : (nuR rs).length = 2 * rs.length := by
 induction rs with
 | nil => rfl
 | cons r rs ih => simp [nuR] at ih ⊢; omega
theorem nuR_snoc (rs : List (Int × Int)) (i : Nat) (h : i < rs.length) : nuR (rs.take (i + 1)) = nuR (rs.take i) ++ [(rs.getD i (0, 0)).1, (rs.getD i (0, 0)).2] := by
 unfold nuR
 rw [List.take_succ_eq_append_getElem h, List.flatMap_append]
 simp [List.getD_eq_getElem?_getD, List.getElem?_eq_getElem h]
theorem nu3_len (f : Fr) : (nu3 f).length ≤ 4 := by
 unfold nu3 nu2 nu1
 repeat' split
 all_goals simp
theorem fnums_len (f : Fr) : (fnums f).length ≤ 5 + 2 * f.rs.length := by
 have := nu3_len f
 unfold fnums nu4
 split <;> simp [nuR_len] <;> omega
theorem slis_ints {e : Ent} {base : Option Addr} {len cap : Nat} {l : List Int} (h : SlIs ty3 3 e base len cap (ints .i64 l)) : len = l.length := by
 have := h.len
 rw [ints_len] at this
 have h1 : l.length = len * 1 := this
 omega
set_option maxHeartbeats 4000000 in
theorem numbers_any (f : Fr) (cs : List Value) (w : World) (hf : FrC (fun p x => w.cell? p = some x) f cs) (hrl : f.rs.length ≤ 1000) (hdl : f.data.length ≤ 140737488355328) :
  Makes tb 45 [.agg cs.toArray] w fun u m' => ∃ base cap e, u = .slice base (fnums f).length cap ∧ m' = [e] ∧ SlIs ty3 3 e base (fnums f).length cap (ints .i64 (fnums f)) := by
 obtain ⟨rv, dv, rfl, hr0, hd⟩ := hf
 obtain ⟨rb, rc, rfl, -, -, -⟩ := id hr0
 obtain ⟨db, dc, rfl, -, -, -⟩ := hd
 have d1 : nu1 f = if f.kind = 1 then [f.kind] else [f.kind, f.a] := rfl
 have d2 : nu2 f = if wantB f.kind = true then nu1 f ++ [f.b] else nu1 f := rfl
 have d3 : nu3 f = if wantR f.kind = true then nu2 f ++ [(f.rs.length : Int)] else nu2 f := rfl
 have d4 : nu4 f = nu3 f ++ nuR f.rs := rfl
 have d5 : fnums f = if wantD f.kind = true then nu4 f ++ [(f.data.length : Int)] else nu4 f := rfl
 have l3 := nu3_len f
 have one : ∀ x : Int, ∀ v ∈ [Value.int .i64 x], v.oneCell' = true := by intro x v hv; simp at hv; subst hv; rfl
 refine makes_of (fn := Try.f45) Try.func45 rfl Try.ntmps45 rfl ?_
 repeat refine c_seq ?_
 refine c_region ?_
 refine step_box_agg rfl rfl (fun b1 => ?_)
 refine qa rfl rfl ?_
 refine step_nil ?_
 repeat refine c_seq ?_
 refine c_region ?_
 refine step_pure rfl (pure_fieldAddr rfl rfl rfl rfl rfl (by decide)) ?_
 refine step_pure rfl (pure_load (i := 0) rfl rfl rfl rfl rfl rfl) ?_
 refine step_gives rfl fun61 rfl (fun w _ _ => wants_any _ w) ?_
 refine qm rfl rfl ?_
 refine qx rfl rfl rfl ?_
 refine qx rfl rfl rfl ?_
 refine qx rfl rfl rfl ?_
 refine qa rfl rfl ?_
 refine qa rfl rfl ?_
 refine qa rfl rfl ?_
 refine step_nil ?_
 repeat refine c_seq ?_
 refine c_region ?_
 refine step_pure rfl (pure_fieldAddr rfl rfl rfl rfl rfl (by decide)) ?_
 refine step_pure rfl (pure_load (i := 0) rfl rfl rfl rfl rfl rfl) ?_
 refine step_buildSlice rfl rfl rfl rfl elem3 (by decide) (by decide) (fill_one .i64 _ rfl) (fun b18 => ?_)
 refine qa rfl rfl ?_
 refine step_nil ?_
 repeat refine c_seq ?_
 refine c_region ?_
 refine step_pure rfl (pure_fieldAddr rfl rfl rfl rfl rfl (by decide)) ?_
 refine step_pure rfl (pure_load (i := 1) rfl rfl rfl rfl rfl rfl) ?_
 refine step_pure rfl (pure_neq rfl rfl) ?_
 refine step_nil ?_
 generalize wantB f.kind = wb at *
 generalize wantR f.kind = wr at *
 generalize wantD f.kind = wd at *
 repeat refine c_seq ?_
 refine c_meetx (α := SlS) (fun z => [(1, .pointer (some ⟨b1, 0, none⟩)), (3, .bool wb), (4, .bool wr), (5, .bool wd), (6, .slice z.base z.len z.cap)])
  (fun z => [z.e, ⟨b1, [.int .i64 f.kind, .int .i64 f.a, .int .i64 f.b, .slice rb f.rs.length rc, .slice db f.data.length dc], 59⟩])
  (fun z => z.len ≤ 2 ∧ SlIs ty3 3 z.e z.base z.len z.cap (ints .i64 (nu1 f))) ?_ ?_
 ·repeat refine c_seq ?_
  refine c_cond rfl (fun h => ?_) (fun h => ?_)
  ·have hk : f.kind ≠ 1 := by simpa using h
   rw [d1, if_neg hk]
   repeat refine c_seq ?_
   refine c_region ?_
   refine qm rfl rfl ?_
   refine step_pure rfl (pure_fieldAddr rfl rfl rfl rfl rfl (by decide)) ?_
   refine step_pure rfl (pure_load (i := 1) rfl rfl rfl rfl rfl rfl) ?_
   refine step_buildSlice rfl rfl rfl rfl elem3 (by decide) (by decide) (fill_one .i64 _ rfl) (fun b25 => ?_)
   refine step_append 1 rfl rfl (sl_built ty3 3 b18 [.int .i64 f.kind] 1 rfl) rfl rfl rfl rfl rfl elem3 rfl (by decide) rfl rfl rfl (src_own (j := 0) (sl_built ty3 3 b25 [.int .i64 f.a] 1 rfl) rfl) (one _) (by decide) (by decide) (fun base' cap' e' hs' => ?_)
   refine qa rfl rfl ?_
   refine step_nil ?_
   exact ⟨⟨base', 2, cap', e'⟩, ⟨Nat.le_refl _, hs'⟩, less_sub ⟨rfl, rfl, rfl, rfl, rfl, trivial⟩ (List.Sublist.cons _ (List.Sublist.refl _))⟩
  ·have hk : f.kind = 1 := by simpa using h
   rw [d1, if_pos hk]
   exact c_skip ⟨⟨some ⟨b18, 0, none⟩, 1, 1, ⟨b18, [.int .i64 f.kind], 3⟩⟩, ⟨(by show 1 ≤ 2; decide), sl_built ty3 3 b18 [.int .i64 f.kind] 1 rfl⟩, less_of ⟨rfl, rfl, rfl, rfl, rfl, trivial⟩ rfl⟩
 rintro ⟨base, len, cap, e⟩ ⟨hlen, hs⟩
 dsimp only at hlen hs ⊢
 repeat refine c_seq ?_
 refine c_region ?_
 refine qm rfl rfl ?_
 refine step_nil ?_
 repeat refine c_seq ?_
 refine c_meetx (α := SlS) (fun z => [(1, .pointer (some ⟨b1, 0, none⟩)), (4, .bool wr), (5, .bool wd), (6, .slice z.base z.len z.cap)])
  (fun z => [z.e, ⟨b1, [.int .i64 f.kind, .int .i64 f.a, .int .i64 f.b, .slice rb f.rs.length rc, .slice db f.data.length dc], 59⟩])
  (fun z => z.len ≤ 3 ∧ SlIs ty3 3 z.e z.base z.len z.cap (ints .i64 (nu2 f))) ?_ ?_
 ·repeat refine c_seq ?_
  refine c_cond rfl (fun h => ?_) (fun h => ?_)
  ·rw [d2, if_pos h]
   repeat refine c_seq ?_
   refine c_region ?_
   refine qm rfl rfl ?_
   refine step_pure rfl (pure_fieldAddr rfl rfl rfl rfl rfl (by decide)) ?_
   refine step_pure rfl (pure_load (i := 1) rfl rfl rfl rfl rfl rfl) ?_
   refine step_buildSlice rfl rfl rfl rfl elem3 (by decide) (by decide) (fill_one .i64 _ rfl) (fun b31 => ?_)
   refine step_append 1 rfl rfl hs rfl rfl rfl rfl rfl elem3 rfl (by decide) rfl rfl rfl (src_own (j := 0) (sl_built ty3 3 b31 [.int .i64 f.b] 1 rfl) rfl) (one _) (by omega) (by omega) (fun base' cap' e' hs' => ?_)
   refine qa rfl rfl ?_
   refine step_nil ?_
   exact ⟨⟨base', len + 1, cap', e'⟩, ⟨by dsimp only; omega, by rw [← ints_app]; exact hs'⟩, less_sub ⟨rfl, rfl, rfl, rfl, trivial⟩ (List.Sublist.cons _ (List.Sublist.refl _))⟩
  ·rw [d2, if_neg (by rw [h]; decide)]
   exact c_skip ⟨⟨base, len, cap, e⟩, ⟨by dsimp only; omega, hs⟩, less_of ⟨rfl, rfl, rfl, rfl, trivial⟩ rfl⟩
 clear hs hlen e cap len base
 rintro ⟨base, len, cap, e⟩ ⟨hlen, hs⟩
 dsimp only at hlen hs ⊢
 repeat refine c_seq ?_
 refine c_region ?_
 refine qm rfl rfl ?_
 refine step_nil ?_
 repeat refine c_seq ?_
 refine c_meetx (α := SlS) (fun z => [(1, .pointer (some ⟨b1, 0, none⟩)), (5, .bool wd), (6, .slice z.base z.len z.cap)])
  (fun z => [z.e, ⟨b1, [.int .i64 f.kind, .int .i64 f.a, .int .i64 f.b, .slice rb f.rs.length rc, .slice db f.data.length dc], 59⟩])
  (fun z => SlIs ty3 3 z.e z.base z.len z.cap (ints .i64 (nu3 f))) ?_ ?_
 ·repeat refine c_seq ?_
  refine c_cond rfl (fun h => ?_) (fun h => ?_)
  ·rw [d3, if_pos h]
   repeat refine c_seq ?_
   refine c_region ?_
   refine qm rfl rfl ?_
   refine step_pure rfl (pure_fieldAddr rfl rfl rfl rfl rfl (by decide)) ?_
   refine step_pure rfl (pure_load (i := 1) rfl rfl rfl rfl rfl rfl) ?_
   refine step_pure rfl (pure_len_slice rfl rfl rfl) ?_
   refine step_buildSlice rfl rfl rfl rfl elem3 (by decide) (by decide) (fill_one .i64 _ rfl) (fun b38 => ?_)
   refine step_append 1 rfl rfl hs rfl rfl rfl rfl rfl elem3 rfl (by decide) rfl rfl rfl (src_own (j := 0) (sl_built ty3 3 b38 [.int .i64 (f.rs.length : Int)] 1 rfl) rfl) (one _) (by omega) (by omega) (fun base' cap' e' hs' => ?_)
   refine qa rfl rfl ?_
   refine step_nil ?_
   exact ⟨⟨base', len + 1, cap', e'⟩, by rw [← ints_app]; exact hs', less_sub ⟨rfl, rfl, rfl, trivial⟩ (List.Sublist.cons _ (List.Sublist.refl _))⟩
  ·rw [d3, if_neg (by rw [h]; decide)]
   exact c_skip ⟨⟨base, len, cap, e⟩, hs, less_of ⟨rfl, rfl, rfl, trivial⟩ rfl⟩
 clear hs hlen e cap len base
 rintro ⟨base, len, cap, e⟩ hs
 dsimp only at hs ⊢
 repeat refine c_seq ?_
 refine c_region ?_
 refine step_pure rfl (pure_fieldAddr rfl rfl rfl rfl rfl (by decide)) ?_
 refine step_pure rfl (pure_load (i := 1) rfl rfl rfl rfl rfl rfl) ?_
 refine step_pure rfl (pure_len_slice rfl rfl rfl) ?_
 refine qm rfl rfl ?_
 refine step_nil ?_
 repeat refine c_seq ?_
 refine c_block ?_
 repeat refine c_seq ?_
 refine c_loop (α := SlS × Nat) (fun x => [(1, .pointer (some ⟨b1, 0, none⟩)), (5, .bool wd), (6, .slice x.1.base x.1.len x.1.cap), (41, .slice rb f.rs.length rc), (42, .int .i64 f.rs.length), (43, .int .i64 x.2)])
  (fun x => [x.1.e, ⟨b1, [.int .i64 f.kind, .int .i64 f.a, .int .i64 f.b, .slice rb f.rs.length rc, .slice db f.data.length dc], 59⟩])
  (fun x => x.2 ≤ f.rs.length ∧ SlIs ty3 3 x.1.e x.1.base x.1.len x.1.cap (ints .i64 (nu3 f ++ nuR (f.rs.take x.2)))) (fun x => f.rs.length - x.2) (⟨base, len, cap, e⟩, 0)
  ⟨Nat.zero_le _, by rw [List.take_zero]; unfold nuR; rw [List.flatMap_nil, List.append_nil]; exact hs⟩ (less_of ⟨rfl, rfl, rfl, rfl, rfl, rfl, trivial⟩ rfl) ?_
 clear hs e cap len base
 rintro ⟨⟨base, len, cap, e⟩, i⟩ ⟨hi, hs⟩
 dsimp only at hi hs ⊢
 have hll := slis_ints hs
 rw [List.length_append, nuR_len, List.length_take] at hll
 repeat refine c_seq ?_
 refine c_region ?_
 refine step_pure rfl (pure_lss rfl rfl) ?_
 refine step_nil ?_
 repeat refine c_seq ?_
 refine c_cond rfl (fun h => ?_) (fun h => ?_)
 ·have hlt : i < f.rs.length := by have := of_decide_eq_true h; omega
  clear h
  obtain ⟨p, cap'', hq, hp⟩ := hr0.at (i := i) (by decide) hlt
  cases hq
  obtain ⟨hlo, hhi⟩ := rgCells_at f.rs i hlt
  have hcells : ∀ j x, [Value.int .i64 (f.rs.getD i (0, 0)).1, .int .i64 (f.rs.getD i (0, 0)).2][j]? = some x → Cel ⟨w, [], []⟩ ((p.add (i * 2)).add j) x := by
   intro j x hx
   refine ⟨?_, List.not_mem_nil⟩
   obtain _ | _ | j := j
   ·cases hx; exact hp 0 _ hlo
   ·cases hx; exact hp 1 _ hhi
   ·cases hx
  have hsn := nuR_snoc f.rs i hlt
  clear hlo hhi hp
  generalize (f.rs.getD i (0, 0)).1 = lo at *
  generalize (f.rs.getD i (0, 0)).2 = hi' at *
  refine c_skip ?_
  repeat refine c_seq ?_
  refine c_block ?_
  repeat refine c_seq ?_
  refine c_region ?_
  refine step_as rfl (pure_indexAddr_at rfl rfl rfl rfl rfl (by omega) (by omega)) (show _ = Value.pointer (some (p.add (i * 2))) from by show Value.pointer (some (p.add ((i : Int).toNat * 2))) = _; rw [Int.toNat_natCast]) ?_
  refine step_pure rfl (pure_cel_agg rfl rfl rfl rfl hcells) ?_
  refine step_alloc rfl zero110 (fun b8 => ?_)
  refine step_store_agg 0 rfl rfl rfl (by intro v hv; simp at hv; rcases hv with rfl | rfl <;> rfl) rfl rfl rfl rfl (by show 2 ≤ 2; decide) (splice_all rfl) ?_
  refine step_nil ?_
  repeat refine c_seq ?_
  refine c_region ?_
  refine qm rfl rfl ?_
  refine step_pure rfl (pure_fieldAddr rfl rfl rfl rfl rfl (by decide)) ?_
  refine step_pure rfl (pure_load (i := 0) rfl rfl rfl rfl rfl rfl) ?_
  refine step_pure rfl (pure_fieldAddr rfl rfl rfl rfl rfl (by decide)) ?_
  refine step_pure rfl (pure_load (i := 0) rfl rfl rfl rfl rfl rfl) ?_
  refine step_buildSlice rfl rfl rfl rfl elem3 (by decide) (by decide) (fill_two .i64 _ _ rfl) (fun b52 => ?_)
  refine step_append 2 rfl rfl hs rfl rfl rfl rfl rfl elem3 rfl (by decide) rfl rfl rfl (src_own (j := 0) (sl_built ty3 3 b52 [.int .i64 lo, .int .i64 hi'] 2 rfl) rfl) (by intro v hv; simp at hv; rcases hv with rfl | rfl <;> rfl) (by omega) (by omega) (fun base' cap' e' hs' => ?_)
  refine qa rfl rfl ?_
  refine step_nil ?_
  repeat refine c_seq ?_
  refine c_region ?_
  refine step_pure rfl (pure_add64 rfl rfl (by omega) (by omega)) ?_
  refine qm rfl rfl ?_
  refine step_nil ?_
  refine ⟨(⟨base', len + 2, cap', e'⟩, i + 1), ⟨hlt, ?_⟩, by dsimp only; omega, less_sub ⟨rfl, rfl, rfl, rfl, rfl, rfl, trivial⟩ (List.Sublist.cons _ (List.Sublist.cons _ (List.Sublist.refl _)))⟩
  dsimp only
  rw [hsn, ← List.append_assoc, ← ints_app]
  exact hs'
 ·have hie : i = f.rs.length := by have := of_decide_eq_false h; omega
  clear h
  rw [hie, List.take_length, ← d4] at hs
  refine c_exit ?_
  repeat refine c_seq ?_
  refine c_region ?_
  refine qm rfl rfl ?_
  refine step_nil ?_
  repeat refine c_seq ?_
  refine c_meetx (α := SlS) (fun z => [(6, .slice z.base z.len z.cap)]) (fun z => [z.e]) (fun z => SlIs ty3 3 z.e z.base z.len z.cap (ints .i64 (fnums f))) ?_ ?_
  ·repeat refine c_seq ?_
   refine c_cond rfl (fun h => ?_) (fun h => ?_)
   ·rw [d5, if_pos h]
    repeat refine c_seq ?_
    refine c_region ?_
    refine qm rfl rfl ?_
    refine step_pure rfl (pure_fieldAddr rfl rfl rfl rfl rfl (by decide)) ?_
    refine step_pure rfl (pure_load (i := 1) rfl rfl rfl rfl rfl rfl) ?_
    refine step_pure rfl (pure_len_slice rfl rfl rfl) ?_
    refine step_buildSlice rfl rfl rfl rfl elem3 (by decide) (by decide) (fill_one .i64 _ rfl) (fun b60 => ?_)
    refine step_append 1 rfl rfl hs rfl rfl rfl rfl rfl elem3 rfl (by decide) rfl rfl rfl (src_own (j := 0) (sl_built ty3 3 b60 [.int .i64 (f.data.length : Int)] 1 rfl) rfl) (one _) (by omega) (by omega) (fun base' cap' e' hs' => ?_)
    refine qa rfl rfl ?_
    refine step_nil ?_
    exact ⟨⟨base', len + 1, cap', e'⟩, by rw [← ints_app]; exact hs', less_sub ⟨rfl, trivial⟩ (List.Sublist.cons _ (List.Sublist.cons_cons _ (List.nil_sublist _)))⟩
   ·rw [d5, if_neg (by rw [h]; decide)]
    exact c_skip ⟨⟨base, len, cap, e⟩, hs, less_sub ⟨rfl, trivial⟩ (List.Sublist.cons_cons _ (List.nil_sublist _))⟩
  clear hs hll e cap len base
  rintro ⟨base, len, cap, e⟩ hs
  dsimp only at hs ⊢
  have hl := slis_ints hs
  subst hl
  repeat refine c_seq ?_
  refine c_region ?_
  refine qm rfl rfl ?_
  refine qa rfl rfl ?_
  refine step_nil ?_
  exact c_ret ⟨_, res_tmp Try.results45 rfl, [e], List.Sublist.refl _, base, cap, e, rfl, rfl, hs⟩
end Go.Proofs.Ythieegnhjoehbaa
/- Frames' bytes: Write, walked. -/
namespace Go.Proofs.Ythieegnhjoehbaa
open Go.RowKit Go.Vc
set_option linter.unusedVariables false
/-! slices of frames -/
theorem FrC.five {C : Addr → Value → Prop} {f : Fr} {cs : List Value} (h : FrC C f cs) : cs.length = 5 := by
 obtain ⟨rv, dv, rfl, -, -⟩ := h
 rfl
def FrsC (C : Addr → Value → Prop) (v : Value) (fs : List Fr) : Prop :=
 ∃ css : List (List Value), css.length = fs.length ∧ (∀ (i : Nat) (f : Fr) (cs : List Value), fs[i]? = some f → css[i]? = some cs → FrC C f cs) ∧ SlC C 5 v fs.length css.flatten
theorem FrsC.mono {C C' : Addr → Value → Prop} {v : Value} {fs : List Fr} (h : FrsC C v fs) (hC : ∀ p x, C p x → C' p x) : FrsC C' v fs := by
 obtain ⟨css, h1, h2, h3⟩ := h
 exact ⟨css, h1, fun i f cs hf hc => (h2 i f cs hf hc).mono hC, h3.mono hC⟩
theorem flatten_get {α : Type} (k : Nat) : ∀ (css : List (List α)), (∀ cs ∈ css, cs.length = k) → ∀ (i j : Nat) (cs : List α), css[i]? = some cs → j < k → css.flatten[i * k + j]? = cs[j]?
 | [], _, i, j, cs, h, _ => by simp at h
 | c :: css, hl, 0, j, cs, h, hj => by
  have : c = cs := by simpa using h
  subst this
  rw [List.flatten_cons, Nat.zero_mul, Nat.zero_add, List.getElem?_append_left (by rw [hl c (.head _)]; exact hj)]
 | c :: css, hl, i + 1, j, cs, h, hj => by
  have hc := hl c (.head _)
  rw [List.flatten_cons, List.getElem?_append_right (by rw [hc, Nat.add_mul]; omega), hc, Nat.add_mul, Nat.one_mul]
  rw [show i * k + k + j - k = i * k + j by omega]
  exact flatten_get k css (fun x hx => hl x (.tail _ hx)) i j cs (by simpa using h) hj
theorem FrsC.at {C : Addr → Value → Prop} {v : Value} {fs : List Fr} (h : FrsC C v fs) {i : Nat} (hi : i < fs.length) :
  ∃ p cap cs, v = .slice (some p) fs.length cap ∧ FrC C fs[i] cs ∧ ∀ j x, cs[j]? = some x → C ((p.add (i * 5)).add j) x := by
 obtain ⟨css, h1, h2, h3⟩ := h
 have hall : ∀ cs ∈ css, cs.length = 5 := by
  intro cs hcs
  obtain ⟨k, hk, rfl⟩ := List.getElem_of_mem hcs
  exact (h2 k _ _ (List.getElem?_eq_getElem (by omega)) (List.getElem?_eq_getElem hk)).five
 obtain ⟨p, cap, hv, hp⟩ := h3.at (by decide) hi
 refine ⟨p, cap, css[i]'(by omega), hv, h2 i _ _ (List.getElem?_eq_getElem hi) (List.getElem?_eq_getElem (by omega)), fun j x hj => hp j x ?_⟩
 have hlt : j < 5 := by
  have := (List.getElem?_eq_some_iff.1 hj).1
  rw [hall _ (List.getElem_mem (by omega))] at this
  exact this
 rw [flatten_get 5 css hall i j _ (List.getElem?_eq_getElem (by omega)) hlt]
 exact hj
theorem FrsC.slice {C : Addr → Value → Prop} {v : Value} {fs : List Fr} (h : FrsC C v fs) : ∃ base cap, v = .slice base fs.length cap ∧ fs.length ≤ cap := by
 obtain ⟨css, h1, h2, base, cap, hv, hc, _⟩ := h
 exact ⟨base, cap, hv, hc⟩
/-! a frame's bytes -/
def fbytes (f : Fr) : List Int := (fnums f).flatMap vb ++ f.data ++ (if f.kind = 0 then zeros f.a.toNat else [])
def wrOk (fs : List Fr) : Bool := decide (fs.length ≤ 16) && fs.all fok
theorem vsize_ne {n : Int} (h0 : 0 ≤ n) (h1 : n < 4611686018427387904) : vsize n ≠ 0 := by
 rcases vsize_cases n with h | h | h | h | h <;> omega
theorem rgOk_in {rs : List (Int × Int)} (h : rgOk rs = true) : rs.length ≤ 16 ∧ ∀ r ∈ rs, 0 ≤ r.1 ∧ r.1 ≤ r.2 ∧ r.2 ≤ 4611686018427387903 := by
 unfold rgOk at h
 rw [Bool.and_eq_true, List.all_eq_true] at h
 refine ⟨by have := h.1; unfold inB at this; simp at this; omega, fun r hr => ?_⟩
 obtain ⟨i, hi, rfl⟩ := List.getElem_of_mem hr
 have h1 := h.2 i (List.mem_range.2 hi)
 unfold rgAt inB M62 at h1
 rw [List.getD_eq_getElem?_getD, List.getElem?_eq_getElem hi] at h1
 simp only [Option.getD_some, Bool.and_eq_true, decide_eq_true_eq] at h1
 omega
theorem fok_in {f : Fr} (h : fok f = true) : 0 ≤ f.kind ∧ f.kind ≤ 7 ∧ 0 ≤ f.a ∧ f.a ≤ 4611686018427387903 ∧ 0 ≤ f.b ∧ f.b ≤ 4611686018427387903 ∧ f.rs.length ≤ 16 ∧ f.data.length ≤ 2048 ∧ (f.kind = 0 → 1 ≤ f.a ∧ f.a ≤ 2048) ∧
  ∀ r ∈ f.rs, 0 ≤ r.1 ∧ r.1 ≤ r.2 ∧ r.2 ≤ 4611686018427387903 := by
 have hz : ∀ {l : List (Int × Int)}, l = [] → l.length ≤ 16 ∧ ∀ r ∈ l, 0 ≤ r.1 ∧ r.1 ≤ r.2 ∧ r.2 ≤ 4611686018427387903 := by rintro l rfl; exact ⟨by decide, by simp⟩
 have hy : ∀ {l : List Int}, l = [] → l.length ≤ 2048 := by rintro l rfl; decide
 by_cases h0 : f.kind = 0
 ·have k := (fok0 h0).1 h
  have := hz k.2.2.2.1
  have := hy k.2.2.2.2
  refine ⟨by omega, by omega, by omega, by omega, by omega, by omega, by omega, by omega, fun _ => by omega, (hz k.2.2.2.1).2⟩
 by_cases h1 : f.kind = 1
 ·have k := (fok1 h1).1 h
  have := hz k.2.2.1
  have := hy k.2.2.2
  refine ⟨by omega, by omega, by omega, by omega, by omega, by omega, by omega, by omega, fun _ => by omega, (hz k.2.2.1).2⟩
 by_cases h2 : f.kind = 2
 ·have k := (fok2 h2).1 h
  have h3 := rgOk_in k.2.2.2.1
  have := hy k.2.2.2.2
  refine ⟨by omega, by omega, by omega, by omega, by omega, by omega, by omega, by omega, fun _ => by omega, h3.2⟩
 by_cases h3 : f.kind = 3
 ·have k := (fok3 h3).1 h
  have := hz k.2.2.2.1
  refine ⟨by omega, by omega, by omega, by omega, by omega, by omega, by omega, by omega, fun _ => by omega, (hz k.2.2.2.1).2⟩
 by_cases h4 : f.kind = 4
 ·have k := (fok4 h4).1 h
  have := hz k.2.2.2.1
  refine ⟨by omega, by omega, by omega, by omega, by omega, by omega, by omega, by omega, fun _ => by omega, (hz k.2.2.2.1).2⟩
 by_cases h5 : f.kind = 5
 ·have k := (fok5 h5).1 h
  have := hz k.2.2.2.2.1
  have := hy k.2.2.2.2.2
  refine ⟨by omega, by omega, by omega, by omega, by omega, by omega, by omega, by omega, fun _ => by omega, (hz k.2.2.2.2.1).2⟩
 by_cases h67 : f.kind = 6 ∨ f.kind = 7
 ·have k := (fok67 h67).1 h
  have := hz k.2.2.2.1
  have := hy k.2.2.2.2
  refine ⟨by omega, by omega, by omega, by omega, by omega, by omega, by omega, by omega, fun _ => by omega, (hz k.2.2.2.1).2⟩
 ·rw [fok_no ⟨h0, h1, h2, h3, h4, h5, fun h => h67 (.inl h), fun h => h67 (.inr h)⟩] at h
  cases h
theorem nums_in {f : Fr} (h : fok f = true) : ∀ n ∈ fnums f, 0 ≤ n ∧ n < 4611686018427387904 := by
 obtain ⟨h1, h2, h3, h4, h5, h6, h7, h8, -, h9⟩ := fok_in h
 intro n hn
 have hr : ∀ n ∈ nuR f.rs, 0 ≤ n ∧ n < 4611686018427387904 := by
  intro n hn
  obtain ⟨r, hr, hm⟩ := List.mem_flatMap.1 hn
  have := h9 r hr
  simp at hm
  omega
 have h3' : ∀ n ∈ nu3 f, 0 ≤ n ∧ n < 4611686018427387904 := by
  intro n hn
  unfold nu3 nu2 nu1 at hn
  repeat' split at hn
  all_goals
   simp at hn
   omega
 unfold fnums nu4 at hn
 split at hn
 ·rw [List.mem_append, List.mem_append] at hn
  rcases hn with (hn | hn) | hn
  ·exact h3' n hn
  ·exact hr n hn
  ·simp at hn; omega
 ·rw [List.mem_append] at hn
  rcases hn with hn | hn
  ·exact h3' n hn
  ·exact hr n hn
theorem nums_join {f : Fr} (h : fok f = true) : joinOk (fnums f) = true := by
 unfold joinOk
 rw [List.all_eq_true]
 intro n hn
 have := nums_in h n hn
 simpa using vsize_ne this.1 this.2
theorem fbytes_le {f : Fr} (h : fok f = true) : (fbytes f).length ≤ 5000 := by
 obtain ⟨h1, h2, h3, h4, h5, h6, h7, h8, h9, -⟩ := fok_in h
 have a1 := flat_le (fnums f)
 have a2 := fnums_len f
 unfold fbytes
 rw [List.length_append, List.length_append]
 split
 ·rename_i hk
  have := h9 hk
  rw [zeros_len]; omega
 ·rw [List.length_nil]; omega
theorem flatB_le : ∀ (fs : List Fr), (∀ f ∈ fs, fok f = true) → (fs.flatMap fbytes).length ≤ 5000 * fs.length
 | [], _ => by simp
 | f :: fs, h => by
  have h1 := fbytes_le (h f (.head _))
  have h2 := flatB_le fs (fun x hx => h x (.tail _ hx))
  rw [List.flatMap_cons, List.length_append, List.length_cons]; omega
theorem flatB_snoc (fs : List Fr) (i : Nat) (h : i < fs.length) : (fs.take (i + 1)).flatMap fbytes = (fs.take i).flatMap fbytes ++ fbytes fs[i] := by
 rw [List.take_succ_eq_append_getElem h, List.flatMap_append]
 simp
theorem wrOk_not {fs : List Fr} {i : Nat} (h : i < fs.length) (hz : fok fs[i] = false) : wrOk fs = false := by
 have : fs.all fok = false := by
  rw [← Bool.not_eq_true, List.all_eq_true]
  intro h1
  have := h1 _ (List.getElem_mem h)
  rw [hz] at this
  cases this
 unfold wrOk
 rw [this, Bool.and_false]
end Go.Proofs.Ythieegnhjoehbaa
/- Frames' bytes: Write, walked. -/
namespace Go.Proofs.Ythieegnhjoehbaa
open Go.RowKit Go.Vc
set_option linter.unusedVariables false
set_option maxHeartbeats 4000000 in
theorem write_any (fs : List Fr) (v : Value) (w : World) (hv : FrsC (fun p x => w.cell? p = some x) v fs) (hbig : ∀ f ∈ fs, f.data.length ≤ 9223372036854775807) :
  Makes tb 21 [v] w fun u m' => ∃ base len cap e, u = .tuple #[.slice base len cap, .int .i64 (if wrOk fs = true then 0 else 20)] ∧ m' = [e] ∧
   SlIs ty5 5 e base len cap (row (if wrOk fs = true then fs.flatMap fbytes else [])) := by
 obtain ⟨base0, cap0, rfl, hcap0⟩ := hv.slice
 refine makes_of (fn := Try.f21) Try.func21 rfl Try.ntmps21 rfl ?_
 repeat refine c_seq ?_
 refine c_region ?_
 refine qa rfl rfl ?_
 refine step_hole ?_
 refine qa rfl rfl ?_
 refine step_nil ?_
 repeat refine c_seq ?_
 refine c_region ?_
 refine qm rfl rfl ?_
 refine step_pure rfl (pure_len_slice rfl rfl rfl) ?_
 refine step_pure rfl (pure_gtr rfl rfl) ?_
 refine step_nil ?_
 repeat refine c_seq ?_
 refine c_cond rfl (fun h => ?_) (fun h => ?_)
 ·have hno : wrOk fs = false := by
   have := of_decide_eq_true h
   unfold wrOk
   rw [show decide (fs.length ≤ 16) = false by simp; omega, Bool.false_and]
  rw [hno]
  repeat refine c_seq ?_
  refine c_region ?_
  refine qa rfl rfl ?_
  refine qa rfl rfl ?_
  refine step_nil ?_
  exact c_ret ⟨_, res_tmp2 Try.results21 rfl rfl, [hole], List.Sublist.refl _, none, 0, 0, hole, rfl, rfl, sl_nil _ _ (by decide)⟩
 ·have h16 : fs.length ≤ 16 := by have := of_decide_eq_false h; omega
  clear h
  refine c_skip ?_
  repeat refine c_seq ?_
  refine c_region ?_
  refine qm rfl rfl ?_
  refine step_pure rfl (pure_len_slice rfl rfl rfl) ?_
  refine qm rfl rfl ?_
  refine step_nil ?_
  repeat refine c_seq ?_
  refine c_block ?_
  repeat refine c_seq ?_
  refine c_loop (α := SlS × Nat) (fun x => [(2, .slice x.1.base x.1.len x.1.cap), (11, .slice base0 fs.length cap0), (12, .int .i64 fs.length), (13, .int .i64 x.2)]) (fun x => [x.1.e])
   (fun x => x.2 ≤ fs.length ∧ (∀ f ∈ fs.take x.2, fok f = true) ∧ SlIs ty5 5 x.1.e x.1.base x.1.len x.1.cap (row ((fs.take x.2).flatMap fbytes))) (fun x => fs.length - x.2) (⟨none, 0, 0, hole⟩, 0)
   ⟨Nat.zero_le _, by simp, sl_nil _ _ (by decide)⟩ (less_of ⟨rfl, rfl, rfl, rfl, trivial⟩ rfl) ?_
  rintro ⟨⟨base, len, cap, e⟩, i⟩ ⟨hi, hall, hs⟩
  dsimp only at hi hall hs ⊢
  have hle := flatB_le _ hall
  rw [List.length_take] at hle
  have hlen := hs.len
  rw [row_len] at hlen
  have hlen' : ((fs.take i).flatMap fbytes).length = len := by rw [hlen]; exact Nat.mul_one _
  clear hlen
  repeat refine c_seq ?_
  refine c_region ?_
  refine step_pure rfl (pure_lss rfl rfl) ?_
  refine step_nil ?_
  repeat refine c_seq ?_
  refine c_cond rfl (fun h => ?_) (fun h => ?_)
  ·have hlt : i < fs.length := by have := of_decide_eq_true h; omega
   clear h
   obtain ⟨p, cap1, cs, hq, hfc, hp⟩ := hv.at hlt
   cases hq
   have hfc' := fun w' (kp : Keep w w' []) => hfc.mono fun p x hp => cell_keep hp kp List.not_mem_nil
   have hsn := flatB_snoc fs i hlt
   have hnot := fun hz => wrOk_not hlt hz
   have hdb := hbig _ (List.getElem_mem hlt)
   have hmem : ∀ f ∈ fs.take (i + 1), f ∈ fs.take i ∨ f = fs[i] := by
    intro f hf
    rw [List.take_succ_eq_append_getElem hlt, List.mem_append] at hf
    rcases hf with hf | hf
    ·exact .inl hf
    ·exact .inr (by simpa using hf)
   have hcells : ∀ j x, cs[j]? = some x → Cel ⟨w, [], []⟩ ((p.add (i * 5)).add j) x := fun j x hx => ⟨hp j x hx, List.not_mem_nil⟩
   have h5 := hfc.five
   generalize fs[i] = f at *
   have hck := fun w' kp => check_any f _ w' (hfc' w' kp) hdb
   obtain ⟨rv, dv, rfl, hr0, hd0⟩ := hfc
   have hd1 := fun w' (kp : Keep w w' []) => slc_keep hd0 kp
   refine c_skip ?_
   repeat refine c_seq ?_
   refine c_block ?_
   repeat refine c_seq ?_
   refine c_region ?_
   refine step_as rfl (pure_indexAddr_at rfl rfl rfl rfl rfl (by omega) (by omega)) (show _ = Value.pointer (some (p.add (i * 5))) from by show Value.pointer (some (p.add ((i : Int).toNat * 5))) = _; rw [Int.toNat_natCast]) ?_
   refine step_pure rfl (pure_cel_agg rfl rfl rfl rfl hcells) ?_
   refine step_alloc rfl zero59 (fun b5 => ?_)
   refine step_store_agg 0 rfl rfl rfl ?_ rfl rfl rfl rfl (by show 5 ≤ 5; decide) (splice_all rfl) ?_
   ·intro v hv
    obtain ⟨_, _, rfl, _⟩ := hr0
    obtain ⟨_, _, rfl, _⟩ := hd0
    simp at hv
    rcases hv with rfl | rfl | rfl | rfl | rfl <;> rfl
   refine step_nil ?_
   repeat refine c_seq ?_
   refine c_region ?_
   refine step_pure rfl (pure_load_agg (i := 0) rfl rfl rfl rfl rfl (by show 5 ≤ 5; decide) rfl) ?_
   refine step_gives rfl fun43 rfl (fun w' _ kp => hck w' kp) ?_
   refine qa rfl rfl ?_
   refine step_nil ?_
   by_cases hk : fok f = true
   ·have hrl := (fok_in hk).2.2.2.2.2.2.1
    have hpad := (fok_in hk).2.2.2.2.2.2.2.2.1
    have hfl := fbytes_le hk
    have hdl := (fok_in hk).2.2.2.2.2.2.2.1
    have hnum := fun w' kp => numbers_any f _ w' (hfc' w' kp) (by omega) (by omega)
    have hnl := fnums_len f
    have hjo := nums_join hk
    have hfb : fbytes f = (fnums f).flatMap vb ++ f.data ++ (if f.kind = 0 then zeros f.a.toNat else []) := rfl
    have hA := flat_le (fnums f)
    generalize fnums f = ns at hnum hnl hjo hfb hA
    rw [if_pos hk]
    repeat refine c_seq ?_
    refine c_region ?_
    refine qm rfl rfl ?_
    refine step_as rfl (pure_neq rfl rfl) (show _ = Value.bool false from rfl) ?_
    refine step_nil ?_
    repeat refine c_seq ?_
    refine c_cond_no rfl rfl ?_
    refine c_skip ?_
    repeat refine c_seq ?_
    refine c_region ?_
    refine step_pure rfl (pure_load_agg (i := 0) rfl rfl rfl rfl rfl (by show 5 ≤ 5; decide) rfl) ?_
    refine step_makes rfl fun45 rfl (fun w' _ kp => hnum w' kp) ?_
    rintro u m' ⟨bn, cn, en, rfl, rfl, hsn1⟩
    refine step_makes rfl fun44 rfl (fun w' hh kp => join_any ns _ w' (slis_now (j := 0) hsn1 rfl w' hh kp) (by omega)) ?_
    rintro u m' ⟨bj, lj, cj, ej, rfl, rfl, hsj⟩
    rw [if_pos hjo] at hsj ⊢
    have hlj := hsj.len
    rw [row_len] at hlj
    have hlj' : (ns.flatMap vb).length = lj := by rw [hlj]; exact Nat.mul_one _
    clear hlj
    refine qm rfl rfl ?_
    refine qx rfl rfl rfl ?_
    refine qx rfl rfl rfl ?_
    refine qa rfl rfl ?_
    refine qa rfl rfl ?_
    refine step_nil ?_
    repeat refine c_seq ?_
    refine c_region ?_
    refine qm rfl rfl ?_
    refine step_as rfl (pure_neq rfl rfl) (show _ = Value.bool false from rfl) ?_
    refine step_nil ?_
    repeat refine c_seq ?_
    refine c_cond_no rfl rfl ?_
    refine c_skip ?_
    obtain ⟨db, dc, rfl, -, -, -⟩ := id hd0
    repeat refine c_seq ?_
    refine d_region2 [1, 9, 25, 35, 21, 44, 49] ([⟨b5, [.int .i64 f.kind, .int .i64 f.a, .int .i64 f.b, rv, .slice db f.data.length dc], 59⟩]) follows (by kernel_rfl) ?_
    refine qd rfl rfl rfl rfl ?_
    refine qd rfl rfl rfl rfl ?_
    refine d_pure0 rfl rfl rfl (pure_fieldAddr rfl rfl rfl rfl rfl (by decide)) ?_
    refine d_pure1 rfl rfl rfl (pure_load (i := 0) rfl rfl rfl rfl rfl rfl) (by exact (fun w hh => Has.sublist (by repeat (first | exact List.Sublist.refl _ | exact List.nil_sublist _ | apply List.Sublist.cons_cons | apply List.Sublist.cons)) hh)) ?_
    refine d_append2 3 rfl rfl rfl rfl hs rfl rfl rfl rfl rfl elem5 rfl (by decide) rfl rfl hsj.len (src_own (j := 0) hsj rfl) (row_one _) (by omega) (by omega) rfl (fun e' w hh => Has.sublist (by repeat (first | exact List.Sublist.refl _ | exact List.nil_sublist _ | apply List.Sublist.cons_cons | apply List.Sublist.cons)) hh) (fun base1 cap1 e1 hs1 => ?_)
    refine d_append 3 rfl rfl rfl rfl rfl hs1 rfl rfl rfl rfl rfl elem5 rfl (by decide) rfl rfl (by rw [row_len]; exact (Nat.mul_one _).symm) (src_slc fun w' _ kp => hd1 w' kp) (row_one _) (by omega) (by omega) rfl (fun base2 cap2 e2 hs2 => ?_)
    rw [row_app, row_app] at hs2
    refine d_pure0 rfl rfl rfl (pure_assign rfl) ?_
    refine d_nil ?_
    repeat refine c_seq ?_
    refine c_region ?_
    refine step_pure rfl (pure_fieldAddr rfl rfl rfl rfl rfl (by decide)) ?_
    refine step_pure rfl (pure_load (i := 2) rfl rfl rfl rfl rfl rfl) ?_
    refine step_pure rfl (pure_eql rfl rfl) ?_
    refine step_nil ?_
    have hfin : ∀ {B C : List Int} {b2 : Option Addr} {l2 c2 : Nat} {e2 : Ent}, SlIs ty5 5 e2 b2 l2 c2 (row B) → B = C → SlIs ty5 5 e2 b2 l2 c2 (row C) := fun h e => e ▸ h
    repeat refine c_seq ?_
    refine c_meetx (α := SlS) (fun z => [(2, .slice z.base z.len z.cap), (11, .slice (some p) fs.length cap0), (12, .int .i64 fs.length), (13, .int .i64 i)]) (fun z => [z.e])
     (fun z => SlIs ty5 5 z.e z.base z.len z.cap (row ((fs.take (i + 1)).flatMap fbytes))) ?_ ?_
    ·repeat refine c_seq ?_
     refine c_cond rfl (fun h => ?_) (fun h => ?_)
     ·have h0 : f.kind = 0 := eq_of_beq h
      have hpa := hpad h0
      obtain ⟨k, hka⟩ : ∃ k : Nat, f.a = k := ⟨f.a.toNat, by omega⟩
      rw [hka]
      rw [if_pos h0, hka, Int.toNat_natCast] at hfb
      repeat refine c_seq ?_
      refine c_region ?_
      refine qm rfl rfl ?_
      refine step_pure rfl (pure_fieldAddr rfl rfl rfl rfl rfl (by decide)) ?_
      refine step_pure rfl (pure_load (i := 2) rfl rfl rfl rfl rfl rfl) ?_
      refine step_append_z (k := k) 3 rfl rfl hs2 rfl rfl rfl rfl rfl elem5 rfl (by decide) rfl (by omega) (by intro v hv; simp at hv; subst hv; rfl) (by omega) (by omega) (fun base3 cap3 e3 hs3 => ?_)
      refine qa rfl rfl ?_
      refine step_nil ?_
      rw [zrow_u8, row_app] at hs3
      exact ⟨⟨base3, _, cap3, e3⟩, hfin hs3 (by rw [hsn, hfb]; simp [List.append_assoc]), less_sub ⟨rfl, rfl, rfl, rfl, trivial⟩ (by repeat (first | exact List.Sublist.refl _ | exact List.nil_sublist _ | apply List.Sublist.cons_cons | apply List.Sublist.cons))⟩
     ·have h0 : f.kind ≠ 0 := ne_of_beq_false h
      rw [if_neg h0, List.append_nil] at hfb
      exact c_skip ⟨⟨base2, _, cap2, e2⟩, hfin hs2 (by rw [hsn, hfb]; simp [List.append_assoc]), less_sub ⟨rfl, rfl, rfl, rfl, trivial⟩ (by repeat (first | exact List.Sublist.refl _ | exact List.nil_sublist _ | apply List.Sublist.cons_cons | apply List.Sublist.cons))⟩
    rintro ⟨base3, len3, cap3, e3⟩ hs3
    dsimp only at hs3 ⊢
    repeat refine c_seq ?_
    refine c_region ?_
    refine step_pure rfl (pure_add64 rfl rfl (by omega) (by omega)) ?_
    refine qm rfl rfl ?_
    refine step_nil ?_
    refine ⟨(⟨base3, len3, cap3, e3⟩, i + 1), ⟨hlt, fun x hx => ?_, hs3⟩, by dsimp only; omega, less_of ⟨rfl, rfl, rfl, rfl, trivial⟩ rfl⟩
    rcases hmem x hx with h | h
    ·exact hall x h
    ·rw [h]; exact hk
   ·rw [hnot (by simpa using hk), if_neg hk]
    repeat refine c_seq ?_
    refine c_region ?_
    refine qm rfl rfl ?_
    refine step_as rfl (pure_neq rfl rfl) (show _ = Value.bool true from rfl) ?_
    refine step_nil ?_
    repeat refine c_seq ?_
    refine c_cond_yes rfl rfl ?_
    repeat refine c_seq ?_
    refine c_region ?_
    refine qm rfl rfl ?_
    refine step_hole ?_
    refine qa rfl rfl ?_
    refine qa rfl rfl ?_
    refine step_nil ?_
    exact c_ret ⟨_, res_tmp2 Try.results21 rfl rfl, [hole], List.Sublist.cons_cons _ (List.nil_sublist _), none, 0, 0, hole, rfl, rfl, sl_nil _ _ (by decide)⟩
  ·have hie : i = fs.length := by have := of_decide_eq_false h; omega
   clear h
   rw [hie, List.take_length] at hs hall
   have hyes : wrOk fs = true := by
    unfold wrOk
    rw [Bool.and_eq_true, List.all_eq_true]
    exact ⟨by simpa using h16, hall⟩
   rw [hyes]
   refine c_exit ?_
   repeat refine c_seq ?_
   refine c_region ?_
   refine qm rfl rfl ?_
   refine qa rfl rfl ?_
   refine qa rfl rfl ?_
   refine step_nil ?_
   exact c_ret ⟨_, res_tmp2 Try.results21 rfl rfl, [e], List.Sublist.refl _, base, len, cap, e, rfl, rfl, hs⟩
end Go.Proofs.Ythieegnhjoehbaa
/- What a reader reads: number and data, walked. -/
namespace Go.Proofs.Ythieegnhjoehbaa
open Go.RowKit Go.Vc
set_option linter.unusedVariables false
theorem clone2_any (ns : List Int) (v : Value) (w : World) (hv : SlV w v (row ns)) (hn : ns.length ≤ 70368744177664) :
  Makes tb 90 [v] w fun u m' => ∃ base cap e, u = .slice base ns.length cap ∧ m' = [e] ∧ SlIs ty5 5 e base ns.length cap (row ns) := by
 obtain ⟨base0, cap0, rfl, hc⟩ := hv.is
 rw [row_len] at hv ⊢
 refine makes_of (fn := Try.f90) Try.func90 rfl Try.ntmps90 rfl ?_
 repeat refine c_seq ?_
 refine c_region ?_
 refine qa rfl rfl ?_
 refine step_hole ?_
 refine step_nil ?_
 repeat refine c_seq ?_
 refine c_region ?_
 refine qm rfl rfl ?_
 refine step_pure rfl (pure_nil_eql rfl rfl rfl rfl) ?_
 refine step_nil ?_
 repeat refine c_seq ?_
 refine c_cond rfl (fun h => ?_) (fun h => ?_)
 ·have h0 : ns = [] := by
   cases base0 with
   | some p => cases h
   | none =>
    cases ns with
    | nil => rfl
    | cons x l => obtain ⟨p, hp, _⟩ := hc (by simp [ints]); cases hp
  subst h0
  repeat refine c_seq ?_
  refine c_region ?_
  refine qa rfl rfl ?_
  refine step_nil ?_
  exact c_ret ⟨_, res_tmp Try.results90 rfl, _, List.Sublist.refl _, none, 0, hole, rfl, rfl, sl_nil _ _ (by decide)⟩
 ·refine c_skip ?_
  repeat refine c_seq ?_
  refine c_region ?_
  refine step_buildSlice0 rfl rfl rfl rfl (fun b5 => ?_)
  refine qm rfl rfl ?_
  refine step_append 0 rfl rfl (sl_empty _ _ b5) rfl rfl rfl rfl rfl elem5 rfl (by decide) rfl rfl (by rw [row_len]; exact (Nat.mul_one _).symm) (src_slc (k := ns.length) (fun w hh hk => by have := (slv_keep0 hv hk).slc; rw [row_len] at this; exact this)) (row_one _) (by omega) (by omega) (fun base' cap' e' hs' => ?_)
  rw [Nat.zero_add, List.nil_append] at hs'
  rw [Nat.zero_add]
  refine qa rfl rfl ?_
  refine step_nil ?_
  exact c_ret ⟨_, res_tmp Try.results90 rfl, [e'], (by show [e'].Sublist (_ :: _); exact List.Sublist.cons_cons _ (List.nil_sublist _)), base', cap', e', rfl, rfl, hs'⟩
theorem gS_le (b : List Int) (hb : Bytes b) : gS b ≤ b.length := by
 unfold gS
 cases h : gt b with
 | none => simp
 | some p =>
  obtain ⟨n, s⟩ := p
  exact (vb_gt hb h).2.2.2.1
theorem gE_ne (b : List Int) : (gE b != 0) = (gt b).isNone := by
 unfold gE
 cases (gt b).isNone <;> rfl
set_option maxHeartbeats 1000000 in
theorem number_any (b : List Int) (base : Option Addr) (cap blk T : Nat) (lost : Bool) (w : World) (hv : SlV w (.slice base b.length cap) (row b)) (hb : Bytes b) (hbl : b.length ≤ 140737488355328)
  (hnb : ∀ a, base = some a → a.block ≠ blk) (hc : w.heap[blk]? = some (.cells [Value.slice base b.length cap, Value.bool lost].toArray T (0, 0))) :
  Wr tb 81 [.pointer (some ⟨blk, 0, none⟩)] w blk T (fun v c' m1 => v = .int .i64 (gN b) ∧ c' = [subS base cap 1 (gS b) b.length, .bool (lost || (gt b).isNone)] ∧ m1 = []) := by
 refine wr_of (fn := Try.f81) Try.func81 rfl Try.ntmps81 rfl hc ?_
 have hget := fun w' (kp : Keep w w' [blk]) => get_any b _ w' (slv_keep hv kp (fun a l c h => by cases h; simpa using hnb _ rfl)) hb hbl
 have hS := gS_le b hb
 have hE := gE_ne b
 generalize (gt b).isNone = g at *
 repeat refine c_seq ?_
 refine c_region ?_
 refine qa rfl rfl ?_
 refine step_nil ?_
 repeat refine c_seq ?_
 refine c_region ?_
 refine qm rfl rfl ?_
 refine step_pure rfl (pure_nilCheck rfl) ?_
 refine step_pure rfl (pure_fieldAddr rfl rfl rfl rfl rfl (by decide)) ?_
 refine step_pure rfl (pure_load (i := 0) rfl rfl rfl rfl rfl rfl) ?_
 refine step_gives rfl fun56 rfl (fun w' _ kp => hget w' kp) ?_
 refine qm rfl rfl ?_
 refine qx rfl rfl rfl ?_
 refine qx rfl rfl rfl ?_
 refine qx rfl rfl rfl ?_
 refine qa rfl rfl ?_
 refine qa rfl rfl ?_
 refine qa rfl rfl ?_
 refine step_nil ?_
 clear hget
 repeat refine c_seq ?_
 refine c_meet [(0, .pointer (some ⟨blk, 0, none⟩)), (3, .int .i64 (gN b)), (4, .int .i64 (gS b))] [⟨blk, [.slice base b.length cap, .bool (lost || g)], T⟩] ?_ ?_
 ·repeat refine c_seq ?_
  refine c_region ?_
  refine qm rfl rfl ?_
  refine qm rfl rfl ?_
  refine step_pure rfl (pure_nilCheck rfl) ?_
  refine step_pure rfl (pure_fieldAddr rfl rfl rfl rfl rfl (by decide)) ?_
  refine step_pure rfl (pure_load (i := 0) rfl rfl rfl rfl rfl rfl) ?_
  refine qm rfl rfl ?_
  refine step_split (t := 20) rfl (fun h20 => ?_) (fun h20 => ?_)
  ·refine qp rfl rfl rfl ?_
   refine qp rfl rfl rfl ?_
   refine step_pure rfl (pure_pick_yes rfl rfl) ?_
   refine step_pure rfl (pure_nilCheck rfl) ?_
   refine step_pure rfl (pure_fieldAddr rfl rfl rfl rfl rfl (by decide)) ?_
   refine step_store 0 rfl rfl rfl rfl rfl rfl rfl rfl (by show 1 < 2; decide) rfl ?_
   refine step_nil ?_
   refine less_of ⟨rfl, rfl, rfl, trivial⟩ (congrArg (fun x => [Ent.mk blk [Value.slice base b.length cap, Value.bool x] T]) ?_)
   simp_all
  ·refine qm rfl rfl ?_
   refine step_as rfl (pure_neq rfl rfl) (show _ = Value.bool g from by rw [← hE]) ?_
   refine step_pure rfl (pure_pick_no rfl rfl) ?_
   refine step_pure rfl (pure_nilCheck rfl) ?_
   refine step_pure rfl (pure_fieldAddr rfl rfl rfl rfl rfl (by decide)) ?_
   refine step_store 0 rfl rfl rfl rfl rfl rfl rfl rfl (by show 1 < 2; decide) rfl ?_
   refine step_nil ?_
   refine less_of ⟨rfl, rfl, rfl, trivial⟩ (congrArg (fun x => [Ent.mk blk [Value.slice base b.length cap, Value.bool x] T]) ?_)
   simp_all
 repeat refine c_seq ?_
 refine c_region ?_
 refine qm rfl rfl ?_
 refine qm rfl rfl ?_
 refine step_pure rfl (pure_nilCheck rfl) ?_
 refine step_pure rfl (pure_fieldAddr rfl rfl rfl rfl rfl (by decide)) ?_
 refine step_pure rfl (pure_load (i := 0) rfl rfl rfl rfl rfl rfl) ?_
 refine qm rfl rfl ?_
 refine step_as rfl (pure_sub_lo rfl rfl rfl rfl rfl (by omega) (by omega)) (show _ = subS base cap 1 (gS b) b.length from rfl) ?_
 refine step_pure rfl (pure_nilCheck rfl) ?_
 refine step_pure rfl (pure_fieldAddr rfl rfl rfl rfl rfl (by decide)) ?_
 refine step_store 0 rfl rfl rfl rfl rfl rfl rfl rfl (by show 0 < 2; decide) rfl ?_
 refine step_nil ?_
 repeat refine c_seq ?_
 refine c_region ?_
 refine qm rfl rfl ?_
 refine qa rfl rfl ?_
 refine step_nil ?_
 exact c_ret ⟨_, res_tmp Try.results81 rfl, _, [], List.Sublist.refl _, by simp, rfl, rfl, rfl⟩
def dK (b : List Int) (n : Int) : Nat := if 0 ≤ n ∧ n ≤ b.length then n.toNat else 0
def dBad (b : List Int) (n : Int) : Bool := !(decide (0 ≤ n) && decide (n ≤ b.length))
set_option maxHeartbeats 1000000 in
theorem data_any (b : List Int) (n : Int) (base : Option Addr) (cap blk T : Nat) (lost : Bool) (w : World) (hv : SlV w (.slice base b.length cap) (row b)) (hb : Bytes b) (hbl : b.length ≤ 70368744177664)
  (hnb : ∀ a, base = some a → a.block ≠ blk) (hc : w.heap[blk]? = some (.cells [Value.slice base b.length cap, Value.bool lost].toArray T (0, 0))) :
  Wr tb 82 [.pointer (some ⟨blk, 0, none⟩), .int .i64 n] w blk T (fun v c' m1 => ∃ base' cap' e, v = .slice base' (dK b n) cap' ∧ c' = [subS base cap 1 (dK b n) b.length, .bool (lost || dBad b n)] ∧ m1 = [e] ∧
   SlIs ty5 5 e base' (dK b n) cap' (row (b.take (dK b n)))) := by
 have hroom : b.length ≤ cap := hv.room _ _ _ rfl
 refine wr_of (fn := Try.f82) Try.func82 rfl Try.ntmps82 rfl hc ?_
 have hkl : dK b n ≤ b.length := by unfold dK; split <;> omega
 have hgood : dBad b n = false → n = (dK b n : Int) := by
  intro h
  unfold dBad at h
  simp at h
  unfold dK
  rw [if_pos h]
  omega
 have hbad : dBad b n = true → dK b n = 0 := by
  intro h
  unfold dBad at h
  unfold dK
  simp at h
  rw [if_neg (by omega)]
 have hdb : dBad b n = !(decide (0 ≤ n) && decide (n ≤ b.length)) := rfl
 have hsub : SlV w (subS base cap 1 0 (dK b n)) (row (b.take (dK b n))) := by
  have := slv_sub (lo := 0) (hi := dK b n) hv (by omega) (by omega)
  rw [ints_sub] at this
  simpa using this
 repeat refine c_seq ?_
 refine c_region ?_
 refine qa rfl rfl ?_
 refine step_nil ?_
 repeat refine c_seq ?_
 refine c_meet [(0, .pointer (some ⟨blk, 0, none⟩)), (1, .int .i64 n), (16, .bool (dBad b n))] [⟨blk, [.slice base b.length cap, .bool lost], T⟩] ?_ ?_
 ·repeat refine c_seq ?_
  refine c_region ?_
  refine qm rfl rfl ?_
  refine step_pure rfl (pure_lss rfl rfl) ?_
  refine qm rfl rfl ?_
  refine step_split (t := 8) rfl (fun h8 => ?_) (fun h8 => ?_)
  ·refine qp rfl rfl rfl ?_
   refine qp rfl rfl rfl ?_
   refine qp rfl rfl rfl ?_
   refine qp rfl rfl rfl ?_
   refine qp rfl rfl rfl ?_
   refine qp rfl rfl rfl ?_
   refine qp rfl rfl rfl ?_
   refine step_pure rfl (pure_pick_yes rfl rfl) ?_
   refine step_nil ?_
   refine less_of ⟨rfl, rfl, congrArg some (congrArg Value.bool ?_), trivial⟩ rfl
   rw [hdb, Bool.eq_iff_iff]
   clear hdb hgood hbad hsub hv hnb hc hkl
   simp_all <;> omega
  ·refine qm rfl rfl ?_
   refine qm rfl rfl ?_
   refine step_pure rfl (pure_nilCheck rfl) ?_
   refine step_pure rfl (pure_fieldAddr rfl rfl rfl rfl rfl (by decide)) ?_
   refine step_pure rfl (pure_load (i := 0) rfl rfl rfl rfl rfl rfl) ?_
   refine step_pure rfl (pure_len_slice rfl rfl rfl) ?_
   refine step_pure rfl (pure_gtr rfl rfl) ?_
   refine step_pure rfl (pure_pick_no rfl rfl) ?_
   refine step_nil ?_
   refine less_of ⟨rfl, rfl, congrArg some (congrArg Value.bool ?_), trivial⟩ rfl
   rw [hdb, Bool.eq_iff_iff]
   clear hdb hgood hbad hsub hv hnb hc hkl
   simp_all <;> omega
 generalize dBad b n = bad at *
 generalize hk : dK b n = k at *
 repeat refine c_seq ?_
 refine c_meet [(0, .pointer (some ⟨blk, 0, none⟩)), (1, .int .i64 k)] [⟨blk, [.slice base b.length cap, .bool (lost || bad)], T⟩] ?_ ?_
 ·repeat refine c_seq ?_
  refine c_cond rfl (fun h => ?_) (fun h => ?_)
  ·rw [hbad h, h, Bool.or_true]
   repeat refine c_seq ?_
   refine c_region ?_
   refine qm rfl rfl ?_
   refine step_pure rfl (pure_nilCheck rfl) ?_
   refine step_pure rfl (pure_fieldAddr rfl rfl rfl rfl rfl (by decide)) ?_
   refine step_store 0 rfl rfl rfl rfl rfl rfl rfl rfl (by show 1 < 2; decide) rfl ?_
   refine qa rfl rfl ?_
   refine step_nil ?_
   exact less_of ⟨rfl, rfl, trivial⟩ rfl
  ·rw [h, Bool.or_false]
   exact c_skip (less_of ⟨rfl, by show some (Value.int .i64 n) = some (Value.int .i64 k); rw [← hgood h], trivial⟩ rfl)
 have htl : (b.take k).length = k := by rw [List.length_take]; omega
 have hsub2 := fun w' (kp : Keep w w' [blk]) => clone2_any (b.take k) _ w' (slv_keep hsub kp (fun a l c h => by
  unfold subS at h
  cases base with
  | none => simp at h
  | some p =>
   have hp := hnb p rfl
   have : a = p ∨ a = p.add (0 * 1) := by
    split at h <;> simp at h <;> simp [h]
   rcases this with rfl | rfl
   ·simpa using hp
   ·simpa [Addr.add] using hp)) (by omega)
 rw [htl] at hsub2
 repeat refine c_seq ?_
 refine c_region ?_
 refine qm rfl rfl ?_
 refine step_pure rfl (pure_nilCheck rfl) ?_
 refine step_pure rfl (pure_fieldAddr rfl rfl rfl rfl rfl (by decide)) ?_
 refine step_pure rfl (pure_load (i := 0) rfl rfl rfl rfl rfl rfl) ?_
 refine qm rfl rfl ?_
 refine step_as rfl (pure_sub_hi rfl rfl rfl rfl rfl (by omega) (by omega)) (show _ = subS base cap 1 0 k from rfl) ?_
 refine step_makes rfl fun90 rfl (fun w' _ kp => hsub2 w' kp) ?_
 rintro u m' ⟨base1, cap1, e1, rfl, rfl, hs1⟩
 refine qa rfl rfl ?_
 refine step_nil ?_
 repeat refine c_seq ?_
 refine c_region ?_
 refine qm rfl rfl ?_
 refine qm rfl rfl ?_
 refine step_pure rfl (pure_nilCheck rfl) ?_
 refine step_pure rfl (pure_fieldAddr rfl rfl rfl rfl rfl (by decide)) ?_
 refine step_pure rfl (pure_load (i := 1) rfl rfl rfl rfl rfl rfl) ?_
 refine qm rfl rfl ?_
 refine step_as rfl (pure_sub_lo rfl rfl rfl rfl rfl (by omega) (by omega)) (show _ = subS base cap 1 k b.length from rfl) ?_
 refine step_pure rfl (pure_nilCheck rfl) ?_
 refine step_pure rfl (pure_fieldAddr rfl rfl rfl rfl rfl (by decide)) ?_
 refine step_store 1 rfl rfl rfl rfl rfl rfl rfl rfl (by show 0 < 2; decide) rfl ?_
 refine step_nil ?_
 repeat refine c_seq ?_
 refine c_region ?_
 refine qm rfl rfl ?_
 refine qa rfl rfl ?_
 refine step_nil ?_
 exact c_ret ⟨_, res_tmp Try.results82 rfl, _, [e1], List.Sublist.refl _, by simp, base1, cap1, e1, rfl, rfl, rfl, hs1⟩
end Go.Proofs.Ythieegnhjoehbaa
/- What a reader reads: a frame. Plain, and the steps. -/
namespace Go.Proofs.Ythieegnhjoehbaa
open Go.RowKit Go.Vc
set_option linter.unusedVariables false
abbrev St := List Int × Bool
def rdN (s : St) : Int × St := (gN s.1, (s.1.drop (gS s.1), s.2 || (gt s.1).isNone))
def rdD (s : St) (n : Int) : List Int × St := (s.1.take (dK s.1 n), (s.1.drop (dK s.1 n), s.2 || dBad s.1 n))
def rdRs (s : St) : Nat → List (Int × Int) × St
 | 0 => ([], s)
 | k + 1 => ((rdRs s k).1 ++ [((rdN (rdRs s k).2).1, (rdN (rdN (rdRs s k).2).2).1)], (rdN (rdN (rdRs s k).2).2).2)
def rdA (s : St) : Int × St := if (rdN s).1 = 1 then (0, (rdN s).2) else rdN (rdN s).2
def rdB (s : St) : Int × St := if wantB (rdN s).1 = true then rdN (rdA s).2 else (0, (rdA s).2)
def rdR (s : St) : List (Int × Int) × St := if wantR (rdN s).1 = true then rdRs (rdN (rdB s).2).2 (min (rdN (rdB s).2).1 17).toNat else ([], (rdB s).2)
def rdT (s : St) : List Int × St := if wantD (rdN s).1 = true then rdD (rdN (rdR s).2).2 (rdN (rdR s).2).1 else ([], (rdR s).2)
def rdZ (s : St) : St := if (rdN s).1 = 0 then ((rdD (rdT s).2 (rdA s).1).2.1, (rdD (rdT s).2 (rdA s).1).2.2 || (rdD (rdT s).2 (rdA s).1).1.any (· != 0)) else (rdT s).2
def rdFrame (s : St) : Fr := ⟨(rdN s).1, (rdA s).1, (rdB s).1, (rdR s).1, (rdT s).1⟩
theorem rdRs_len (s : St) (k : Nat) : (rdRs s k).1.length = k := by
 induction k with
 | zero => rfl
 | succ k ih => simp [rdRs, ih]
theorem gN_nonneg (b : List Int) (hb : Bytes b) : 0 ≤ gN b := by
 unfold gN
 cases h : gt b with
 | none => exact Int.le_refl 0
 | some p => obtain ⟨n, s⟩ := p; exact (vb_gt hb h).1
/-- Where a reader stands. -/
structure Src (w : World) (blk : Nat) (base : Option Addr) (cap : Nat) (b : List Int) : Prop where
 slv : SlV w (.slice base b.length cap) (row b)
 bytes : Bytes b
 le : b.length ≤ 70368744177664
 apart : ∀ a, base = some a → a.block ≠ blk
theorem Src.keep {w w' : World} {blk : Nat} {base : Option Addr} {cap : Nat} {b : List Int} (h : Src w blk base cap b) (k : Keep w w' [blk]) : Src w' blk base cap b :=
 ⟨slv_keep h.slv k (fun a l c he => by cases he; simpa using h.apart _ rfl), h.bytes, h.le, h.apart⟩
theorem Src.drop {w : World} {blk : Nat} {base : Option Addr} {cap : Nat} {b : List Int} (h : Src w blk base cap b) {k : Nat} (hk : k ≤ b.length) :
  ∃ base' cap', subS base cap 1 k b.length = .slice base' (b.drop k).length cap' ∧ Src w blk base' cap' (b.drop k) := by
 have hs := slv_sub (lo := k) (hi := b.length) h.slv hk (Nat.le_refl _)
 rw [ints_sub, List.take_of_length_le (by rw [List.length_drop]; omega)] at hs
 have e : subS base cap 1 k b.length = .slice (if cap = k then base else base.map (·.add (k * 1))) (b.drop k).length (cap - k) := by unfold subS; rw [List.length_drop]
 rw [e] at hs
 refine ⟨_, _, e, hs, fun x hx => h.bytes x (List.mem_of_mem_drop hx), by rw [List.length_drop]; have := h.le; omega, fun a ha => ?_⟩
 cases base with
 | none => simp at ha
 | some p =>
  have hp := h.apart p rfl
  have : a = p ∨ a = p.add (k * 1) := by
   split at ha <;> simp at ha <;> simp [ha]
  rcases this with rfl | rfl
  ·exact hp
  ·have hb : (p.add (k * 1)).block = p.block := by unfold Addr.add; split <;> rfl
   rw [hb]; exact hp
/-- A number is read. -/
theorem number_at {w w' : World} {blk T : Nat} {base base' : Option Addr} {cap cap' : Nat} {b : List Int} {lost : Bool} (h : Src w blk base cap b) (k : Keep w w' [blk])
  (hc : w'.heap[blk]? = some (.cells [Value.slice base b.length cap, Value.bool lost].toArray T (0, 0))) (hq : subS base cap 1 (gS b) b.length = .slice base' (b.drop (gS b)).length cap') :
  Wr tb 81 [.pointer (some ⟨blk, 0, none⟩)] w' blk T (fun v c' m1 => v = .int .i64 (rdN (b, lost)).1 ∧ c' = [.slice base' (rdN (b, lost)).2.1.length cap', .bool (rdN (b, lost)).2.2] ∧ m1 = []) := by
 have h' := h.keep k
 have := number_any b base cap blk T lost w' h'.slv h'.bytes (by have := h'.le; omega) h'.apart hc
 rw [hq] at this
 exact this
theorem data_at {w w' : World} {blk T : Nat} {base base' : Option Addr} {cap cap' : Nat} {b : List Int} {n : Int} {lost : Bool} (h : Src w blk base cap b) (k : Keep w w' [blk])
  (hc : w'.heap[blk]? = some (.cells [Value.slice base b.length cap, Value.bool lost].toArray T (0, 0))) (hq : subS base cap 1 (dK b n) b.length = .slice base' (b.drop (dK b n)).length cap') :
  Wr tb 82 [.pointer (some ⟨blk, 0, none⟩), .int .i64 n] w' blk T (fun v c' m1 => ∃ bd cd ed, v = .slice bd (dK b n) cd ∧ c' = [.slice base' (rdD (b, lost) n).2.1.length cap', .bool (rdD (b, lost) n).2.2] ∧ m1 = [ed] ∧
   SlIs ty5 5 ed bd (dK b n) cd (row (rdD (b, lost) n).1)) := by
 have h' := h.keep k
 have := data_any b n base cap blk T lost w' h'.slv h'.bytes h'.le h'.apart hc
 rw [hq] at this
 exact this
theorem dK_le (b : List Int) (n : Int) : dK b n ≤ b.length := by unfold dK; split <;> omega
end Go.Proofs.Ythieegnhjoehbaa
