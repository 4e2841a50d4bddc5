/- Frames read: Read, walked. -/
import Derived.Test.YtphpmallnlajjaaF15
import Derived.Test.YtphpmallnlajjaaVy
namespace Go.Proofs.Ytphpmallnlajjaa
open Go.RowKit Go.Vc
set_option linter.unusedVariables false

def rdGo : Nat → List Int → List Fr → Option (List Fr)
  | 0, _, _ => none
  | k + 1, b, l => if b.length = 0 then some l else if ((rdZ (b, false)).2 || (!fok (rdFrame (b, false)) || ((l.length : Int) == 16))) = true then none else rdGo k (rdZ (b, false)).1 (l ++ [rdFrame (b, false)])
def rdAll (b : List Int) : Option (List Fr) := rdGo 17 b []

/-! no more than there is -/
theorem rdN_le (s : St) : (rdN s).2.1.length ≤ s.1.length := by
  show (s.1.drop _).length ≤ _
  rw [List.length_drop]; omega
theorem rdD_le (s : St) (n : Int) : (rdD s n).2.1.length ≤ s.1.length := by
  show (s.1.drop _).length ≤ _
  rw [List.length_drop]; omega
theorem rdRs_le (s : St) (k : Nat) : (rdRs s k).2.1.length ≤ s.1.length := by
  induction k with
  | zero => exact Nat.le_refl _
  | succ k ih => exact Nat.le_trans (rdN_le _) (Nat.le_trans (rdN_le _) ih)
theorem rdA_le (s : St) : (rdA s).2.1.length ≤ s.1.length := by
  unfold rdA
  split
  · exact rdN_le s
  · exact Nat.le_trans (rdN_le _) (rdN_le s)
theorem rdB_le (s : St) : (rdB s).2.1.length ≤ s.1.length := by
  unfold rdB
  split
  · exact Nat.le_trans (rdN_le _) (rdA_le s)
  · exact rdA_le s
theorem rdR_le (s : St) : (rdR s).2.1.length ≤ s.1.length := by
  unfold rdR
  split
  · exact Nat.le_trans (rdRs_le _ _) (Nat.le_trans (rdN_le _) (rdB_le s))
  · exact rdB_le s
theorem rdT_le (s : St) : (rdT s).1.length ≤ s.1.length := by
  unfold rdT
  split
  · rw [rdD_len]
    exact Nat.le_trans (dK_le _ _) (Nat.le_trans (rdN_le _) (rdR_le s))
  · exact Nat.zero_le _

/-! frames that were read: each with its blocks -/
structure FrX where
  f : Fr
  rb : Option Addr
  rc : Nat
  db : Option Addr
  dc : Nat
  er : Ent
  ed : Ent
def FrX.cells (x : FrX) : List Value := [.int .i64 x.f.kind, .int .i64 x.f.a, .int .i64 x.f.b, .slice x.rb x.f.rs.length x.rc, .slice x.db x.f.data.length x.dc]
structure FrX.Ok (x : FrX) : Prop where
  rs : SlIs ty45 45 x.er x.rb x.f.rs.length x.rc (rgCells x.f.rs)
  data : SlIs ty5 5 x.ed x.db x.f.data.length x.dc (row x.f.data)
def ents (L : List FrX) : Mem := L.reverse.flatMap fun x => [x.ed, x.er]
theorem ents_snoc (L : List FrX) (x : FrX) : ents (L ++ [x]) = x.ed :: x.er :: ents L := by
  unfold ents
  rw [List.reverse_append, List.flatMap_append]
  rfl
theorem cells_snoc (L : List FrX) (x : FrX) : (L ++ [x]).flatMap FrX.cells = L.flatMap FrX.cells ++ x.cells := by
  rw [List.flatMap_append]
  simp
theorem rowOf_fr : rowOf [Value.int .i64 0, .int .i64 0, .int .i64 0, .slice none 0 0, .slice none 0 0] (1 * 5) = [Value.int .i64 0, .int .i64 0, .int .i64 0, .slice none 0 0, .slice none 0 0] := by kernel_rfl
theorem fill_fr (x1 x2 x3 x4 x5 : Value) : fillL (fun i => some (i * ty33.size, ty33.size)) (rowOf [Value.int .i64 0, .int .i64 0, .int .i64 0, .slice none 0 0, .slice none 0 0] (1 * ty33.size)) [(0, .agg [x1, x2, x3, x4, x5].toArray)] = some [x1, x2, x3, x4, x5] := by
  rw [show 1 * ty33.size = 1 * 5 from rfl, rowOf_fr]
  rfl
structure RdX where
  b : List Int
  base : Option Addr
  cap : Nat
  L : List FrX
  sb : Option Addr
  sc : Nat
  se : Ent

set_option maxHeartbeats 4000000 in
theorem read_any (b : List Int) (base : Option Addr) (cap : Nat) (w : World) (hv : SlV w (.slice base b.length cap) (row b)) (hb : Bytes b) (hle : b.length ≤ 70368744177664) :
    Makes tb 19 [.slice base b.length cap] w fun u m' => ∃ base' cap' es L, u = .tuple #[.slice base' L.length cap', .int .i64 (if (rdAll b).isSome = true then 0 else 20)] ∧ m' = es :: ents L ∧
      L.map FrX.f = (rdAll b).getD [] ∧ (∀ x ∈ L, x.Ok) ∧ SlIs ty33 33 es base' L.length cap' (L.flatMap FrX.cells) := by
  refine makes_of (fn := Try.f19) Try.func19 rfl Try.ntmps19 rfl ?_
  repeat refine c_seq ?_
  refine c_region ?_
  refine step_pure rfl (pure_assign rfl) ?_
  refine step_hole ?_
  refine step_pure rfl (pure_assign rfl) ?_
  refine step_nil ?_
  repeat refine c_seq ?_
  refine c_region ?_
  refine step_pure rfl (pure_move rfl) ?_
  refine step_pure rfl (pure_build_struct (pl := [(0, 1), (1, 1)]) rfl zero57 rfl rfl rfl rfl) ?_
  refine step_pure rfl (pure_build_struct (pl := [(0, 2)]) rfl zero59 rfl rfl rfl rfl) ?_
  refine step_box_agg rfl rfl (fun b9 => ?_)
  refine id ?_
  refine step_pure rfl (pure_assign rfl) ?_
  refine step_nil ?_
  refine c_own 0 rfl (List.cons_ne_nil _ _) fun hown => ?_
  have S0 : b ≠ [] → Src w b9 base cap b := fun hne => ⟨hv, hb, hle, fun a ha => by
    have h1 := slv_lt hv (by intro h; exact hne (List.eq_nil_of_length_eq_zero (by rw [← row_len, h]; rfl))) a ha
    rcases hown with h2 | h2
    · have h2 : w.heap.size ≤ b9 := h2
      omega
    · cases h2⟩
  repeat refine c_seq ?_
  refine c_block ?_
  repeat refine c_seq ?_
  refine c_loop (α := RdX) (fun x => [(2, .slice x.sb x.L.length x.sc), (4, .pointer (some ⟨b9, 0, none⟩))]) (fun x => x.se :: ⟨b9, [.slice x.base x.b.length x.cap, .bool false], 59⟩ :: ents x.L)
    (fun x => x.L.length ≤ 16 ∧ rdGo (17 - x.L.length) x.b (x.L.map FrX.f) = rdAll b ∧ (x.b ≠ [] → Src w b9 x.base x.cap x.b) ∧ (∀ y ∈ x.L, y.Ok) ∧ SlIs ty33 33 x.se x.sb x.L.length x.sc (x.L.flatMap FrX.cells))
    (fun x => 17 - x.L.length) ⟨b, base, cap, [], none, 0, hole⟩ ⟨Nat.zero_le _, rfl, S0, by simp, sl_nil _ _ (by decide)⟩ (less_perm ⟨rfl, rfl, trivial⟩ (List.Sublist.refl _) (List.Perm.swap ..)) ?_
  clear S0 hown
  rintro ⟨b1, base, cap, L, sb, sc, se⟩ ⟨hL, hgo, S, hall, hs⟩
  dsimp only at hL hgo S hall hs ⊢
  rw [← hgo]
  clear hgo
  obtain ⟨k, hk⟩ : ∃ k, 17 - L.length = k + 1 := ⟨16 - L.length, by omega⟩
  have hgo : rdGo (k + 1) b1 (L.map FrX.f) = if b1.length = 0 then some (L.map FrX.f) else if ((rdZ (b1, false)).2 || (!fok (rdFrame (b1, false)) || (((L.map FrX.f).length : Int) == 16))) = true then none else rdGo k (rdZ (b1, false)).1 (L.map FrX.f ++ [rdFrame (b1, false)]) := rfl
  rw [hk, hgo, List.length_map]
  clear hgo
  repeat refine c_seq ?_
  refine c_region ?_
  refine step_pure rfl (pure_move rfl) ?_
  refine step_pure rfl (pure_nilCheck rfl) ?_
  refine step_pure rfl (pure_fieldAddr rfl rfl rfl rfl rfl (by decide)) ?_
  refine step_pure rfl (pure_fieldAddr rfl rfl rfl rfl rfl (by decide)) ?_
  first | refine step_pure rfl (pure_load (i := 0) rfl rfl rfl rfl rfl rfl) ?_ | refine step_pure rfl (pure_load (i := 1) rfl rfl rfl rfl rfl rfl) ?_ | refine step_pure rfl (pure_load (i := 2) rfl rfl rfl rfl rfl rfl) ?_ | refine step_pure rfl (pure_load (i := 3) rfl rfl rfl rfl rfl rfl) ?_ | refine step_pure rfl (pure_load (i := 4) rfl rfl rfl rfl rfl rfl) ?_ | refine step_pure rfl (pure_load (i := 5) rfl rfl rfl rfl rfl rfl) ?_
  refine step_pure rfl (pure_len_slice rfl rfl rfl) ?_
  refine step_pure rfl (pure_gtr rfl rfl) ?_
  refine step_nil ?_
  repeat refine c_seq ?_
  refine c_cond rfl (fun h => ?_) (fun h => ?_)
  · have h0 : b1.length ≠ 0 := by have := of_decide_eq_true h; omega
    clear h
    rw [if_neg h0]
    have S := S (by intro h; exact h0 (by rw [h]; rfl))
    refine c_skip ?_
    repeat refine c_seq ?_
    refine c_block ?_
    repeat refine c_seq ?_
    refine c_region ?_
    refine step_pure rfl (pure_move rfl) ?_
    refine step_wr 1 rfl fun31 rfl rfl (by simp) (fun w' hh kp => frame_any b1 false base cap b9 w w' S (kp.mono (by simp)) (hh.cell (e := ⟨b9, [.slice base b1.length cap, .bool false], 59⟩) (nth_mem (i := 1) rfl) (by simp))) ?_
    rintro v c' m1 ⟨rb, rc, er, db, dc, ed, base', cap', rfl, rfl, rfl, hsr, hsd, S'⟩
    refine step_alloc rfl zero33 (fun b5 => ?_)
    refine id ?_
    refine step_store_agg 0 rfl rfl rfl (by intro v hv; simp at hv; rcases hv with rfl | rfl | rfl | rfl | rfl <;> rfl) rfl rfl rfl rfl (by show 5 ≤ 5; decide) (splice_all rfl) ?_
    refine step_nil ?_
    have hdl := Nat.le_trans (rdT_le (b1, false)) S.le
    have hdf : (rdT (b1, false)).1 = (rdFrame (b1, false)).data := rfl
    rw [hdf] at hdl
    clear hdf
    generalize rdZ (b1, false) = Z at *
    generalize rdFrame (b1, false) = f at *
    have hck := fun w' (hh : Has w' (⟨b5, [.int .i64 f.kind, .int .i64 f.a, .int .i64 f.b, .slice rb f.rs.length rc, .slice db f.data.length dc], 33⟩ :: ed :: er :: se :: ⟨b9, [.slice base' Z.1.length cap', .bool Z.2], 59⟩ :: ents L)) (kp : Keep w w' []) =>
      check_any f [.int .i64 f.kind, .int .i64 f.a, .int .i64 f.b, .slice rb f.rs.length rc, .slice db f.data.length dc] w' ⟨_, _, rfl, slis_now (E := ⟨w, [], []⟩) (j := 2) hsr rfl w' hh kp, slis_now (E := ⟨w, [], []⟩) (j := 1) hsd rfl w' hh kp⟩ (by omega)
    have hx : FrX.Ok ⟨f, rb, rc, db, dc, er, ed⟩ := ⟨hsr, hsd⟩
    repeat refine c_seq ?_
    repeat refine c_seq ?_
    refine c_meet [(2, .slice sb L.length sc), (4, .pointer (some ⟨b9, 0, none⟩)), (5, .pointer (some ⟨b5, 0, none⟩)), (33, .bool (Z.2 || (!fok f || ((L.length : Int) == 16))))]
      (⟨b5, [.int .i64 f.kind, .int .i64 f.a, .int .i64 f.b, .slice rb f.rs.length rc, .slice db f.data.length dc], 33⟩ :: ed :: er :: se :: ⟨b9, [.slice base' Z.1.length cap', .bool Z.2], 59⟩ :: ents L) ?_ ?_
    · generalize fok f = ck at *
      repeat refine c_seq ?_
      refine c_region ?_
      refine step_pure rfl (pure_move rfl) ?_
      refine step_pure rfl (pure_nilCheck rfl) ?_
      refine step_pure rfl (pure_fieldAddr rfl rfl rfl rfl rfl (by decide)) ?_
      refine step_pure rfl (pure_fieldAddr rfl rfl rfl rfl rfl (by decide)) ?_
      first | refine step_pure rfl (pure_load (i := 0) rfl rfl rfl rfl rfl rfl) ?_ | refine step_pure rfl (pure_load (i := 1) rfl rfl rfl rfl rfl rfl) ?_ | refine step_pure rfl (pure_load (i := 2) rfl rfl rfl rfl rfl rfl) ?_ | refine step_pure rfl (pure_load (i := 3) rfl rfl rfl rfl rfl rfl) ?_ | refine step_pure rfl (pure_load (i := 4) rfl rfl rfl rfl rfl rfl) ?_ | refine step_pure rfl (pure_load (i := 5) rfl rfl rfl rfl rfl rfl) ?_
      refine step_pure rfl (pure_move rfl) ?_
      refine step_split (t := 24) rfl (fun h24 => ?_) (fun h24 => ?_)
      · refine step_pass rfl rfl rfl ?_
        refine step_pass rfl rfl rfl ?_
        refine step_pass rfl rfl rfl ?_
        refine step_pure rfl (pure_pick_yes rfl rfl) ?_
        refine step_pure rfl (pure_move rfl) ?_
        refine step_pass rfl rfl rfl ?_
        refine step_pass rfl rfl rfl ?_
        refine step_pass rfl rfl rfl ?_
        refine step_pure rfl (pure_pick_yes rfl rfl) ?_
        refine step_nil ?_
        refine less_of ⟨rfl, rfl, rfl, ?_, trivial⟩ rfl
        refine congrArg some (congrArg Value.bool ?_)
        clear hck hx
        simp_all
      · refine step_pure rfl (pure_load_agg (i := 0) rfl rfl rfl rfl rfl (by show 5 ≤ 5; decide) rfl) ?_
        refine step_gives rfl fun15 rfl (fun w' hh kp => hck w' hh kp) ?_
        refine step_pure rfl (pure_neq rfl rfl) ?_
        refine step_pure rfl (pure_pick_no rfl rfl) ?_
        refine step_pure rfl (pure_move rfl) ?_
        refine step_split (t := 29) rfl (fun h29 => ?_) (fun h29 => ?_)
        · refine step_pass rfl rfl rfl ?_
          refine step_pass rfl rfl rfl ?_
          refine step_pass rfl rfl rfl ?_
          refine step_pure rfl (pure_pick_yes rfl rfl) ?_
          refine step_nil ?_
          refine less_of ⟨rfl, rfl, rfl, ?_, trivial⟩ rfl
          refine congrArg some (congrArg Value.bool ?_)
          clear hck hx
          simp_all
        · refine step_pure rfl (pure_move rfl) ?_
          refine step_pure rfl (pure_len_slice rfl rfl rfl) ?_
          refine step_pure rfl (pure_eql rfl rfl) ?_
          refine step_pure rfl (pure_pick_no rfl rfl) ?_
          refine step_nil ?_
          refine less_of ⟨rfl, rfl, rfl, ?_, trivial⟩ rfl
          refine congrArg some (congrArg Value.bool ?_)
          clear hck hx
          simp_all
    clear hck
    have h16 : (Z.2 || (!fok f || ((L.length : Int) == 16))) = false → L.length ≠ 16 ∧ Z.2 = false := by
      intro h
      simp at h
      exact ⟨by omega, h.1⟩
    generalize (Z.2 || (!fok f || ((L.length : Int) == 16))) = bad at *
    by_cases hbad : bad = true
    · rw [if_pos hbad, hbad]
      repeat refine c_seq ?_
      refine c_cond_yes rfl rfl ?_
      repeat refine c_seq ?_
      refine c_region ?_
      refine step_pure rfl (pure_assign rfl) ?_
      refine step_hole ?_
      refine step_pure rfl (pure_assign rfl) ?_
      refine step_nil ?_
      exact c_ret ⟨_, res_tmp2 Try.results19 rfl rfl, [hole], List.Sublist.cons_cons _ (List.nil_sublist _), none, 0, hole, [], rfl, rfl, rfl, by simp, sl_nil _ _ (by decide)⟩
    · have hbad : bad = false := by simpa using hbad
      obtain ⟨h16, hz⟩ := h16 hbad
      rw [hbad, if_neg (by decide), hz]
      repeat refine c_seq ?_
      refine c_cond_no rfl rfl ?_
      refine c_skip ?_
      repeat refine c_seq ?_
      refine c_region ?_
      refine step_pure rfl (pure_move rfl) ?_
      refine step_pure rfl (pure_load_agg (i := 0) rfl rfl rfl rfl rfl (by show 5 ≤ 5; decide) rfl) ?_
      refine step_buildSlice rfl rfl rfl rfl elem33 (by decide) (by decide) (fill_fr _ _ _ _ _) (fun b36 => ?_)
      refine step_append 4 rfl rfl hs rfl rfl rfl rfl rfl elem33 rfl (by decide) rfl rfl rfl (src_own (j := 0) (sl_built ty33 33 b36 [.int .i64 f.kind, .int .i64 f.a, .int .i64 f.b, .slice rb f.rs.length rc, .slice db f.data.length dc] 1 rfl) rfl) (by intro v hv; simp at hv; rcases hv with rfl | rfl | rfl | rfl | rfl <;> rfl) (by omega) (by omega) (fun sb' sc' se' hs' => ?_)
      refine step_pure rfl (pure_assign rfl) ?_
      refine step_nil ?_
      refine ⟨⟨Z.1, base', cap', L ++ [⟨f, rb, rc, db, dc, er, ed⟩], sb', sc', se'⟩, ⟨?_, ?_, fun _ => S', ?_, ?_⟩, ?_, ?_⟩
      · dsimp only
        rw [List.length_append, List.length_singleton]
        omega
      · dsimp only
        rw [List.length_append, List.length_singleton, List.map_append]
        rw [show 17 - (L.length + 1) = k by omega]
        rfl
      · intro y hy
        rcases List.mem_append.1 hy with hy | hy
        · exact hall y hy
        · rw [List.mem_singleton.1 hy]
          exact hx
      · dsimp only
        rw [List.length_append, List.length_singleton, cells_snoc]
        exact hs'
      · dsimp only
        rw [List.length_append, List.length_singleton]
        omega
      · dsimp only
        rw [List.length_append, List.length_singleton, ents_snoc]
        exact less_perm ⟨rfl, rfl, trivial⟩ (m1 := ed :: er :: se' :: ⟨b9, [.slice base' Z.1.length cap', .bool false], 59⟩ :: ents L) (by repeat (first | exact List.Sublist.refl _ | exact List.nil_sublist _ | apply List.Sublist.cons_cons | apply List.Sublist.cons)) (List.Perm.append_right (ents L) (List.perm_append_comm (l₁ := [ed, er]) (l₂ := [se', ⟨b9, [.slice base' Z.1.length cap', .bool false], 59⟩])))
  · have h0 : b1.length = 0 := by have := of_decide_eq_false h; omega
    rw [if_pos h0]
    refine c_exit ?_
    repeat refine c_seq ?_
    refine c_region ?_
    refine step_pure rfl (pure_move rfl) ?_
    refine step_pure rfl (pure_assign rfl) ?_
    refine step_pure rfl (pure_assign rfl) ?_
    refine step_nil ?_
    exact c_ret ⟨_, res_tmp2 Try.results19 rfl rfl, se :: ents L, (by repeat (first | exact List.Sublist.refl _ | exact List.nil_sublist _ | apply List.Sublist.cons_cons | apply List.Sublist.cons)), sb, sc, se, L, rfl, rfl, rfl, hall, hs⟩
end Go.Proofs.Ytphpmallnlajjaa
