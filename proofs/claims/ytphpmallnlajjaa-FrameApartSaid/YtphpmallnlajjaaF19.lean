/- awake, walked. -/
import Derived.Test.YtphpmallnlajjaaF18
namespace Go.Proofs.Ytphpmallnlajjaa
open Go.RowKit Go.Vc
set_option linter.unusedVariables false

/-! a slice of frames of one's own, as a callee sees it -/
theorem slis_mem {u : Ty} {eT : TypeId} {e : Ent} {m : Mem} {base : Option Addr} {len cap : Nat} {xs : List Value} (hs : SlIs u eT e base len cap xs) (he : e.cells ≠ [] → e ∈ m) {w : World} (hh : Has w m) :
    SlC (fun p x => w.cell? p = some x) u.size (.slice base len cap) len xs := by
  refine ⟨base, cap, rfl, hs.le, hs.len, fun hne => ?_⟩
  have hlive : e.cells ≠ [] := fun h => hne (by rw [← hs.xs, h]; simp)
  obtain ⟨hb, hel⟩ := hs.at_ hlive
  refine ⟨_, hb, fun i x hx => ?_⟩
  rw [add_none, Nat.zero_add]
  refine cell_of (hh.cell (he hlive) hlive) ?_
  rw [← hs.xs, List.getElem?_take] at hx
  split at hx
  · exact hx
  · cases hx
theorem frx_mem {x : FrX} {m : Mem} (h : x.Ok) (he : x.er.cells ≠ [] → x.er ∈ m) (hd : x.ed.cells ≠ [] → x.ed ∈ m) {w : World} (hh : Has w m) : FrC (fun p y => w.cell? p = some y) x.f x.cells :=
  ⟨_, _, rfl, slis_mem h.rs he hh, slis_mem h.data hd hh⟩
theorem frs_mem {L : List FrX} {m : Mem} {e : Ent} {base : Option Addr} {cap : Nat} (hs : SlIs ty33 33 e base L.length cap (L.flatMap FrX.cells)) (he : e.cells ≠ [] → e ∈ m) (hL : ∀ x ∈ L, x.Ok)
    (her : ∀ x ∈ L, x.er.cells ≠ [] → x.er ∈ m) (hed : ∀ x ∈ L, x.ed.cells ≠ [] → x.ed ∈ m) {w : World} (hh : Has w m) : FrsC (fun p y => w.cell? p = some y) (.slice base L.length cap) (L.map FrX.f) := by
  refine ⟨L.map FrX.cells, by simp, fun i f cs hf hc => ?_, ?_⟩
  · rw [List.getElem?_map] at hf hc
    cases hx : L[i]? with
    | none => rw [hx] at hf; cases hf
    | some x =>
      rw [hx] at hf hc
      cases hf
      cases hc
      have hm := List.mem_of_getElem? hx
      exact frx_mem (hL x hm) (her x hm) (hed x hm) hh
  · rw [List.length_map, ← List.flatMap_def]
    exact slis_mem hs he hh
theorem ents_er {L : List FrX} {x : FrX} (h : x ∈ L) : x.er ∈ ents L := List.mem_flatMap.2 ⟨x, List.mem_reverse.2 h, by simp⟩
theorem ents_ed {L : List FrX} {x : FrX} (h : x ∈ L) : x.ed ∈ ents L := List.mem_flatMap.2 ⟨x, List.mem_reverse.2 h, by simp⟩

def ackF : Fr := ⟨2, 5, 0, [(7, 9), (2, 2)], []⟩
def pingF : Fr := ⟨1, 0, 0, [], []⟩
def padF : Fr := ⟨0, 2, 0, [], []⟩
theorem wrAck : wrOk [ackF] = true := by decide
theorem wrTwo : wrOk [pingF, padF] = true := by decide
theorem fbAck : [ackF].flatMap fbytes = [2, 5, 2, 7, 9, 2, 2] := by decide
theorem fbTwo : [pingF, padF].flatMap fbytes = [1, 0, 2, 0, 0] := by decide
theorem rdAck : rdAll [2, 5, 2, 7, 9, 2, 2] = some [ackF] := by rfl
theorem rdTwo : rdAll [1, 0, 2, 0, 0] = some [pingF, padF] := by rfl
theorem rdEight : rdAll [8] = none := by rfl
theorem rdEight' : (rdAll [8]).isSome = false := by rfl
theorem sl_len8 {e : Ent} {base : Option Addr} {len cap : Nat} {l : List Int} (h : SlIs ty5 5 e base len cap (row l)) : len = l.length := by
  have := h.len
  rw [row_len] at this
  rw [this]
  exact (Nat.mul_one _).symm
theorem fillAck : fillL (fun i => some (i * ty45.size, ty45.size)) (rowOf [Value.int .i64 0, .int .i64 0] (2 * ty45.size)) [(0, .agg [Value.int .i64 7, .int .i64 9].toArray), (1, .agg [Value.int .i64 2, .int .i64 2].toArray)] = some [.int .i64 7, .int .i64 9, .int .i64 2, .int .i64 2] := by kernel_rfl
theorem rowOf_fr2 : rowOf [Value.int .i64 0, .int .i64 0, .int .i64 0, .slice none 0 0, .slice none 0 0] (2 * 5) = [Value.int .i64 0, .int .i64 0, .int .i64 0, .slice none 0 0, .slice none 0 0, .int .i64 0, .int .i64 0, .int .i64 0, .slice none 0 0, .slice none 0 0] := by kernel_rfl
theorem fillTwo : fillL (fun i => some (i * ty33.size, ty33.size)) (rowOf [Value.int .i64 0, .int .i64 0, .int .i64 0, .slice none 0 0, .slice none 0 0] (2 * ty33.size)) [(0, .agg [Value.int .i64 1, .int .i64 0, .int .i64 0, .slice none 0 0, .slice none 0 0].toArray), (1, .agg [Value.int .i64 0, .int .i64 2, .int .i64 0, .slice none 0 0, .slice none 0 0].toArray)] = some [.int .i64 1, .int .i64 0, .int .i64 0, .slice none 0 0, .slice none 0 0, .int .i64 0, .int .i64 2, .int .i64 0, .slice none 0 0, .slice none 0 0] := by kernel_rfl
def ackX (b : Nat) : FrX := ⟨ackF, some ⟨b, 0, none⟩, 2, none, 0, ⟨b, [.int .i64 7, .int .i64 9, .int .i64 2, .int .i64 2], 45⟩, hole⟩
theorem ackX_ok (b : Nat) : (ackX b).Ok := ⟨sl_built ty45 45 b [.int .i64 7, .int .i64 9, .int .i64 2, .int .i64 2] 2 rfl, sl_nil _ _ (by decide)⟩
def pingX : FrX := ⟨pingF, none, 0, none, 0, hole, hole⟩
def padX : FrX := ⟨padF, none, 0, none, 0, hole, hole⟩
theorem pingX_ok : pingX.Ok := ⟨sl_nil _ _ (by decide), sl_nil _ _ (by decide)⟩
theorem padX_ok : padX.Ok := ⟨sl_nil _ _ (by decide), sl_nil _ _ (by decide)⟩
theorem one_of {α : Type} : ∀ {L : List α}, L.length = 1 → ∃ x, L = [x]
  | [x], _ => ⟨x, rfl⟩
theorem bytesAck : ∀ f ∈ [ackF], Bytes f.data := by
  intro f hf
  rw [List.mem_singleton.1 hf]
  intro x hx
  cases hx
theorem allAck : allB [ackF] [ackF] = true := (allB_iff bytesAck bytesAck).2 rfl
theorem fill7 : fillL (fun i => some (i * ty5.size, ty5.size)) (rowOf [Value.int .u8 0] (7 * ty5.size)) [(0, .int .u8 2), (1, .int .u8 5), (2, .int .u8 2), (3, .int .u8 7), (4, .int .u8 9), (5, .int .u8 2), (6, .int .u8 2)] = some (row [2, 5, 2, 7, 9, 2, 2]) := by kernel_rfl
theorem fill5 : fillL (fun i => some (i * ty5.size, ty5.size)) (rowOf [Value.int .u8 0] (5 * ty5.size)) [(0, .int .u8 1), (1, .int .u8 0), (2, .int .u8 2), (3, .int .u8 0), (4, .int .u8 0)] = some (row [1, 0, 2, 0, 0]) := by kernel_rfl
theorem fokAck : fok ackF = true := by decide
theorem two_mem {m : Mem} {e : Ent} {base : Option Addr} {cap : Nat} {w : World} (hs : SlIs ty33 33 e base 2 cap (pingX.cells ++ padX.cells)) (he : e ∈ m) (hh : Has w m) : FrsC (fun p y => w.cell? p = some y) (.slice base 2 cap) [pingF, padF] := by
  refine frs_mem (L := [pingX, padX]) ?_ (fun _ => he) ?_ ?_ ?_ hh
  · exact hs
  · intro x hx
    simp at hx
    rcases hx with rfl | rfl
    · exact pingX_ok
    · exact padX_ok
  · intro x hx h
    simp at hx
    rcases hx with rfl | rfl <;> exact absurd rfl h
  · intro x hx h
    simp at hx
    rcases hx with rfl | rfl <;> exact absurd rfl h

set_option maxHeartbeats 4000000 in
theorem awake_any (w : World) : Gives tb 11 [] w (.bool true) := by
  refine gives_of (fn := Try.f11) Try.func11 rfl Try.ntmps11 rfl ?_
  repeat refine c_seq ?_
  refine c_region ?_
  refine step_pure rfl (pure_assign rfl) ?_
  refine step_nil ?_
  repeat refine c_seq ?_
  refine c_region ?_
  refine step_pure rfl (pure_build_struct (pl := [(0, 1), (1, 1)]) rfl zero45 rfl rfl rfl rfl) ?_
  refine step_pure rfl (pure_build_struct (pl := [(0, 1), (1, 1)]) rfl zero45 rfl rfl rfl rfl) ?_
  refine step_buildSlice rfl rfl rfl rfl elem45 (by decide) (by decide) fillAck (fun b15 => ?_)
  refine step_pure rfl (pure_build_struct (pl := [(0, 1), (1, 1), (2, 1), (3, 1), (4, 1)]) rfl zero33 rfl rfl rfl rfl) ?_
  refine step_alloc rfl zero33 (fun b1 => ?_)
  refine step_store_agg 0 rfl rfl rfl (by intro v hv; simp at hv; rcases hv with rfl | rfl | rfl | rfl | rfl <;> rfl) rfl rfl rfl rfl (by show 5 ≤ 5; decide) (splice_all rfl) ?_
  refine step_nil ?_
  refine c_less (less_of (rs' := [(1, .pointer (some ⟨b1, 0, none⟩))]) (m' := [⟨b1, (ackX b15).cells, 33⟩, (ackX b15).er]) ⟨rfl, trivial⟩ rfl) ?_
  have hA := fun {m : Mem} {e : Ent} {base : Option Addr} {cap : Nat} w' (hh : Has w' m) (he : e ∈ m) (hr : (ackX b15).er ∈ m) (hs : SlIs ty33 33 e base 1 cap (ackX b15).cells) =>
    frs_mem (L := [ackX b15]) (by rw [List.flatMap_cons, List.flatMap_nil, List.append_nil]; exact hs) (fun _ => he) (fun x hx => by rw [List.mem_singleton.1 hx]; exact ackX_ok b15) (fun x hx _ => by rw [List.mem_singleton.1 hx]; exact hr) (fun x hx h => by rw [List.mem_singleton.1 hx] at h; exact absurd rfl h) hh
  repeat refine c_seq ?_
  refine c_region ?_
  refine step_pure rfl (pure_load_agg (i := 0) rfl rfl rfl rfl rfl (by show 5 ≤ 5; decide) rfl) ?_
  refine step_buildSlice rfl rfl rfl rfl elem33 (by decide) (by decide) (fill_fr _ _ _ _ _) (fun b19 => ?_)
  refine step_makes rfl fun13 rfl (fun w' hh kp => write_any [ackF] _ w' (hA w' hh (.head _) (.tail _ (.tail _ (.head _))) (sl_built ty33 33 b19 _ 1 rfl)) (by decide)) ?_
  rintro u m' ⟨base2, len2, cap2, e2, rfl, rfl, hs2⟩
  rw [if_pos wrAck, fbAck] at hs2
  rw [if_pos wrAck]
  obtain rfl := sl_len8 hs2
  refine step_pure rfl (pure_move rfl) ?_
  refine step_pure rfl (pure_extract rfl rfl) ?_
  refine step_pure rfl (pure_extract rfl rfl) ?_
  refine step_pure rfl (pure_assign rfl) ?_
  refine step_pure rfl (pure_assign rfl) ?_
  refine step_nil ?_
  refine c_less (less_sub (rs' := [(1, .pointer (some ⟨b1, 0, none⟩)), (2, .slice base2 7 cap2), (3, .int .i64 0)]) (m' := [e2, ⟨b1, (ackX b15).cells, 33⟩, (ackX b15).er]) ⟨rfl, rfl, rfl, trivial⟩ (by repeat (first | exact List.Sublist.refl _ | exact List.nil_sublist _ | apply List.Sublist.cons_cons | apply List.Sublist.cons))) ?_
  repeat refine c_seq ?_
  refine c_region ?_
  refine step_pure rfl (pure_build_struct (pl := [(0, 1), (1, 1), (2, 1), (3, 1), (4, 1)]) rfl zero33 rfl rfl rfl rfl) ?_
  refine step_pure rfl (pure_build_struct (pl := [(0, 1), (1, 1), (2, 1), (3, 1), (4, 1)]) rfl zero33 rfl rfl rfl rfl) ?_
  refine step_buildSlice rfl rfl rfl rfl elem33 (by decide) (by decide) fillTwo (fun b26 => ?_)
  refine step_makes rfl fun13 rfl (fun w' hh kp => write_any [pingF, padF] _ w' (two_mem (sl_built ty33 33 b26 _ 2 rfl) (.head _) hh) (by decide)) ?_
  rintro u m' ⟨base3, len3, cap3, e3, rfl, rfl, hs3⟩
  rw [if_pos wrTwo, fbTwo] at hs3
  rw [if_pos wrTwo]
  obtain rfl := sl_len8 hs3
  refine step_pure rfl (pure_move rfl) ?_
  refine step_pure rfl (pure_extract rfl rfl) ?_
  refine step_pure rfl (pure_extract rfl rfl) ?_
  refine step_pure rfl (pure_assign rfl) ?_
  refine step_pure rfl (pure_assign rfl) ?_
  refine step_nil ?_
  refine c_less (less_sub (rs' := [(1, .pointer (some ⟨b1, 0, none⟩)), (2, .slice base2 7 cap2), (3, .int .i64 0), (4, .slice base3 5 cap3), (5, .int .i64 0)]) (m' := [e3, e2, ⟨b1, (ackX b15).cells, 33⟩, (ackX b15).er]) ⟨rfl, rfl, rfl, rfl, rfl, trivial⟩ (by repeat (first | exact List.Sublist.refl _ | exact List.nil_sublist _ | apply List.Sublist.cons_cons | apply List.Sublist.cons))) ?_
  repeat refine c_seq ?_
  refine c_region ?_
  refine step_pure rfl (pure_move rfl) ?_
  refine step_makes rfl fun19 rfl (fun w' hh kp => read_any [2, 5, 2, 7, 9, 2, 2] base2 cap2 w' (slis_mem hs2 (fun _ => .tail _ (.head _)) hh).slv (by intro x hx; simp at hx; omega) (by decide)) ?_
  rintro u m' ⟨base4, cap4, es4, L4, rfl, rfl, hL4, hok4, hs4⟩
  rw [rdAck] at hL4 ⊢
  obtain ⟨x4, rfl⟩ : ∃ x, L4 = [x] := one_of (by have := congrArg List.length hL4; simpa using this)
  refine step_pure rfl (pure_move rfl) ?_
  refine step_pure rfl (pure_extract rfl rfl) ?_
  refine step_pure rfl (pure_extract rfl rfl) ?_
  refine step_pure rfl (pure_assign rfl) ?_
  refine step_pure rfl (pure_assign rfl) ?_
  refine step_nil ?_
  refine c_less (less_sub (rs' := [(1, .pointer (some ⟨b1, 0, none⟩)), (2, .slice base2 7 cap2), (3, .int .i64 0), (4, .slice base3 5 cap3), (5, .int .i64 0), (6, .slice base4 1 cap4), (7, .int .i64 0)]) (m' := [es4, x4.ed, x4.er, e3, e2, ⟨b1, (ackX b15).cells, 33⟩, (ackX b15).er]) ⟨rfl, rfl, rfl, rfl, rfl, rfl, rfl, trivial⟩ (by repeat (first | exact List.Sublist.refl _ | exact List.nil_sublist _ | apply List.Sublist.cons_cons | apply List.Sublist.cons))) ?_
  repeat refine c_seq ?_
  refine c_region ?_
  refine step_pure rfl (pure_move rfl) ?_
  refine step_makes rfl fun19 rfl (fun w' hh kp => read_any [1, 0, 2, 0, 0] base3 cap3 w' (slis_mem hs3 (fun _ => .tail _ (.tail _ (.tail _ (.head _)))) hh).slv (by intro x hx; simp at hx; omega) (by decide)) ?_
  rintro u m' ⟨base5, cap5, es5, L5, rfl, rfl, hL5, hok5, hs5⟩
  have hl5 : L5.length = 2 := by
    have := congrArg List.length hL5
    rw [rdTwo] at this
    simpa using this
  rw [rdTwo, hl5]
  refine step_pure rfl (pure_move rfl) ?_
  refine step_pure rfl (pure_extract rfl rfl) ?_
  refine step_pure rfl (pure_extract rfl rfl) ?_
  refine step_pure rfl (pure_assign rfl) ?_
  refine step_pure rfl (pure_assign rfl) ?_
  refine step_nil ?_
  refine c_less (less_sub (rs' := [(1, .pointer (some ⟨b1, 0, none⟩)), (2, .slice base2 7 cap2), (3, .int .i64 0), (4, .slice base3 5 cap3), (5, .int .i64 0), (6, .slice base4 1 cap4), (7, .int .i64 0), (8, .slice base5 2 cap5), (9, .int .i64 0)])
    (m' := [es4, x4.ed, x4.er, e3, e2, ⟨b1, (ackX b15).cells, 33⟩, (ackX b15).er]) ⟨rfl, rfl, rfl, rfl, rfl, rfl, rfl, rfl, rfl, trivial⟩ (List.Sublist.cons _ (List.sublist_append_right (ents L5) _))) ?_
  repeat refine c_seq ?_
  refine c_region ?_
  refine step_buildSlice rfl rfl rfl rfl elem5 (by decide) (by decide) (fill_one _ _ rfl) (fun b41 => ?_)
  refine step_makes rfl fun19 rfl (fun w' hh kp => read_any [8] _ 1 w' (slis_mem (sl_built ty5 5 b41 (row [8]) 1 rfl) (fun _ => .head _) hh).slv (by intro x hx; simp at hx; omega) (by decide)) ?_
  rintro u m' ⟨base6, cap6, es6, L6, rfl, rfl, hL6, hok6, hs6⟩
  rw [rdEight']
  refine step_pure rfl (pure_move rfl) ?_
  refine step_pure rfl (pure_extract rfl rfl) ?_
  refine step_pure rfl (pure_extract rfl rfl) ?_
  refine step_pure rfl (pure_assign rfl) ?_
  refine step_pure rfl (pure_assign rfl) ?_
  refine step_nil ?_
  refine c_less (less_sub (rs' := [(1, .pointer (some ⟨b1, 0, none⟩)), (2, .slice base2 7 cap2), (3, .int .i64 0), (4, .slice base3 5 cap3), (5, .int .i64 0), (6, .slice base4 1 cap4), (7, .int .i64 0), (8, .slice base5 2 cap5), (9, .int .i64 0), (11, .int .i64 20)])
    (m' := [es4, x4.ed, x4.er, e3, e2, ⟨b1, (ackX b15).cells, 33⟩, (ackX b15).er]) ⟨rfl, rfl, rfl, rfl, rfl, rfl, rfl, rfl, rfl, rfl, trivial⟩ (List.Sublist.cons _ (List.Sublist.trans (List.Sublist.cons _ (List.Sublist.refl _)) (List.sublist_append_right (ents L6) _)))) ?_
  repeat refine c_seq ?_
  refine c_region ?_
  refine step_pure rfl (pure_move rfl) ?_
  refine step_pure rfl (pure_load_agg (i := 5) rfl rfl rfl rfl rfl (by show 5 ≤ 5; decide) rfl) ?_
  refine step_buildSlice rfl rfl rfl rfl elem33 (by decide) (by decide) (fill_fr _ _ _ _ _) (fun b47 => ?_)
  have hx4 : x4.f = ackF := by simpa using hL4
  refine step_gives rfl fun21 rfl (fun w' hh kp => all_any [x4.f] [ackF] _ _ w' (frs_mem (L := [x4]) hs4 (fun _ => .tail _ (.head _)) hok4 (fun x hx _ => by rw [List.mem_singleton.1 hx]; simp) (fun x hx _ => by rw [List.mem_singleton.1 hx]; simp) hh) (hA w' hh (.head _) (by simp) (sl_built ty33 33 b47 _ 1 rfl)) (by rw [hx4]; decide) (by simp)) ?_
  rw [show allB [x4.f] [ackF] = true by rw [hx4]; exact allAck]
  refine step_pure rfl (pure_move rfl) ?_
  first | refine step_pure rfl (pure_move rfl) ?_ | refine step_pass rfl rfl rfl ?_
  first | refine step_pure rfl (pure_len_slice rfl rfl rfl) ?_ | refine step_pass rfl rfl rfl ?_
  first | refine step_pure rfl (pure_eql rfl rfl) ?_ | refine step_pass rfl rfl rfl ?_
  first | refine step_pure rfl (pure_pick_yes rfl rfl) ?_ | refine step_pure rfl (pure_pick_no rfl rfl) ?_ | refine step_pure rfl (pure_pick_bool rfl rfl rfl) ?_
  refine step_pure rfl (pure_assign rfl) ?_
  refine step_nil ?_
  refine c_less (less_sub (rs' := [(1, .pointer (some ⟨b1, 0, none⟩)), (2, .slice base2 7 cap2), (3, .int .i64 0), (4, .slice base3 5 cap3), (5, .int .i64 0), (7, .int .i64 0), (9, .int .i64 0), (11, .int .i64 20), (12, .bool true)])
    (m' := [e3, e2, ⟨b1, (ackX b15).cells, 33⟩, (ackX b15).er]) ⟨rfl, rfl, rfl, rfl, rfl, rfl, rfl, rfl, rfl, trivial⟩ (by repeat (first | exact List.Sublist.refl _ | exact List.nil_sublist _ | apply List.Sublist.cons_cons | apply List.Sublist.cons))) ?_
  have hack := fun {m : Mem} w' (hh : Has w' m) (hr : (ackX b15).er ∈ m) => frx_mem (ackX_ok b15) (fun _ => hr) (fun h => absurd rfl h) hh
  repeat refine c_seq ?_
  refine c_region ?_
  refine step_pure rfl (pure_move rfl) ?_
  refine step_pure rfl (pure_bytes_string rfl rfl rfl rfl rfl rfl rfl rfl hs2 (j := 1) rfl) ?_
  refine step_buildSlice rfl rfl rfl rfl elem5 (by decide) (by decide) fill7 (fun b56 => ?_)
  refine step_pure rfl (pure_bytes_string rfl rfl rfl rfl rfl rfl rfl rfl (sl_built ty5 5 b56 (row [2, 5, 2, 7, 9, 2, 2]) 7 rfl) (j := 0) rfl) ?_
  refine step_as rfl (pure_str_eql rfl rfl) (show _ = Value.bool true from by rw [beq_self_eq_true]) ?_
  refine step_pure rfl (pure_move rfl) ?_
  first | refine step_pure rfl (pure_move rfl) ?_ | refine step_pass rfl rfl rfl ?_
  first | refine step_pure rfl (pure_eql rfl rfl) ?_ | refine step_pass rfl rfl rfl ?_
  first | refine step_pure rfl (pure_pick_yes rfl rfl) ?_ | refine step_pure rfl (pure_pick_no rfl rfl) ?_ | refine step_pure rfl (pure_pick_bool rfl rfl rfl) ?_
  refine step_pure rfl (pure_move rfl) ?_
  first | refine step_pure rfl (pure_move rfl) ?_ | refine step_pass rfl rfl rfl ?_
  first | refine step_pure rfl (pure_bytes_string rfl rfl rfl rfl rfl rfl rfl rfl hs3 (j := 1) rfl) ?_ | refine step_pass rfl rfl rfl ?_
  first | refine step_buildSlice rfl rfl rfl rfl elem5 (by decide) (by decide) fill5 (fun b66 => ?_) | refine step_pass rfl rfl rfl ?_
  first | refine step_pure rfl (pure_bytes_string rfl rfl rfl rfl rfl rfl rfl rfl (sl_built ty5 5 b66 (row [1, 0, 2, 0, 0]) 5 rfl) (j := 0) rfl) ?_ | refine step_pass rfl rfl rfl ?_
  first | refine step_as rfl (pure_str_eql rfl rfl) (show _ = Value.bool true from by rw [beq_self_eq_true]) ?_ | refine step_pass rfl rfl rfl ?_
  first | refine step_pure rfl (pure_pick_yes rfl rfl) ?_ | refine step_pure rfl (pure_pick_no rfl rfl) ?_ | refine step_pure rfl (pure_pick_bool rfl rfl rfl) ?_
  refine step_pure rfl (pure_move rfl) ?_
  first | refine step_pure rfl (pure_move rfl) ?_ | refine step_pass rfl rfl rfl ?_
  first | refine step_pure rfl (pure_eql rfl rfl) ?_ | refine step_pass rfl rfl rfl ?_
  first | refine step_pure rfl (pure_pick_yes rfl rfl) ?_ | refine step_pure rfl (pure_pick_no rfl rfl) ?_ | refine step_pure rfl (pure_pick_bool rfl rfl rfl) ?_
  refine step_pure rfl (pure_move rfl) ?_
  first | refine step_pure rfl (pure_move rfl) ?_ | refine step_pass rfl rfl rfl ?_
  first | refine step_pure rfl (pure_pick_yes rfl rfl) ?_ | refine step_pure rfl (pure_pick_no rfl rfl) ?_ | refine step_pure rfl (pure_pick_bool rfl rfl rfl) ?_
  refine step_pure rfl (pure_move rfl) ?_
  first | refine step_pure rfl (pure_move rfl) ?_ | refine step_pass rfl rfl rfl ?_
  first | refine step_pure rfl (pure_eql rfl rfl) ?_ | refine step_pass rfl rfl rfl ?_
  first | refine step_pure rfl (pure_pick_yes rfl rfl) ?_ | refine step_pure rfl (pure_pick_no rfl rfl) ?_ | refine step_pure rfl (pure_pick_bool rfl rfl rfl) ?_
  refine step_pure rfl (pure_move rfl) ?_
  first | refine step_pure rfl (pure_move rfl) ?_ | refine step_pass rfl rfl rfl ?_
  first | refine step_pure rfl (pure_eql rfl rfl) ?_ | refine step_pass rfl rfl rfl ?_
  first | refine step_pure rfl (pure_pick_yes rfl rfl) ?_ | refine step_pure rfl (pure_pick_no rfl rfl) ?_ | refine step_pure rfl (pure_pick_bool rfl rfl rfl) ?_
  refine step_pure rfl (pure_move rfl) ?_
  first | refine step_pure rfl (pure_move rfl) ?_ | refine step_pass rfl rfl rfl ?_
  first | refine step_pure rfl (pure_eql rfl rfl) ?_ | refine step_pass rfl rfl rfl ?_
  first | refine step_pure rfl (pure_pick_yes rfl rfl) ?_ | refine step_pure rfl (pure_pick_no rfl rfl) ?_ | refine step_pure rfl (pure_pick_bool rfl rfl rfl) ?_
  refine step_pure rfl (pure_move rfl) ?_
  first | refine step_pure rfl (pure_load_agg (i := 4) rfl rfl rfl rfl rfl (by show 5 ≤ 5; decide) rfl) ?_ | refine step_pass rfl rfl rfl ?_
  first | refine step_gives rfl fun15 rfl (fun w' hh kp => check_any ackF _ w' (hack w' hh (by simp)) (by decide)) ?_ | refine step_pass rfl rfl rfl ?_
  rw [if_pos fokAck]
  first | refine step_pure rfl (pure_eql rfl rfl) ?_ | refine step_pass rfl rfl rfl ?_
  first | refine step_pure rfl (pure_pick_yes rfl rfl) ?_ | refine step_pure rfl (pure_pick_no rfl rfl) ?_ | refine step_pure rfl (pure_pick_bool rfl rfl rfl) ?_
  refine step_pure rfl (pure_move rfl) ?_
  first | refine step_pure rfl (pure_load_agg (i := 4) rfl rfl rfl rfl rfl (by show 5 ≤ 5; decide) rfl) ?_ | refine step_pass rfl rfl rfl ?_
  first | refine step_gives rfl fun17 rfl (fun w' hh kp => eliciting_any ackF _ w' (hack w' hh (by simp)) (by decide)) ?_ | refine step_pass rfl rfl rfl ?_
  first | refine step_pure rfl (pure_not rfl) ?_ | refine step_pass rfl rfl rfl ?_
  first | refine step_pure rfl (pure_pick_yes rfl rfl) ?_ | refine step_pure rfl (pure_pick_no rfl rfl) ?_ | refine step_pure rfl (pure_pick_bool rfl rfl rfl) ?_
  refine step_pure rfl (pure_move rfl) ?_
  first | refine step_pure rfl (pure_build_struct (pl := [(0, 1), (1, 1), (2, 1), (3, 1), (4, 1)]) rfl zero33 rfl rfl rfl rfl) ?_ | refine step_pass rfl rfl rfl ?_
  first | refine step_gives rfl fun17 rfl (fun w' hh kp => eliciting_any pingF _ w' (frx_mem pingX_ok (fun h => absurd rfl h) (fun h => absurd rfl h) hh) (by decide)) ?_ | refine step_pass rfl rfl rfl ?_
  first | refine step_pure rfl (pure_pick_yes rfl rfl) ?_ | refine step_pure rfl (pure_pick_no rfl rfl) ?_ | refine step_pure rfl (pure_pick_bool rfl rfl rfl) ?_
  refine step_pure rfl (pure_assign rfl) ?_
  refine step_nil ?_
  exact c_ret ⟨_, res_tmp Try.results11 rfl, rfl⟩
end Go.Proofs.Ytphpmallnlajjaa
