/- The law FrameApart, walked. -/
import Derived.Test.YtphpmallnlajjaaF26
namespace Go.Proofs.Ytphpmallnlajjaa
open Go.RowKit Go.Vc
set_option linter.unusedVariables false

theorem ents_perm (L : List FrX) : (ents L).Perm (L.map FrX.er ++ L.map FrX.ed) := by
  unfold ents
  refine (List.Perm.flatMap_right _ (List.reverse_perm L)).trans ?_
  induction L with
  | nil => exact List.Perm.refl _
  | cons x L ih =>
    show (x.ed :: x.er :: L.flatMap fun x => [x.ed, x.er]).Perm (x.er :: (L.map FrX.er ++ (x.ed :: L.map FrX.ed)))
    exact (List.Perm.swap ..).trans (List.Perm.cons _ ((List.Perm.cons _ ih).trans List.perm_middle.symm))
theorem setAt_set {c : List Value} : ∀ {m : Mem} {i : Nat} {e : Ent}, nth m i = some e → setAt m i c = m.set i ⟨e.blk, c, e.elem⟩
  | [], _, _, h => by cases h
  | x :: m, 0, e, h => by
    have : x = e := Option.some.inj h
    subst this
    rfl
  | x :: m, i + 1, e, h => by
    show x :: setAt m i c = x :: m.set i _
    rw [setAt_set (m := m) (i := i) h]
theorem ix1a (k : Nat) : 0 + (k : Int).toNat * 1 = k := by omega
/-- The blocks of what was read: whatever bytes stand there. -/
def Dn (L : List FrX) (D : Mem) : Prop := D.length = L.length ∧ ∀ (j : Nat) x d, L[j]? = some x → D[j]? = some d → d.blk = x.ed.blk ∧ ∀ k, k < x.f.data.length → ∃ z, d.cells[k]? = some (.int .u8 z)
theorem dn_start {L : List FrX} (h : ∀ x ∈ L, x.Ok) : Dn L (L.map FrX.ed) := by
  refine ⟨by simp, fun j x d hx hd => ?_⟩
  rw [List.getElem?_map, hx] at hd
  cases hd
  refine ⟨rfl, fun k hk => ?_⟩
  have hs := (h x (List.mem_of_getElem? hx)).data.xs
  refine ⟨x.f.data[k], ?_⟩
  have := row_get x.f.data k hk
  rw [← hs, List.getElem?_take] at this
  split at this
  · rw [this, List.getD_eq_getElem?_getD, List.getElem?_eq_getElem hk]
    rfl
  · cases this
theorem dn_set {L : List FrX} {D : Mem} (h : Dn L D) {i k : Nat} {x : FrX} {d : Ent} (hx : L[i]? = some x) (hd : D[i]? = some d) (z : Int) : Dn L (D.set i ⟨d.blk, d.cells.set k (.int .u8 z), d.elem⟩) := by
  refine ⟨by rw [List.length_set]; exact h.1, fun j y e hy he => ?_⟩
  by_cases hji : i = j
  · subst hji
    have hlt := (List.getElem?_eq_some_iff.1 hd).1
    rw [List.getElem?_set_self (by omega)] at he
    cases he
    obtain ⟨h1, h2⟩ := h.2 i y d hy hd
    refine ⟨h1, fun q hq => ?_⟩
    obtain ⟨z', hz'⟩ := h2 q hq
    by_cases hqk : k = q
    · subst hqk
      have hlq := (List.getElem?_eq_some_iff.1 hz').1
      exact ⟨z, by rw [List.getElem?_set_self hlq]⟩
    · exact ⟨z', by rw [List.getElem?_set_ne hqk]; exact hz'⟩
  · rw [List.getElem?_set_ne hji] at he
    exact h.2 j y e hy he
theorem wBs_eq {a b : List Fr} (ha : wrOk a = true) (hb : wrOk b = true) (h : wBs a = wBs b) : a = b := by
  have h1 := rd_wBs ha
  rw [h, rd_wBs hb] at h1
  exact (Option.some.inj h1).symm
theorem frx_cell {L : List FrX} {C : Addr → Value → Prop} {v : Value} (hs : SlC C 5 v L.length (L.flatMap FrX.cells)) {i : Nat} {x : FrX} (hx : L[i]? = some x) : ∃ p cap, v = .slice (some p) L.length cap ∧ C ((p.add (i * 5)).add 4) (.slice x.db x.f.data.length x.dc) := by
  have hi := (List.getElem?_eq_some_iff.1 hx).1
  obtain ⟨p, cap, hv, hp⟩ := hs.at (by decide) hi
  refine ⟨p, cap, hv, hp 4 _ ?_⟩
  rw [List.flatMap_def, flatten_get 5 (L.map FrX.cells) (fun c hc => by obtain ⟨y, _, rfl⟩ := List.mem_map.1 hc; rfl) i 4 x.cells (by rw [List.getElem?_map, hx]; rfl) (by decide)]
  rfl

set_option maxHeartbeats 8000000 in
theorem frameapart_any (la lb : List Fr) (v u : Value) (w0 : World) (hv : FrsC (At w0) v la) (hu : FrsC (At w0) u lb) (ha : ∀ f ∈ la, Bytes f.data) (hb : ∀ f ∈ lb, Bytes f.data) :
    Gives tb 8 [v, u] w0 (.bool true) := by
  obtain ⟨base1, cap1, rfl, hcap1⟩ := hv.slice
  obtain ⟨base2, cap2, rfl, hcap2⟩ := hu.slice
  refine gives_ofk (fn := Try.f8) Try.func8 rfl Try.ntmps8 rfl (fun on => ?_)
  have hv : FrsC (Cel ⟨w0, [], []⟩) (.slice base1 la.length cap1) la := hv.mono fun p x h => ⟨h, by simp⟩
  have hu : FrsC (Cel ⟨w0, [], []⟩) (.slice base2 lb.length cap2) lb := hu.mono fun p x h => ⟨h, by simp⟩
  repeat refine s_seqs ?_
  refine s_reg ?_
  refine step_pure rfl (pure_assign rfl) ?_
  refine Vc.step_end (fun a w ok => ?_)
  first | (refine WPs.run ?_ a w ok; clear ok w a) | skip
  repeat refine s_seqs ?_
  refine s_reg ?_
  refine step_gives rfl fun11 rfl (fun w _ _ => awake_any w) ?_
  refine step_pure rfl (pure_assign rfl) ?_
  refine Vc.step_end (fun a w ok => ?_)
  first | (refine WPs.run ?_ a w ok; clear ok w a) | skip
  repeat refine s_seqs ?_
  refine s_meet [(0, .slice base1 la.length cap1), (1, .slice base2 lb.length cap2), (5, .bool true), (26, .bool (!fewB la || !fewB lb))] [] ?_ (fun a w ok => WPs.run ?_ a w ok)
  · have hfa := fun w' (kp : Keep w0 w' []) => few_any la _ w' (hv.mono (fun p x h => h.now kp))
    have hfb := fun w' (kp : Keep w0 w' []) => few_any lb _ w' (hu.mono (fun p x h => h.now kp))
    generalize fewB la = fa at *
    generalize fewB lb = fb at *
    repeat refine c_seq ?_
    refine c_region ?_
    refine step_pure rfl (pure_move rfl) ?_
    refine step_gives rfl fun12 rfl (fun w' hh kp => hfa w' kp) ?_
    refine step_pure rfl (pure_not rfl) ?_
    refine step_pure rfl (pure_move rfl) ?_
    refine step_split (t := 22) rfl (fun h22 => ?_) (fun h22 => ?_)
    · refine step_pass rfl rfl rfl ?_
      refine step_pass rfl rfl rfl ?_
      refine step_pass rfl rfl rfl ?_
      refine step_pure rfl (pure_pick_yes rfl rfl) ?_
      refine step_nil ?_
      refine less_of ⟨rfl, rfl, rfl, ?_, trivial⟩ rfl
      refine congrArg some (congrArg Value.bool ?_)
      clear hfa hfb
      simp_all
    · refine step_pure rfl (pure_move rfl) ?_
      refine step_gives rfl fun12 rfl (fun w' hh kp => hfb w' kp) ?_
      refine step_pure rfl (pure_not rfl) ?_
      refine step_pure rfl (pure_pick_no rfl rfl) ?_
      refine step_nil ?_
      refine less_of ⟨rfl, rfl, rfl, ?_, trivial⟩ rfl
      refine congrArg some (congrArg Value.bool ?_)
      clear hfa hfb
      simp_all
  repeat refine s_seqs ?_
  refine s_cond rfl (fun h => ?_) (fun h => ?_)
  · repeat refine s_seqs ?_
    refine s_reg ?_
    refine step_pure rfl (pure_move rfl) ?_
    refine step_pure rfl (pure_assign rfl) ?_
    refine Vc.step_end (fun a w ok => ?_)
    first | (refine WPs.run ?_ a w ok; clear ok w a) | skip
    exact s_ret fun a w ok => ends_k on (.inr rfl) ok (res_tmp Try.results8 rfl)
  have hfew : fewB la = true ∧ fewB lb = true := by simpa using h
  have hfa := few_in hfew.1
  have hfb := few_in hfew.2
  clear h
  refine s_skip fun a w ok => WPs.run ?_ a w ok
  clear ok w a
  have hml : 3000 ≤ maxLen := by decide
  repeat refine s_seqs ?_
  refine s_reg ?_
  refine step_pure rfl (pure_move rfl) ?_
  refine step_givesP on.sc rfl fun13 rfl (fun w' Z' hh kp hZ hC => write_P la _ w' hZ (hv.mono fun p x h => h.now kp) (fun f hf => Nat.le_trans (hfa.2 f hf).1 hml)) ?_
  rintro x E1 g ⟨v6, rfl, hw⟩
  replace on := on.next g
  replace hv := hv.mono g.mono
  replace hu := hu.mono g.mono
  clear g
  refine step_pure rfl (pure_move rfl) ?_
  refine step_pure rfl (pure_extract rfl rfl) ?_
  refine step_pure rfl (pure_extract rfl rfl) ?_
  refine step_pure rfl (pure_assign rfl) ?_
  refine step_pure rfl (pure_assign rfl) ?_
  refine Vc.step_end (fun a w ok => ?_)
  first | (refine WPs.run ?_ a w ok; clear ok w a) | skip
  repeat refine s_seqs ?_
  refine s_reg ?_
  refine step_pure rfl (pure_move rfl) ?_
  refine step_givesP on.sc rfl fun13 rfl (fun w' Z' hh kp hZ hC => write_P lb _ w' hZ (hu.mono fun p x h => h.now kp) (fun f hf => Nat.le_trans (hfb.2 f hf).1 hml)) ?_
  rintro x E2 g ⟨v8, rfl, hy⟩
  replace on := on.next g
  replace hv := hv.mono g.mono
  replace hu := hu.mono g.mono
  replace hw := hw.mono g.cz
  clear g
  refine step_pure rfl (pure_move rfl) ?_
  refine step_pure rfl (pure_extract rfl rfl) ?_
  refine step_pure rfl (pure_extract rfl rfl) ?_
  refine step_pure rfl (pure_assign rfl) ?_
  refine step_pure rfl (pure_assign rfl) ?_
  refine Vc.step_end (fun a w ok => ?_)
  first | (refine WPs.run ?_ a w ok; clear ok w a) | skip
  repeat refine s_seqs ?_
  refine s_reg ?_
  refine step_pure rfl (pure_move rfl) ?_
  refine step_pure rfl (pure_move rfl) ?_
  refine step_gives rfl fun21 rfl (fun w' hh kp => all_any la lb _ _ w' (hv.mono (fun p x h => h.now kp)) (hu.mono (fun p x h => h.now kp)) (fun f hf => by have := (hfa.2 f hf).2; omega) (by omega)) ?_
  refine step_pure rfl (pure_assign rfl) ?_
  refine Vc.step_end (fun a w ok => ?_)
  first | (refine WPs.run ?_ a w ok; clear ok w a) | skip
  have hsame := allB_iff ha hb
  repeat refine s_seqs ?_
  refine s_meet [(0, .slice base1 la.length cap1), (5, .bool true), (6, v6), (7, .int .i64 (if wrOk la = true then 0 else 20)), (8, v8), (9, .int .i64 (if wrOk lb = true then 0 else 20)), (10, .bool (allB la lb)), (46, .bool (!wrOk la || !wrOk lb))] [] ?_ (fun a w ok => WPs.run ?_ a w ok)
  · clear hsame
    generalize wrOk la = wa at *
    generalize wrOk lb = wb at *
    repeat refine c_seq ?_
    refine c_region ?_
    refine step_pure rfl (pure_move rfl) ?_
    refine step_pure rfl (pure_neq rfl rfl) ?_
    refine step_pure rfl (pure_move rfl) ?_
    refine step_split (t := 43) rfl (fun h43 => ?_) (fun h43 => ?_)
    · refine step_pass rfl rfl rfl ?_
      refine step_pass rfl rfl rfl ?_
      refine step_pure rfl (pure_pick_yes rfl rfl) ?_
      refine step_nil ?_
      refine less_of ⟨rfl, rfl, rfl, rfl, rfl, rfl, rfl, ?_, trivial⟩ rfl
      refine congrArg some (congrArg Value.bool ?_)
      clear hw hy
      cases wa <;> cases wb <;> simp_all
    · refine step_pure rfl (pure_move rfl) ?_
      refine step_pure rfl (pure_neq rfl rfl) ?_
      refine step_pure rfl (pure_pick_no rfl rfl) ?_
      refine step_nil ?_
      refine less_of ⟨rfl, rfl, rfl, rfl, rfl, rfl, rfl, ?_, trivial⟩ rfl
      refine congrArg some (congrArg Value.bool ?_)
      clear hw hy
      cases wa <;> cases wb <;> simp_all
  repeat refine s_seqs ?_
  refine s_cond rfl (fun h => ?_) (fun h => ?_)
  · repeat refine s_seqs ?_
    refine s_meet [(4, .bool true)] [] ?_ (fun a w ok => WPs.run ?_ a w ok)
    · cases hs : allB la lb with
      | false =>
        repeat refine c_seq ?_
        refine c_region ?_
        refine step_pure rfl (pure_move rfl) ?_
        refine step_pure rfl (pure_move rfl) ?_
        refine step_pure rfl (pure_move rfl) ?_
        refine step_pure rfl (pure_not rfl) ?_
        refine step_pure rfl (pure_move rfl) ?_
        refine step_pass rfl rfl rfl ?_
        refine step_pass rfl rfl rfl ?_
        refine step_pass rfl rfl rfl ?_
        refine step_pure rfl (pure_pick_yes rfl rfl) ?_
        refine step_pure rfl (pure_pick_yes rfl rfl) ?_
        refine step_pure rfl (pure_assign rfl) ?_
        refine step_nil ?_
        exact less_of ⟨rfl, trivial⟩ rfl
      | true =>
        rw [hsame.1 hs]
        repeat refine c_seq ?_
        refine c_region ?_
        refine step_pure rfl (pure_move rfl) ?_
        refine step_pure rfl (pure_move rfl) ?_
        refine step_pure rfl (pure_move rfl) ?_
        refine step_pure rfl (pure_not rfl) ?_
        refine step_pure rfl (pure_move rfl) ?_
        refine step_pure rfl (pure_move rfl) ?_
        refine step_pure rfl (pure_move rfl) ?_
        refine step_as rfl (pure_eql rfl rfl) (show _ = Value.bool true from by rw [beq_self_eq_true]) ?_
        refine step_pure rfl (pure_pick_no rfl rfl) ?_
        refine step_pure rfl (pure_pick_yes rfl rfl) ?_
        refine step_pure rfl (pure_assign rfl) ?_
        refine step_nil ?_
        exact less_of ⟨rfl, trivial⟩ rfl
    exact s_ret fun a w ok => ends_k on (.inr rfl) ok (res_tmp Try.results8 rfl)
  have hok : wrOk la = true ∧ wrOk lb = true := by simpa using h
  obtain ⟨hoa, hob⟩ := hok
  clear h
  rw [if_pos hoa, if_pos hob]
  refine s_skip fun a w ok => WPs.run ?_ a w ok
  clear ok w a
  have hwb := wBs_bytes ha
  have hwb2 := wBs_bytes hb
  have hwl := wBs_le la
  have hrd := rd_wBs hoa
  have hcmp : ((str (wBs la)).toList == (str (wBs lb)).toList) = allB la lb := by
    cases hs : allB la lb with
    | true => rw [hsame.1 hs, beq_self_eq_true]
    | false =>
      rw [beq_eq_false_iff_ne]
      intro h2
      have := wBs_eq hoa hob (str_inj hwb hwb2 ((str_list _ _).1 h2))
      rw [hsame.2 this] at hs
      cases hs
  have hself : allB la la = true := (allB_iff ha ha).2 rfl
  obtain ⟨base6, cap6, rfl, hcap6⟩ := slc_str hw
  generalize wBs la = A at *
  generalize wBs lb = B at *
  generalize allB la lb = sm at *
  repeat refine s_seqs ?_
  refine s_reg ?_
  refine step_pure rfl (pure_move rfl) ?_
  refine step_makes rfl fun19 rfl (fun w' hh kp => read_any A base6 cap6 w' (hw.mono (Cz.now kp)).slv hwb (by omega)) ?_
  rintro x m' ⟨base7, cap7, es, L, rfl, rfl, hL, hLok, hs⟩
  rw [hrd] at hL ⊢
  refine step_pure rfl (pure_move rfl) ?_
  refine step_pure rfl (pure_extract rfl rfl) ?_
  refine step_pure rfl (pure_extract rfl rfl) ?_
  refine step_pure rfl (pure_assign rfl) ?_
  refine step_pure rfl (pure_assign rfl) ?_
  refine Vc.step_end (fun a w ok => ?_)
  first | (refine WPs.run ?_ a w ok; clear ok w a) | skip
  refine s_letM (es :: L.map FrX.er) (m := L.map FrX.ed) (by rw [List.append_nil]; exact (ents_perm L).cons es) (fun E3 g hc => ?_)
  have hsl := slis_cz hs (hc (fun _ => True) (fun _ _ => trivial) es (.head _))
  replace on := on.next g
  replace hv := hv.mono g.mono
  replace hw := hw.mono g.cz
  replace hy := hy.mono g.cz
  clear hc g hs
  have hD0 := dn_start hLok
  have hLl : L.length ≤ 30 := by
    have := congrArg List.length hL
    rw [List.length_map] at this
    have : L.length = la.length := this
    omega
  have hLd : ∀ x ∈ L, x.f.data.length ≤ 3000 := by
    intro x hx
    have : x.f ∈ L.map FrX.f := List.mem_map_of_mem hx
    rw [hL] at this
    exact (hfa.2 _ this).1
  repeat refine s_seqs ?_
  refine s_reg ?_
  refine step_pure rfl (pure_assign rfl) ?_
  refine Vc.step_end (fun a w ok => ?_)
  first | (refine WPs.run ?_ a w ok; clear ok w a) | skip
  repeat refine s_seqs ?_
  refine s_block ?_
  repeat refine s_seqs ?_
  refine s_loopP (α := Nat × Mem) (fun z => [(0, .slice base1 la.length cap1), (5, .bool true), (6, .slice base6 A.length cap6), (8, v8), (10, .bool sm), (11, .slice base7 L.length cap7), (12, .int .i64 0), (13, .int .i64 (z.1 : Int))]) (fun z => z.2) (fun z _ => z.1 ≤ L.length ∧ Dn L z.2) (fun z => L.length - z.1) (0, L.map FrX.ed) ⟨Nat.zero_le _, hD0⟩ (less_of ⟨rfl, rfl, rfl, rfl, rfl, rfl, rfl, rfl, trivial⟩ rfl) ?_
  rintro ⟨i, D⟩ E4 ⟨hi, hD⟩ g
  dsimp only at hi hD ⊢
  replace on := on.next g
  replace hv := hv.mono g.mono
  replace hw := hw.mono g.cz
  replace hy := hy.mono g.cz
  replace hsl := hsl.mono g.cz
  clear g hD0
  repeat refine s_seqs ?_
  refine s_reg ?_
  refine step_pure rfl (pure_move rfl) ?_
  refine step_pure rfl (pure_move rfl) ?_
  refine step_pure rfl (pure_len_slice rfl rfl rfl) ?_
  refine step_pure rfl (pure_lss rfl rfl) ?_
  refine Vc.step_end (fun a w ok => ?_)
  first | (refine WPs.run ?_ a w ok; clear ok w a) | skip
  repeat refine s_seqs ?_
  refine s_cond rfl (fun h => ?_) (fun h => ?_)
  · have hlt : i < L.length := by have := of_decide_eq_true h; omega
    clear h
    refine s_skip fun a w ok => WPs.run ?_ a w ok
    clear ok w a
    repeat refine s_seqs ?_
    refine s_block ?_
    obtain ⟨x, hx⟩ : ∃ x, L[i]? = some x := ⟨_, List.getElem?_eq_getElem hlt⟩
    obtain ⟨p, cp, hq, hp4⟩ := frx_cell hsl hx
    cases hq
    have hxd := (hLok x (List.mem_of_getElem? hx)).data
    have hxl := hLd x (List.mem_of_getElem? hx)
    repeat refine s_seqs ?_
    refine s_reg ?_
    refine step_pure rfl (pure_assign rfl) ?_
    refine Vc.step_end (fun a w ok => ?_)
    first | (refine WPs.run ?_ a w ok; clear ok w a) | skip
    repeat refine s_seqs ?_
    refine s_meetP (α := Mem) (fun z => [(0, .slice base1 la.length cap1), (5, .bool true), (6, .slice base6 A.length cap6), (8, v8), (10, .bool sm), (11, .slice (some p) L.length cap7), (12, .int .i64 0), (13, .int .i64 (i : Int))]) (fun z => z) (fun z _ => Dn L z) ?_ ?_
    · repeat refine s_seqs ?_
      refine s_block ?_
      repeat refine s_seqs ?_
      refine s_loopP (α := Nat × Mem) (fun z => [(0, .slice base1 la.length cap1), (5, .bool true), (6, .slice base6 A.length cap6), (8, v8), (10, .bool sm), (11, .slice (some p) L.length cap7), (12, .int .i64 0), (13, .int .i64 (i : Int)), (14, .int .i64 (z.1 : Int))]) (fun z => z.2) (fun z _ => z.1 ≤ x.f.data.length ∧ Dn L z.2) (fun z => x.f.data.length - z.1) (0, D) ⟨Nat.zero_le _, hD⟩ (less_of ⟨rfl, rfl, rfl, rfl, rfl, rfl, rfl, rfl, rfl, trivial⟩ rfl) ?_
      rintro ⟨k, D1⟩ E5 ⟨hk, hD1⟩ g
      dsimp only at hk hD1 ⊢
      have hp5 := g.mono _ _ hp4.1
      repeat refine s_seqs ?_
      refine s_reg ?_
      refine step_pure rfl (pure_move rfl) ?_
      refine step_pure rfl (pure_move rfl) ?_
      refine step_pure rfl (pure_move rfl) ?_
      refine step_as rfl (pure_indexAddr_at rfl rfl rfl rfl rfl (by omega) (by omega)) (show _ = Value.pointer (some (p.add (i * 5))) from by show Value.pointer (some (p.add ((i : Int).toNat * 5))) = _; rw [Int.toNat_natCast]) ?_
      refine step_pure rfl (pure_fieldAddr_at rfl rfl rfl rfl rfl (by decide)) ?_
      refine step_pure rfl (pure_cel rfl rfl rfl hp5) ?_
      refine step_pure rfl (pure_len_slice rfl rfl rfl) ?_
      refine step_pure rfl (pure_lss rfl rfl) ?_
      refine Vc.step_end (fun a w ok => ?_)
      first | (refine WPs.run ?_ a w ok; clear ok w a) | skip
      repeat refine s_seqs ?_
      refine s_cond rfl (fun h => ?_) (fun h => ?_)
      · have hkl : k < x.f.data.length := by have := of_decide_eq_true h; omega
        clear h
        refine s_skip fun a w ok => WPs.run ?_ a w ok
        clear ok w a
        repeat refine s_seqs ?_
        refine s_block ?_
        have hlD : i < D1.length := by rw [hD1.1]; exact hlt
        obtain ⟨d, hd⟩ : ∃ d, D1[i]? = some d := ⟨_, List.getElem?_eq_getElem hlD⟩
        obtain ⟨hdb, hdc⟩ := hD1.2 i x d hx hd
        obtain ⟨z, hz⟩ := hdc k hkl
        have hne : x.ed.cells ≠ [] := by
          intro h0
          have := hxd.xs
          rw [h0, List.take_nil] at this
          have := congrArg List.length this
          rw [row_len] at this
          simp at this
          omega
        obtain ⟨hbase, -⟩ := hxd.at_ hne
        rw [hbase, ← hdb] at hp5
        have hnth : nth D1 i = some d := by rw [nth_eq]; exact hd
        repeat refine s_seqs ?_
        refine s_dreg [1, 9, 17, 25, 35, 41, 49, 57, 65, 73, 83, 89, 97, 107, 113, 121, 132] (D1) follows (by kernel_rfl) ?_
        refine d_pure0 rfl rfl rfl (pure_move rfl) ?_
        refine d_pure0 rfl rfl rfl (pure_move rfl) ?_
        refine d_as0 rfl rfl rfl (pure_indexAddr_at rfl rfl rfl rfl rfl (by omega) (by omega)) (show _ = Value.pointer (some (p.add (i * 5))) from by show Value.pointer (some (p.add ((i : Int).toNat * 5))) = _; rw [Int.toNat_natCast]) ?_
        refine d_pure0 rfl rfl rfl (pure_fieldAddr_at rfl rfl rfl rfl rfl (by decide)) ?_
        refine d_pure1 rfl rfl rfl (pure_cel rfl rfl rfl hp5) (by first | exact SubMem.refl _ | exact (SubMem.refl _).cons | exact (SubMem.refl _).cons.cons | exact (SubMem.refl _).cons.cons.cons | exact (SubMem.refl _).cons.cons.cons.cons | exact (fun w hh => Has.sublist (by repeat (first | exact List.Sublist.refl _ | exact List.nil_sublist _ | apply List.Sublist.cons_cons | apply List.Sublist.cons)) hh)) ?_
        refine d_pure0 rfl rfl rfl (pure_move rfl) ?_
        refine d_pure0 rfl rfl rfl (pure_move rfl) ?_
        refine d_pure0 rfl rfl rfl (pure_move rfl) ?_
        refine d_as0 rfl rfl rfl (pure_indexAddr_at rfl rfl rfl rfl rfl (by omega) (by omega)) (show _ = Value.pointer (some (p.add (i * 5))) from by show Value.pointer (some (p.add ((i : Int).toNat * 5))) = _; rw [Int.toNat_natCast]) ?_
        refine d_pure0 rfl rfl rfl (pure_fieldAddr_at rfl rfl rfl rfl rfl (by decide)) ?_
        refine d_pure1 rfl rfl rfl (pure_cel rfl rfl rfl hp5) (by first | exact SubMem.refl _ | exact (SubMem.refl _).cons | exact (SubMem.refl _).cons.cons | exact (SubMem.refl _).cons.cons.cons | exact (SubMem.refl _).cons.cons.cons.cons | exact (fun w hh => Has.sublist (by repeat (first | exact List.Sublist.refl _ | exact List.nil_sublist _ | apply List.Sublist.cons_cons | apply List.Sublist.cons)) hh)) ?_
        refine d_pure0 rfl rfl rfl (pure_move rfl) ?_
        refine d_as0 rfl rfl rfl (pure_ixs (off' := k) rfl rfl rfl rfl rfl (by omega) (by omega) (ix1a k)) rfl ?_
        refine d_pure1 rfl rfl rfl (pure_load (i := i) rfl rfl rfl hnth rfl hz) (by first | exact SubMem.refl _ | exact (SubMem.refl _).cons | exact (SubMem.refl _).cons.cons | exact (SubMem.refl _).cons.cons.cons | exact (SubMem.refl _).cons.cons.cons.cons | exact (fun w hh => Has.sublist (by repeat (first | exact List.Sublist.refl _ | exact List.nil_sublist _ | apply List.Sublist.cons_cons | apply List.Sublist.cons)) hh)) ?_
        refine d_pure0 rfl rfl rfl (pure_xor rfl rfl) ?_
        refine d_as0 rfl rfl rfl (pure_ixs (off' := k) rfl rfl rfl rfl rfl (by omega) (by omega) (ix1a k)) rfl ?_
        refine d_store i rfl rfl rfl rfl rfl rfl rfl rfl hnth rfl (by have := (List.getElem?_eq_some_iff.1 hz).1; omega) rfl rfl rfl ?_
        rw [setAt_set hnth]
        refine d_end (fun a w ok => ?_)
        first | (refine WPs.run ?_ a w ok; clear ok w a) | skip
        repeat refine s_seqs ?_
        refine s_reg ?_
        refine step_pure rfl (pure_move rfl) ?_
        first | refine step_pure rfl (pure_add64 rfl rfl (by omega) (by omega)) ?_ | refine step_pure rfl (pure_add rfl rfl) ?_
        refine step_pure rfl (pure_assign rfl) ?_
        refine Vc.step_end (fun a w ok => ?_)
        refine ⟨(k + 1, D1.set i ⟨d.blk, d.cells.set k (.int .u8 (bits .xor .u8 z 255)), d.elem⟩), E5, ⟨hkl, dn_set hD1 hx hd _⟩, by dsimp only; omega, Gt.refl _, Less.ok ?_ ok⟩
        exact less_of ⟨rfl, rfl, rfl, rfl, rfl, rfl, rfl, rfl, rfl, trivial⟩ rfl
      · refine s_exit fun a w ok => ⟨D1, E5, hD1, g, Less.ok ?_ ok⟩
        exact less_of ⟨rfl, rfl, rfl, rfl, rfl, rfl, rfl, rfl, trivial⟩ rfl
    intro D1 E5 hD1 g a w ok
    refine WPs.run ?_ a w ok
    clear ok w a
    repeat refine s_seqs ?_
    refine s_reg ?_
    refine step_pure rfl (pure_move rfl) ?_
    first | refine step_pure rfl (pure_add64 rfl rfl (by omega) (by omega)) ?_ | refine step_pure rfl (pure_add rfl rfl) ?_
    refine step_pure rfl (pure_assign rfl) ?_
    refine Vc.step_end (fun a w ok => ?_)
    refine ⟨(i + 1, D1), E5, ⟨hlt, hD1⟩, by dsimp only; omega, g, Less.ok ?_ ok⟩
    exact less_of ⟨rfl, rfl, rfl, rfl, rfl, rfl, rfl, rfl, trivial⟩ rfl
  refine s_exit fun a w ok => WPs.run ?_ a w ok
  clear ok w a
  repeat refine s_seqs ?_
  refine s_reg ?_
  refine step_pure rfl (pure_move rfl) ?_
  refine step_givesP on.sc rfl fun19 rfl (fun w' Z' hh kp hZ hC => read_P A _ w' hZ (hw.mono (Cz.now kp)) hwb (by omega)) ?_
  rintro x E5 g ⟨v15, rfl, hr⟩
  replace on := on.next g
  replace hv := hv.mono g.mono
  replace hw := hw.mono g.cz
  replace hy := hy.mono g.cz
  rw [hrd] at hr ⊢
  refine step_pure rfl (pure_move rfl) ?_
  refine step_pure rfl (pure_extract rfl rfl) ?_
  refine step_pure rfl (pure_extract rfl rfl) ?_
  refine step_pure rfl (pure_assign rfl) ?_
  refine step_pure rfl (pure_assign rfl) ?_
  refine Vc.step_end (fun a w ok => ?_)
  first | (refine WPs.run ?_ a w ok; clear ok w a) | skip
  repeat refine s_seqs ?_
  refine s_reg ?_
  refine step_pure rfl (pure_move rfl) ?_
  refine step_pure rfl (pure_move rfl) ?_
  refine step_gives rfl fun21 rfl (fun w' hh kp => all_any la la _ _ w' (hr.mono (Cz.now kp)) (hv.mono (fun p x h => h.now kp)) (fun f hf => by have := (hfa.2 f hf).2; omega) (by omega)) ?_
  rw [hself]
  refine step_pure rfl (pure_assign rfl) ?_
  refine Vc.step_end (fun a w ok => ?_)
  first | (refine WPs.run ?_ a w ok; clear ok w a) | skip
  repeat refine s_seqs ?_
  refine s_reg ?_
  refine step_pure rfl (pure_move rfl) ?_
  refine step_pure rfl (pure_move rfl) ?_
  refine step_pure rfl (pure_move rfl) ?_
  refine step_pure rfl (pure_eql rfl rfl) ?_
  refine step_pure rfl (pure_pick_yes rfl rfl) ?_
  refine step_pure rfl (pure_move rfl) ?_
  refine step_pure rfl (pure_move rfl) ?_
  refine step_pure rfl (pure_eql rfl rfl) ?_
  refine step_pure rfl (pure_pick_yes rfl rfl) ?_
  refine step_pure rfl (pure_move rfl) ?_
  refine step_pure rfl (pure_move rfl) ?_
  refine step_pure rfl (pure_pick_yes rfl rfl) ?_
  refine step_pure rfl (pure_move rfl) ?_
  refine step_pure rfl (pure_move rfl) ?_
  refine step_pure rfl (pure_cz_string rfl rfl rfl rfl rfl rfl rfl hw) ?_
  refine step_pure rfl (pure_move rfl) ?_
  refine step_pure rfl (pure_cz_string rfl rfl rfl rfl rfl rfl rfl hy) ?_
  refine step_as rfl (pure_str_eql rfl rfl) (show _ = Value.bool sm from by rw [hcmp]) ?_
  refine step_pure rfl (pure_move rfl) ?_
  refine step_as rfl (pure_beql rfl rfl rfl rfl) (show _ = Value.bool true from by rw [beq_self_eq_true]) ?_
  refine step_pure rfl (pure_pick_yes rfl rfl) ?_
  refine step_pure rfl (pure_assign rfl) ?_
  refine Vc.step_end (fun a w ok => ?_)
  first | (refine WPs.run ?_ a w ok; clear ok w a) | skip
  exact s_ret fun a w ok => ends_k on (.inr rfl) ok (res_tmp Try.results8 rfl)
end Go.Proofs.Ytphpmallnlajjaa
