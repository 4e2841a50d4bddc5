/- Which packets ask for an answer: Eliciting, the document's too, walked. -/
import Derived.Test.YtajcfafamdacdaaP3
namespace Go.Proofs.Ytajcfafamdacdaa
open Go.RowKit Go.Vc
set_option linter.unusedVariables false

section
variable {E : Env} {n : Nat} {all rest : List Oper} {rs : Rs} {m : Mem} {K : Act → World → Prop} {dst : Option Tmp} {ty : TypeId} {pos : String} {aft : Array Edge} {gd : Option (Nat × Bool)}
/-- A call of a function value that gives a value. -/
theorem step_givesF {f : FuncId} {fx : Operand} {args : List Operand} {ats : Array TypeId} {vs caps : List Value} {v : Value} {d : Nat}
    (hc : chk all n rs ⟨dst, .call ⟨.value fx, args.toArray, ats⟩, ty, pos, aft, gd⟩ = some d)
    (hfx : ev rs fx = some (.func (.func f) #[] caps.toArray)) (hf : Fun tb f) (hv : evs rs args = some vs) (hg : ∀ w, Has w m → Keep E.w0 w E.ws → Gives tb f (vs ++ caps) w v)
    (h : WPl tb E n all rest ((d, v) :: rs) m K) :
    WPl tb E n all (⟨dst, .call ⟨.value fx, args.toArray, ats⟩, ty, pos, aft, gd⟩ :: rest) rs m K := by
  refine ⟨fun Q hQ a w ok => ?_⟩
  refine (step_callee (m := m) (K := K) hc hfx hf hv (fun w hh hk => (hg w hh hk).calls.mono ?_)).run Q hQ a w ok
  rintro e w' ⟨rfl, hkeep⟩
  exact ⟨v, m, rfl, hkeep.has hh, ok.own, hk.trans hkeep (by simp), h⟩
end
def ixA : List Fr → Nat → Int
  | [], _ => -1
  | f :: l, i => if asks f = true then i else ixA l (i + 1)
theorem ixA_any : ∀ (l : List Fr) (i : Nat), decide (ixA l i ≥ 0) = l.any asks
  | [], i => rfl
  | f :: l, i => by
    unfold ixA
    rw [List.any_cons]
    cases h : asks f with
    | true =>
      rw [if_pos rfl, Bool.true_or]
      exact decide_eq_true (by omega)
    | false => rw [if_neg (by decide), Bool.false_or]; exact ixA_any l (i + 1)
set_option maxHeartbeats 1000000 in
theorem indexF_any (fs : List Fr) (v : Value) (w : World) (hv : FrsC (At w) v fs) (hbig : ∀ f ∈ fs, f.data.length ≤ maxLen) (hle : fs.length ≤ maxLen) :
    Gives tb 51 [v, .func (.func 29) #[] #[]] w (.int .i64 (ixA fs 0)) := by
  have hm : maxLen ≤ 9223372036854775807 := by decide
  obtain ⟨base1, cap1, rfl, hcap1⟩ := hv.slice
  refine gives_of (fn := Try.f51) Try.func51 rfl Try.ntmps51 rfl ?_
  repeat refine c_seq ?_
  refine c_region ?_
  refine step_pure rfl (pure_assign rfl) ?_
  refine step_nil ?_
  repeat refine c_seq ?_
  refine c_region ?_
  refine step_pure rfl (pure_move rfl) ?_
  refine step_pure rfl (pure_len_slice rfl rfl rfl) ?_
  refine step_pure rfl (pure_move rfl) ?_
  refine step_nil ?_
  repeat refine c_seq ?_
  refine c_block ?_
  repeat refine c_seq ?_
  refine c_loop (α := Nat) (fun i => [(0, .slice base1 fs.length cap1), (1, .func (.func 29) #[] #[]), (7, .int .i64 fs.length), (8, .int .i64 i)]) (fun _ => []) (fun i => i ≤ fs.length ∧ ixA fs 0 = ixA (fs.drop i) i) (fun i => fs.length - i) 0 ⟨Nat.zero_le _, by rw [List.drop_zero]⟩ (less_of ⟨rfl, rfl, rfl, rfl, trivial⟩ rfl) ?_
  rintro i ⟨hi, hix⟩
  repeat refine c_seq ?_
  refine c_region ?_
  refine step_pure rfl (pure_lss rfl rfl) ?_
  refine step_nil ?_
  repeat refine c_seq ?_
  refine c_cond rfl (fun h => ?_) (fun h => ?_)
  · have hlt : i < fs.length := by have := of_decide_eq_true h; omega
    clear h
    refine c_skip ?_
    repeat refine c_seq ?_
    refine c_block ?_
    obtain ⟨p, cp, cs, hq, hfc, hp⟩ := hv.at hlt
    cases hq
    have h5 := hfc.five
    have hd := List.drop_eq_getElem_cons hlt
    have hel := fun w' kp => eliciting_any fs[i] cs w' (hfc.mono (at_keep (w' := w') kp)) (by have := hbig _ (List.getElem_mem hlt); omega)
    repeat refine c_seq ?_
    refine c_region ?_
    refine step_pure rfl (pure_move rfl) ?_
    refine step_pure rfl (pure_assign rfl) ?_
    refine step_nil ?_
    repeat refine c_seq ?_
    refine c_region ?_
    refine step_pure rfl (pure_move rfl) ?_
    refine step_pure rfl (pure_move rfl) ?_
    refine step_pure rfl (pure_move rfl) ?_
    refine step_as rfl (pure_indexAddr_at rfl rfl rfl rfl rfl (by omega) (by omega)) (show _ = Value.pointer (some (p.add (i * 5))) from by show Value.pointer (some (p.add ((i : Int).toNat * 5))) = _; rw [Int.toNat_natCast]) ?_
    refine step_pure rfl (pure_cel_agg rfl rfl rfl h5 (fun j x hx => ⟨hp j x hx, List.not_mem_nil⟩)) ?_
    refine step_givesF (caps := []) rfl rfl fun29 rfl (fun w' _ kp => hel w' kp) ?_
    refine step_nil ?_
    have hst : ixA (fs[i] :: fs.drop (i + 1)) i = if asks fs[i] = true then (i : Int) else ixA (fs.drop (i + 1)) (i + 1) := rfl
    rw [hd, hst] at hix
    repeat refine c_seq ?_
    refine c_cond rfl (fun h => ?_) (fun h => ?_)
    · rw [if_pos h] at hix
      repeat refine c_seq ?_
      refine c_region ?_
      refine step_pure rfl (pure_move rfl) ?_
      refine step_pure rfl (pure_assign rfl) ?_
      refine step_nil ?_
      exact c_ret ⟨_, res_tmp Try.results51 rfl, by rw [hix]⟩
    · rw [if_neg (by rw [h]; decide)] at hix
      refine c_skip ?_
      repeat refine c_seq ?_
      refine c_region ?_
      first | refine step_pure rfl (pure_add64 rfl rfl (by omega) (by omega)) ?_ | refine step_pure rfl (pure_add rfl rfl) ?_
      refine step_pure rfl (pure_move rfl) ?_
      refine step_nil ?_
      exact ⟨i + 1, ⟨hlt, hix⟩, by omega, less_of ⟨rfl, rfl, rfl, rfl, trivial⟩ rfl⟩
  · have hie : i = fs.length := by have := of_decide_eq_false h; omega
    have h1 : ixA fs 0 = -1 := by rw [hix, hie, List.drop_length]; rfl
    rw [h1]
    refine c_exit ?_
    repeat refine c_seq ?_
    refine c_region ?_
    refine step_pure rfl (pure_assign rfl) ?_
    refine step_nil ?_
    exact c_ret ⟨_, res_tmp Try.results51 rfl, rfl⟩
theorem containsF_any (fs : List Fr) (v : Value) (w : World) (hv : FrsC (At w) v fs) (hbig : ∀ f ∈ fs, f.data.length ≤ maxLen) (hle : fs.length ≤ maxLen) :
    Gives tb 34 [v, .func (.func 29) #[] #[]] w (.bool (fs.any asks)) := by
  refine gives_of (fn := Try.f34) Try.func34 rfl Try.ntmps34 rfl ?_
  repeat refine c_seq ?_
  refine c_region ?_
  refine step_pure rfl (pure_assign rfl) ?_
  refine step_nil ?_
  repeat refine c_seq ?_
  refine c_region ?_
  refine step_pure rfl (pure_move rfl) ?_
  refine step_pure rfl (pure_move rfl) ?_
  refine step_gives rfl fun51 rfl (fun w' _ kp => indexF_any fs v w' (hv.mono (at_keep kp)) hbig hle) ?_
  refine step_pure rfl (pure_geq rfl rfl) ?_
  refine step_pure rfl (pure_assign rfl) ?_
  refine step_nil ?_
  exact c_ret ⟨_, res_tmp Try.results34 rfl, congrArg Value.bool (ixA_any fs 0)⟩
/-- Does a packet ask? -/
def pasks (p : Pk) : Bool := pOk p && p.fs.any asks
set_option maxHeartbeats 1000000 in
theorem peliciting_any (p : Pk) (cs : List Value) (w : World) (hp : PkC (At w) p cs) (hbig : ∀ f ∈ p.fs, f.data.length ≤ maxLen) (hle : p.fs.length ≤ maxLen) : Gives tb 18 [.agg cs.toArray] w (.bool (pasks p)) := by
  obtain ⟨fv, rfl, hv⟩ := hp
  obtain ⟨fb, fc, rfl, hfc⟩ := hv.slice
  have hck := fun w' (kp : Keep w w' []) => pcheck_any p _ w' ⟨_, rfl, hv.mono (at_keep kp)⟩ hbig
  have hcf := fun w' (kp : Keep w w' []) => containsF_any p.fs _ w' (hv.mono (at_keep kp)) hbig hle
  have he := pE_is p
  unfold pasks
  refine gives_of (fn := Try.f18) Try.func18 rfl Try.ntmps18 rfl ?_
  repeat refine c_seq ?_
  refine c_region ?_
  refine step_box_agg rfl rfl (fun b1 => ?_)
  refine step_pure rfl (pure_assign rfl) ?_
  refine step_nil ?_
  repeat refine c_seq ?_
  refine c_region ?_
  refine step_pure rfl (pure_load_agg (i := 0) rfl rfl rfl rfl rfl (by show 3 ≤ 3; decide) rfl) ?_
  refine step_gives rfl fun16 rfl (fun w' _ kp => hck w' kp) ?_
  refine step_as rfl (pure_eql rfl rfl) (show _ = Value.bool (pOk p) from by rw [he]) ?_
  clear hck he hbig
  generalize pOk p = k at *
  generalize p.fs.any asks = q at *
  refine step_pure rfl (pure_move rfl) ?_
  refine step_split (t := 6) rfl (fun h6 => ?_) (fun h6 => ?_)
  · refine step_pure rfl (pure_fieldAddr rfl rfl rfl rfl rfl (by decide)) ?_
    first | refine step_pure rfl (pure_load (i := 0) rfl rfl rfl rfl rfl rfl) ?_ | refine step_pure rfl (pure_load (i := 1) rfl rfl rfl rfl rfl rfl) ?_ | refine step_pure rfl (pure_load (i := 2) rfl rfl rfl rfl rfl rfl) ?_ | refine step_pure rfl (pure_load (i := 3) rfl rfl rfl rfl rfl rfl) ?_ | refine step_pure rfl (pure_load (i := 4) rfl rfl rfl rfl rfl rfl) ?_ | refine step_pure rfl (pure_load (i := 5) rfl rfl rfl rfl rfl rfl) ?_
    refine step_gives rfl fun34 rfl (fun w' _ kp => hcf w' kp) ?_
    refine step_pure rfl (pure_pick_yes rfl rfl) ?_
    refine step_pure rfl (pure_assign rfl) ?_
    refine step_nil ?_
    refine c_ret ⟨_, res_tmp Try.results18 rfl, congrArg Value.bool ?_⟩
    clear hcf
    simp_all
  · refine step_pass rfl rfl rfl ?_
    refine step_pass rfl rfl rfl ?_
    refine step_pass rfl rfl rfl ?_
    refine step_pure rfl (pure_pick_no rfl rfl) ?_
    refine step_pure rfl (pure_assign rfl) ?_
    refine step_nil ?_
    refine c_ret ⟨_, res_tmp Try.results18 rfl, congrArg Value.bool ?_⟩
    clear hcf
    simp_all
set_option maxHeartbeats 1000000 in
theorem rpeliciting_any (p : Pk) (cs : List Value) (w : World) (hp : PkC (At w) p cs) (hbig : ∀ f ∈ p.fs, f.data.length ≤ maxLen) (hle : p.fs.length ≤ maxLen) : Gives tb 19 [.agg cs.toArray] w (.bool (pasks p)) := by
  have hm : maxLen ≤ 9223372036854775807 := by decide
  obtain ⟨fv, rfl, hv⟩ := hp
  obtain ⟨fb, fc, rfl, hfc⟩ := hv.slice
  have hck := fun w' (kp : Keep w w' []) => rpcheck_any p _ w' ⟨_, rfl, hv.mono (at_keep kp)⟩ hbig
  have he := pE_is p
  refine gives_of (fn := Try.f19) Try.func19 rfl Try.ntmps19 rfl ?_
  repeat refine c_seq ?_
  refine c_region ?_
  refine step_box_agg rfl rfl (fun b1 => ?_)
  refine step_pure rfl (pure_assign rfl) ?_
  refine step_nil ?_
  repeat refine c_seq ?_
  refine c_region ?_
  refine step_pure rfl (pure_assign rfl) ?_
  refine step_nil ?_
  repeat refine c_seq ?_
  refine c_region ?_
  refine step_pure rfl (pure_assign rfl) ?_
  refine step_nil ?_
  repeat refine c_seq ?_
  refine c_block ?_
  repeat refine c_seq ?_
  refine c_loop (α := Nat) (fun i => [(1, .pointer (some ⟨b1, 0, none⟩)), (3, .bool ((p.fs.take i).any asks)), (4, .int .i64 i)]) (fun _ => [⟨b1, [.int .i64 p.side, .int .i64 p.num, .slice fb p.fs.length fc], 24⟩]) (fun i => i ≤ p.fs.length) (fun i => p.fs.length - i) 0 (Nat.zero_le _) (less_of ⟨rfl, rfl, rfl, trivial⟩ rfl) ?_
  intro i hi
  repeat refine c_seq ?_
  refine c_region ?_
  refine step_pure rfl (pure_move rfl) ?_
  refine step_pure rfl (pure_fieldAddr rfl rfl rfl rfl rfl (by decide)) ?_
  first | refine step_pure rfl (pure_load (i := 0) rfl rfl rfl rfl rfl rfl) ?_ | refine step_pure rfl (pure_load (i := 1) rfl rfl rfl rfl rfl rfl) ?_ | refine step_pure rfl (pure_load (i := 2) rfl rfl rfl rfl rfl rfl) ?_ | refine step_pure rfl (pure_load (i := 3) rfl rfl rfl rfl rfl rfl) ?_ | refine step_pure rfl (pure_load (i := 4) rfl rfl rfl rfl rfl rfl) ?_ | refine step_pure rfl (pure_load (i := 5) rfl rfl rfl rfl rfl rfl) ?_
  refine step_pure rfl (pure_len_slice rfl rfl rfl) ?_
  refine step_pure rfl (pure_lss rfl rfl) ?_
  refine step_nil ?_
  repeat refine c_seq ?_
  refine c_cond rfl (fun h => ?_) (fun h => ?_)
  · have hlt : i < p.fs.length := by have := of_decide_eq_true h; omega
    clear h
    refine c_skip ?_
    repeat refine c_seq ?_
    refine c_block ?_
    obtain ⟨q, cp, cs, hq, hfc, hp⟩ := hv.at hlt
    cases hq
    have h5 := hfc.five
    have hel := fun w' kp => reliciting_any p.fs[i] cs w' (hfc.mono (at_keep (w' := w') kp)) (by have := hbig _ (List.getElem_mem hlt); omega)
    have htk : (p.fs.take (i + 1)).any asks = ((p.fs.take i).any asks || asks p.fs[i]) := by rw [List.take_succ_eq_append_getElem hlt, List.any_append, List.any_cons, List.any_nil, Bool.or_false]
    repeat refine c_seq ?_
    refine c_region ?_
    refine step_pure rfl (pure_fieldAddr rfl rfl rfl rfl rfl (by decide)) ?_
    first | refine step_pure rfl (pure_load (i := 0) rfl rfl rfl rfl rfl rfl) ?_ | refine step_pure rfl (pure_load (i := 1) rfl rfl rfl rfl rfl rfl) ?_ | refine step_pure rfl (pure_load (i := 2) rfl rfl rfl rfl rfl rfl) ?_ | refine step_pure rfl (pure_load (i := 3) rfl rfl rfl rfl rfl rfl) ?_ | refine step_pure rfl (pure_load (i := 4) rfl rfl rfl rfl rfl rfl) ?_ | refine step_pure rfl (pure_load (i := 5) rfl rfl rfl rfl rfl rfl) ?_
    refine step_pure rfl (pure_move rfl) ?_
    refine step_as rfl (pure_indexAddr_at rfl rfl rfl rfl rfl (by omega) (by omega)) (show _ = Value.pointer (some (q.add (i * 5))) from by show Value.pointer (some (q.add ((i : Int).toNat * 5))) = _; rw [Int.toNat_natCast]) ?_
    refine step_pure rfl (pure_cel_agg rfl rfl rfl h5 (fun j x hx => ⟨hp j x hx, List.not_mem_nil⟩)) ?_
    refine step_gives rfl fun35 rfl (fun w' _ kp => hel w' kp) ?_
    refine step_pure rfl (pure_assign rfl) ?_
    refine step_nil ?_
    clear hel hp hfc
    generalize ht1 : (p.fs.take (i + 1)).any asks = t1 at *
    generalize (p.fs.take i).any asks = t0 at *
    generalize asks p.fs[i] = f0 at *
    repeat refine c_seq ?_
    refine c_meet [(1, .pointer (some ⟨b1, 0, none⟩)), (3, .bool t1), (4, .int .i64 i)] [⟨b1, [.int .i64 p.side, .int .i64 p.num, .slice (some q) p.fs.length fc], 24⟩] ?_ ?_
    · subst htk
      repeat refine c_seq ?_
      refine c_region ?_
      refine step_pure rfl (pure_move rfl) ?_
      refine step_pure rfl (pure_move rfl) ?_
      refine step_split (t := 20) rfl (fun h20 => ?_) (fun h20 => ?_)
      · refine step_pass rfl rfl rfl ?_
        refine step_pure rfl (pure_pick_yes rfl rfl) ?_
        refine step_pure rfl (pure_assign rfl) ?_
        refine step_nil ?_
        refine less_of ⟨rfl, ?_, rfl, trivial⟩ rfl
        refine congrArg some (congrArg Value.bool ?_)
        clear hck hv hbig he
        simp_all
      · refine step_pure rfl (pure_move rfl) ?_
        refine step_pure rfl (pure_pick_no rfl rfl) ?_
        refine step_pure rfl (pure_assign rfl) ?_
        refine step_nil ?_
        refine less_of ⟨rfl, ?_, rfl, trivial⟩ rfl
        refine congrArg some (congrArg Value.bool ?_)
        clear hck hv hbig he
        simp_all
    repeat refine c_seq ?_
    refine c_region ?_
    refine step_pure rfl (pure_move rfl) ?_
    first | refine step_pure rfl (pure_add64 rfl rfl (by omega) (by omega)) ?_ | refine step_pure rfl (pure_add rfl rfl) ?_
    refine step_pure rfl (pure_assign rfl) ?_
    refine step_nil ?_
    exact ⟨i + 1, hlt, by omega, less_of ⟨rfl, by show some (Value.bool t1) = _; rw [← ht1], rfl, trivial⟩ rfl⟩
  · have hie : i = p.fs.length := by have := of_decide_eq_false h; omega
    rw [hie, List.take_length]
    refine c_exit ?_
    unfold pasks
    repeat refine c_seq ?_
    refine c_region ?_
    refine step_pure rfl (pure_load_agg (i := 0) rfl rfl rfl rfl rfl (by show 3 ≤ 3; decide) rfl) ?_
    refine step_gives rfl fun17 rfl (fun w' _ kp => hck w' kp) ?_
    refine step_as rfl (pure_eql rfl rfl) (show _ = Value.bool (pOk p) from by rw [he]) ?_
    clear hck he hbig
    generalize pOk p = k at *
    generalize p.fs.any asks = q at *
    refine step_pure rfl (pure_move rfl) ?_
    refine step_split (t := 26) rfl (fun h26 => ?_) (fun h26 => ?_)
    · refine step_pure rfl (pure_move rfl) ?_
      refine step_pure rfl (pure_pick_yes rfl rfl) ?_
      refine step_pure rfl (pure_assign rfl) ?_
      refine step_nil ?_
      refine c_ret ⟨_, res_tmp Try.results19 rfl, congrArg Value.bool ?_⟩
      simp_all
    · refine step_pass rfl rfl rfl ?_
      refine step_pure rfl (pure_pick_no rfl rfl) ?_
      refine step_pure rfl (pure_assign rfl) ?_
      refine step_nil ?_
      refine c_ret ⟨_, res_tmp Try.results19 rfl, congrArg Value.bool ?_⟩
      simp_all
end Go.Proofs.Ytajcfafamdacdaa
