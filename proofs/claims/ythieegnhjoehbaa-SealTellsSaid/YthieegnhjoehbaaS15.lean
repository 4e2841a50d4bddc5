/- What the laws of seals share: keys compared, and opened; which packets are short; what is sealed opens: partly plain. -/
import Derived.Test.YthieegnhjoehbaaS11
import Derived.Test.YthieegnhjoehbaaS14
import Derived.Test.YthieegnhjoehbaaP8
namespace Go.Proofs.Ythieegnhjoehbaa
open Go.RowKit Go.Vc Go.ChangeShapes Go.WideShapes
set_option linter.unusedVariables false
set_option linter.unusedSimpArgs false
/-! keys that came in -/
theorem flat16 {C : Addr → Value → Prop} {n sz : Nat} {l : List Int} {cs : List Value} (h : RArr n 1 (RInt .u8) C l cs) : cs = row l ∧ l.length = n ∧ Bytes l := by
 obtain ⟨css, h1, h2, h3, rfl⟩ := h
 refine ⟨?_, h2, fun x hx => ?_⟩
 ·have e : css = l.map fun x => [Value.int .u8 x] := by
   refine List.ext_getElem? fun i => ?_
   rw [List.getElem?_map]
   by_cases hi : i < l.length
   ·rw [List.getElem?_eq_getElem hi, List.getElem?_eq_getElem (by omega)]
    rw [(h3 i _ _ (List.getElem?_eq_getElem hi) (List.getElem?_eq_getElem (by omega))).1.1]
    rfl
   ·rw [List.getElem?_eq_none (by omega), List.getElem?_eq_none (by omega)]
    rfl
  rw [e, flat_one]
  rfl
 ·obtain ⟨i, hi, rfl⟩ := List.getElem_of_mem hx
  exact wf_u8 (h3 i _ _ (List.getElem?_eq_getElem hi) (List.getElem?_eq_getElem (by omega))).1.2
theorem flat2 {C : Addr → Value → Prop} {n : Nat} {ls : List (List Int)} {cs : List Value} (h : RArr 2 n (RArr n 1 (RInt .u8)) C ls cs) : ∃ l, cs = row l ∧ l.length = 2 * n ∧ Bytes l := by
 obtain ⟨css, h1, h2, h3, rfl⟩ := h
 match css, ls, h1, h2, h3 with
 | [c1, c2], [l1, l2], _, _, h3 =>
  obtain ⟨rfl, a2, a3⟩ := flat16 (sz := n) (h3 0 l1 c1 rfl rfl).1
  obtain ⟨rfl, b2, b3⟩ := flat16 (sz := n) (h3 1 l2 c2 rfl rfl).1
  refine ⟨l1 ++ l2, ?_, by rw [List.length_append]; omega, a3.append b3⟩
  simp only [List.flatten_cons, List.flatten_nil, List.append_nil]
  exact row_app _ _
def RKeys : Rep (List Int) := fun _ K cs => cs = row K ∧ K.length = 96 ∧ Bytes K
theorem opens_enc1 : Opens Try.prog 28 (16 * 1) (RArr 16 1 (RInt .u8)) := opens_array Try.underlying28 (by kernel_rfl) opens_u8
theorem opens_enc : Opens Try.prog 29 (2 * 16) (RArr 2 16 (RArr 16 1 (RInt .u8))) := opens_array Try.underlying29 (by kernel_rfl) opens_enc1
theorem opens_mac1 : Opens Try.prog 30 (32 * 1) (RArr 32 1 (RInt .u8)) := opens_array Try.underlying30 (by kernel_rfl) opens_u8
theorem opens_mac : Opens Try.prog 31 (2 * 32) (RArr 2 32 (RArr 32 1 (RInt .u8))) := opens_array Try.underlying31 (by kernel_rfl) opens_mac1
theorem opens_keys0 : Opens Try.prog 33 96 (RCons 32 (RArr 2 16 (RArr 16 1 (RInt .u8))) (RCons 64 (RArr 2 32 (RArr 32 1 (RInt .u8))) RNil)) :=
 opens_struct Try.underlying33 (by kernel_rfl) (fs_cons opens_enc rfl (fs_cons opens_mac rfl fs_nil))
set_option maxRecDepth 100000 in
/-- A parameter Keys. -/
theorem open_keys {H : Type} {enc : TypeId × Value → H} {W : World} {base : Nat} {sp : Nat → Bool} {hd : Bool} {r : Reach} {b0 : Nat} {v : Value} {d : DataW H} {ps : List MemPlace}
  (hv : Value.okWide Try.prog W r b0 33 v) (h : DataW.Trod enc Try.prog W base sp hd 33 v d ps) :
  ∃ K : List Int, v = .agg (row K).toArray ∧ K.length = 96 ∧ Bytes K := by
 obtain ⟨cs, rfl, _⟩ := okWide_struct Try.underlying33 hv
 obtain ⟨_, ⟨a, b, u⟩, c1, c2, hc, _, h1, d1, d2, hc2, _, h2, h3⟩ := opens_keys0.arg h
 obtain ⟨l1, rfl, n1, b1⟩ := flat2 h1
 obtain ⟨l2, rfl, n2, b2⟩ := flat2 h2
 have h3 : d2 = [] := h3
 subst h3
 rw [List.append_nil] at hc2
 subst hc2
 refine ⟨l1 ++ l2, ?_, by rw [List.length_append]; omega, b1.append b2⟩
 rw [← row_app, ← hc]
 show Value.agg cs = .agg cs.toList.toArray
 rw [Array.toArray_toList]
/-! keys compared with themselves -/
theorem guardKeys : tb.P.eqGuardType tb.P.depth 39 = false := by kernel_rfl
theorem stoodKeys : tb.P.stoodInHeld 39 = false := by kernel_rfl
theorem underKeys : tb.P.underlying 39 = some (.struct (tb.P.fieldsOf 39)) := by kernel_rfl
theorem fieldsKeys : (tb.P.fieldsOf 39).toList.map (fun f => (f.name, f.type, f.offset)) = [("Enc", 29, 0), ("Mac", 31, 32)] := by kernel_rfl
theorem run_eq_arr2 {T e f : TypeId} {dT u v : Ty} {k : IntKind} {n sz : Nat} {l : List Int} (hT : tb.ty T = some dT) (hd : dT.desc = .array n e) (hu : tb.ty e = some u) (hud : u.desc = .array sz f) (ha : u.agg = true) (hs : u.size = sz) (hv : tb.ty f = some v) (hk : v.desc = .int k) (hvs : v.size = 1) (hva : v.agg = false)
  (hl : l.length = n * sz) (d : Nat) (w : World) : (Op.equalIn (d + 3) T (.agg (ints k l).toArray) (.agg (ints k l).toArray)).run tb.P w = .ok true w := by
 have h1 := under_plain hT (by rw [hd]; rfl)
 rw [hd] at h1
 obtain ⟨i, hi, _⟩ := info_of hu
 rw [run_equalIn_array w (d + 2) _ _ h1 hi, cells_of hu, hs]
 exact run_items_arr hu hud ha hs hv hk hvs hva d l w _ (fun j hj => by
  have := List.mem_range.1 hj
  rw [hl]
  exact Nat.mul_le_mul_right sz this)
theorem run_eq_keys {K : List Int} (hK : K.length = 96) (d : Nat) (w : World) : (Op.equalIn (d + 4) 39 (.agg (row K).toArray) (.agg (row K).toArray)).run tb.P w = .ok true w := by
 rw [run_equalIn_struct w (d + 3) _ _ _ underKeys stoodKeys]
 have hf := fieldsKeys
 generalize (tb.P.fieldsOf 39).toList = fs at hf
 obtain ⟨f1, f2, rfl⟩ : ∃ f1 f2, fs = [f1, f2] := by
  have hl := congrArg List.length hf
  match fs, hl with
  | [f1, f2], _ => exact ⟨f1, f2, rfl⟩
 simp only [List.map_cons, List.map_nil, List.cons.injEq, Prod.mk.injEq, and_true] at hf
 obtain ⟨⟨n1, t1, o1⟩, n2, t2, o2⟩ := hf
 have h1 : tb.ty 29 = some ⟨.array 2 28, 32, true⟩ := rfl
 have h2 : tb.ty 31 = some ⟨.array 2 30, 64, true⟩ := rfl
 have e1 : (row K).toArray.extract 0 (0 + 32) = (row (K.take 32)).toArray := by
  rw [show (0 + 32) = 32 from rfl]
  simp [ints, List.map_take]
 have e2 : (row K).toArray.extract 32 (32 + 64) = (row (K.drop 32)).toArray := by
  rw [show (32 + 64) = 96 from rfl]
  have : (row K).length = 96 := by rw [row_len, hK]
  simp [ints, List.map_drop]
  rw [List.take_of_length_le]
  rw [List.length_drop, List.length_map]
  omega
 have q1 := fun w => run_eq_arr2 (T := 29) (k := .u8) (l := K.take 32) rfl rfl rfl rfl rfl rfl rfl rfl rfl rfl (by rw [List.length_take]; omega) d w
 have q2 := fun w => run_eq_arr2 (T := 31) (k := .u8) (l := K.drop 32) rfl rfl rfl rfl rfl rfl rfl rfl rfl rfl (by rw [List.length_drop]; omega) d w
 have p1 := fun w => run_part_agg (cs := (row K).toArray) (off := 0) h1 rfl w
 have p2 := fun w => run_part_agg (cs := (row K).toArray) (off := 32) h2 rfl w
 rw [e1] at p1
 rw [e2] at p2
 simp only [Op.eqFields, n1, n2, t1, t2, o1, o2, Sem.run_bind, Sem.run_ite, p1, p2, Result.andThen_ok, q1, q2]
 simp
theorem pure_eql_keys {E : Env} {rs : Rs} {m : Mem} {dst : Option Tmp} {ty : TypeId} {pos : String} {aft : Array Edge} {gd : Option (Nat × Bool)} {x y : Operand} {U : TypeId} {K : List Int} (hx : ev rs x = some (.agg (row K).toArray)) (hy : ev rs y = some (.agg (row K).toArray)) (hK : K.length = 96) :
  Pure tb E rs m ⟨dst, .binOp .eql 39 x y U, ty, pos, aft, gd⟩ (.bool true) := by
 refine ⟨fun a' w hr hh hk => ?_⟩
 have key := run_eq_keys hK 9996 w
 simp [execOp, ev_ok hr hx, ev_ok hr hy, eqGuard, binOp, guardKeys, Op.equal, Op.maxDepth, key]
/-! short packets -/
def okFr (f : Fr) : Bool := !(decide ((f.data.length : Int) > 300) || ((f.kind == 0 && decide (f.a > 300)) && decide (f.a ≤ 2048)))
def shB (fs : List Fr) : Bool := fewB fs && fs.all okFr
theorem shB_few {fs : List Fr} (h : shB fs = true) : fewB fs = true := by
 unfold shB at h
 rw [Bool.and_eq_true] at h
 exact h.1
set_option maxHeartbeats 1000000 in
theorem short_any (p : Pk) (cs : List Value) (w : World) (hp : PkC (At w) p cs) (hbig : ∀ f ∈ p.fs, f.data.length ≤ maxLen) (hle : p.fs.length ≤ maxLen) : Gives tb 10 [.agg cs.toArray] w (.bool (shB p.fs)) := by
 have hm : maxLen ≤ 9223372036854775807 := by decide
 obtain ⟨fv, rfl, hv⟩ := hp
 obtain ⟨base1, cap1, rfl, hcap1⟩ := hv.slice
 refine gives_of (fn := Try.f10) Try.func10 rfl Try.ntmps10 rfl ?_
 repeat refine c_seq ?_
 refine c_region ?_
 refine step_box_agg rfl rfl (fun b1 => ?_)
 refine qa rfl rfl ?_
 refine step_nil ?_
 repeat refine c_seq ?_
 refine c_region ?_
 refine step_pure rfl (pure_fieldAddr rfl rfl rfl rfl rfl (by decide)) ?_
 refine step_pure rfl (pure_load (i := 0) rfl rfl rfl rfl rfl rfl) ?_
 refine step_gives rfl fun24 rfl (fun w' hh kp => few_any p.fs _ w' (hv.mono (at_keep kp))) ?_
 refine step_pure rfl (pure_not rfl) ?_
 refine step_nil ?_
 unfold shB
 cases hfew : fewB p.fs with
 | false =>
  repeat refine c_seq ?_
  refine c_cond_yes rfl rfl ?_
  repeat refine c_seq ?_
  refine c_region ?_
  refine qa rfl rfl ?_
  refine step_nil ?_
  exact c_ret ⟨_, res_tmp Try.results10 rfl, rfl⟩
 | true =>
 repeat refine c_seq ?_
 refine c_cond_no rfl rfl ?_
 refine c_skip ?_
 rw [Bool.true_and]
 repeat refine c_seq ?_
 refine c_region ?_
 refine qa rfl rfl ?_
 refine step_nil ?_
 repeat refine c_seq ?_
 refine c_block ?_
 repeat refine c_seq ?_
 refine c_loop (α := Nat) (fun i => [(1, .pointer (some ⟨b1, 0, none⟩)), (3, .int .i64 i)]) (fun _ => [⟨b1, [.int .i64 p.side, .int .i64 p.num, .slice base1 p.fs.length cap1], 25⟩])
  (fun i => i ≤ p.fs.length ∧ ∀ j f, j < i → p.fs[j]? = some f → okFr f = true) (fun i => p.fs.length - i) 0 ⟨Nat.zero_le _, by omega⟩ (less_of ⟨rfl, rfl, trivial⟩ rfl) ?_
 rintro i ⟨hi, hall⟩
 repeat refine c_seq ?_
 refine c_region ?_
 refine qm rfl rfl ?_
 refine step_pure rfl (pure_fieldAddr rfl rfl rfl rfl rfl (by decide)) ?_
 refine step_pure rfl (pure_load (i := 0) rfl rfl rfl rfl rfl rfl) ?_
 refine step_pure rfl (pure_len_slice rfl rfl rfl) ?_
 refine step_pure rfl (pure_lss rfl rfl) ?_
 refine step_nil ?_
 repeat refine c_seq ?_
 refine c_cond rfl (fun h => ?_) (fun h => ?_)
 ·have hlt : i < p.fs.length := by have := of_decide_eq_true h; omega
  clear h
  refine c_skip ?_
  repeat refine c_seq ?_
  refine c_block ?_
  obtain ⟨p1, cp, cs, hq, hfc, hpc⟩ := hv.at hlt
  cases hq
  obtain ⟨rv, dv, rfl, hr, hd⟩ := hfc
  obtain ⟨db, dc, rfl, -, -, -⟩ := hd
  have hc0 := hpc 0 _ rfl
  have hc1 := hpc 1 _ rfl
  have hc4 := hpc 4 _ rfl
  have hsf : okFr p.fs[i] = !(decide ((p.fs[i].data.length : Int) > 300) || ((p.fs[i].kind == 0 && decide (p.fs[i].a > 300)) && decide (p.fs[i].a ≤ 2048))) := rfl
  have hdl := hbig _ (List.getElem_mem hlt)
  repeat refine c_seq ?_
  repeat refine c_seq ?_
  refine c_meet [(1, .pointer (some ⟨b1, 0, none⟩)), (3, .int .i64 i), (49, .bool (!okFr p.fs[i]))] [⟨b1, [.int .i64 p.side, .int .i64 p.num, .slice (some p1) p.fs.length cap1], 25⟩] ?_ ?_
  ·rw [hsf]
   generalize p.fs[i].data.length = dl at *
   generalize p.fs[i].kind = fk at *
   generalize p.fs[i].a = fa at *
   clear hsf hfew hall
   repeat refine c_seq ?_
   refine c_region ?_
   refine step_pure rfl (pure_fieldAddr rfl rfl rfl rfl rfl (by decide)) ?_
   refine step_pure rfl (pure_load (i := 0) rfl rfl rfl rfl rfl rfl) ?_
   refine qm rfl rfl ?_
   refine step_as rfl (pure_indexAddr_at rfl rfl rfl rfl rfl (by omega) (by omega)) (show _ = Value.pointer (some (p1.add (i * 5))) from by show Value.pointer (some (p1.add ((i : Int).toNat * 5))) = _; rw [Int.toNat_natCast]) ?_
   refine step_pure rfl (pure_fieldAddr_at rfl rfl rfl rfl rfl (by decide)) ?_
   refine step_pure rfl (pure_view_at rfl rfl rfl hc4 List.not_mem_nil) ?_
   refine step_pure rfl (pure_len_slice rfl rfl rfl) ?_
   refine step_pure rfl (pure_gtr rfl rfl) ?_
   refine qm rfl rfl ?_
   refine step_split (t := 23) rfl (fun h23 => ?_) (fun h23 => ?_)
   ·refine qp rfl rfl rfl ?_
    refine qp rfl rfl rfl ?_
    refine qp rfl rfl rfl ?_
    refine qp rfl rfl rfl ?_
    refine qp rfl rfl rfl ?_
    refine qp rfl rfl rfl ?_
    refine qp rfl rfl rfl ?_
    refine qp rfl rfl rfl ?_
    refine qp rfl rfl rfl ?_
    refine qp rfl rfl rfl ?_
    refine qp rfl rfl rfl ?_
    refine qp rfl rfl rfl ?_
    refine qp rfl rfl rfl ?_
    refine qp rfl rfl rfl ?_
    refine qp rfl rfl rfl ?_
    refine qp rfl rfl rfl ?_
    refine qp rfl rfl rfl ?_
    refine qp rfl rfl rfl ?_
    refine qp rfl rfl rfl ?_
    refine qp rfl rfl rfl ?_
    refine qp rfl rfl rfl ?_
    refine qp rfl rfl rfl ?_
    refine qp rfl rfl rfl ?_
    refine qp rfl rfl rfl ?_
    refine qp rfl rfl rfl ?_
    refine step_pure rfl (pure_pick_yes rfl rfl) ?_
    refine step_nil ?_
    refine less_of ⟨rfl, rfl, ?_, trivial⟩ rfl
    refine congrArg some (congrArg Value.bool ?_)
    clear hc0 hc1 hc4 hpc hv
    simp_all
    try omega
   ·refine step_pure rfl (pure_fieldAddr rfl rfl rfl rfl rfl (by decide)) ?_
    refine step_pure rfl (pure_load (i := 0) rfl rfl rfl rfl rfl rfl) ?_
    refine qm rfl rfl ?_
    refine step_as rfl (pure_indexAddr_at rfl rfl rfl rfl rfl (by omega) (by omega)) (show _ = Value.pointer (some (p1.add (i * 5))) from by show Value.pointer (some (p1.add ((i : Int).toNat * 5))) = _; rw [Int.toNat_natCast]) ?_
    refine step_pure rfl (pure_fieldAddr_at rfl rfl rfl rfl rfl (by decide)) ?_
    refine step_pure rfl (pure_view_at rfl rfl rfl hc0 List.not_mem_nil) ?_
    refine step_pure rfl (pure_eql rfl rfl) ?_
    refine qm rfl rfl ?_
    refine step_split (t := 31) rfl (fun h31 => ?_) (fun h31 => ?_)
    ·refine step_pure rfl (pure_fieldAddr rfl rfl rfl rfl rfl (by decide)) ?_
     refine step_pure rfl (pure_load (i := 0) rfl rfl rfl rfl rfl rfl) ?_
     refine qm rfl rfl ?_
     refine step_as rfl (pure_indexAddr_at rfl rfl rfl rfl rfl (by omega) (by omega)) (show _ = Value.pointer (some (p1.add (i * 5))) from by show Value.pointer (some (p1.add ((i : Int).toNat * 5))) = _; rw [Int.toNat_natCast]) ?_
     refine step_pure rfl (pure_fieldAddr_at rfl rfl rfl rfl rfl (by decide)) ?_
     refine step_pure rfl (pure_view_at rfl rfl rfl hc1 List.not_mem_nil) ?_
     refine step_pure rfl (pure_gtr rfl rfl) ?_
     refine step_pure rfl (pure_pick_yes rfl rfl) ?_
     refine qm rfl rfl ?_
     refine step_split (t := 40) rfl (fun h40 => ?_) (fun h40 => ?_)
     ·refine step_pure rfl (pure_fieldAddr rfl rfl rfl rfl rfl (by decide)) ?_
      refine step_pure rfl (pure_load (i := 0) rfl rfl rfl rfl rfl rfl) ?_
      refine qm rfl rfl ?_
      refine step_as rfl (pure_indexAddr_at rfl rfl rfl rfl rfl (by omega) (by omega)) (show _ = Value.pointer (some (p1.add (i * 5))) from by show Value.pointer (some (p1.add ((i : Int).toNat * 5))) = _; rw [Int.toNat_natCast]) ?_
      refine step_pure rfl (pure_fieldAddr_at rfl rfl rfl rfl rfl (by decide)) ?_
      refine step_pure rfl (pure_view_at rfl rfl rfl hc1 List.not_mem_nil) ?_
      refine step_pure rfl (pure_leq rfl rfl) ?_
      refine step_pure rfl (pure_pick_yes rfl rfl) ?_
      refine step_pure rfl (pure_pick_no rfl rfl) ?_
      refine step_nil ?_
      refine less_of ⟨rfl, rfl, ?_, trivial⟩ rfl
      refine congrArg some (congrArg Value.bool ?_)
      clear hc0 hc1 hc4 hpc hv
      simp_all
      try omega
     ·refine qp rfl rfl rfl ?_
      refine qp rfl rfl rfl ?_
      refine qp rfl rfl rfl ?_
      refine qp rfl rfl rfl ?_
      refine qp rfl rfl rfl ?_
      refine qp rfl rfl rfl ?_
      refine qp rfl rfl rfl ?_
      refine step_pure rfl (pure_pick_no rfl rfl) ?_
      refine step_pure rfl (pure_pick_no rfl rfl) ?_
      refine step_nil ?_
      refine less_of ⟨rfl, rfl, ?_, trivial⟩ rfl
      refine congrArg some (congrArg Value.bool ?_)
      clear hc0 hc1 hc4 hpc hv
      simp_all
      try omega
    ·refine qp rfl rfl rfl ?_
     refine qp rfl rfl rfl ?_
     refine qp rfl rfl rfl ?_
     refine qp rfl rfl rfl ?_
     refine qp rfl rfl rfl ?_
     refine qp rfl rfl rfl ?_
     refine qp rfl rfl rfl ?_
     refine step_pure rfl (pure_pick_no rfl rfl) ?_
     refine qm rfl rfl ?_
     refine qp rfl rfl rfl ?_
     refine qp rfl rfl rfl ?_
     refine qp rfl rfl rfl ?_
     refine qp rfl rfl rfl ?_
     refine qp rfl rfl rfl ?_
     refine qp rfl rfl rfl ?_
     refine qp rfl rfl rfl ?_
     refine step_pure rfl (pure_pick_no rfl rfl) ?_
     refine step_pure rfl (pure_pick_no rfl rfl) ?_
     refine step_nil ?_
     refine less_of ⟨rfl, rfl, ?_, trivial⟩ rfl
     refine congrArg some (congrArg Value.bool ?_)
     clear hc0 hc1 hc4 hpc hv
     simp_all
     try omega
  repeat refine c_seq ?_
  refine c_cond rfl (fun h => ?_) (fun h => ?_)
  ·have hz : okFr p.fs[i] = false := by simpa using h
   rw [show p.fs.all okFr = false by
    rw [List.all_eq_false]
    exact ⟨p.fs[i], List.getElem_mem hlt, by simp [hz]⟩]
   repeat refine c_seq ?_
   refine c_region ?_
   refine qa rfl rfl ?_
   refine step_nil ?_
   exact c_ret ⟨_, res_tmp Try.results10 rfl, rfl⟩
  ·have hz : okFr p.fs[i] = true := by simpa using h
   refine c_skip ?_
   repeat refine c_seq ?_
   refine c_region ?_
   refine qm rfl rfl ?_
   refine step_pure rfl (pure_add64 rfl rfl (by omega) (by omega)) ?_
   refine qa rfl rfl ?_
   refine step_nil ?_
   refine ⟨i + 1, ⟨hlt, fun j f hj hf => ?_⟩, by omega, less_of ⟨rfl, rfl, trivial⟩ rfl⟩
   by_cases hji : j = i
   ·subst hji
    rw [List.getElem?_eq_getElem hlt] at hf
    cases hf
    exact hz
   ·exact hall j f (by omega) hf
 ·have hie : i = p.fs.length := by have := of_decide_eq_false h; omega
  rw [show p.fs.all okFr = true by
   rw [List.all_eq_true]
   intro f hf
   obtain ⟨j, hj, rfl⟩ := List.mem_iff_getElem.1 hf
   exact hall j _ (by omega) (List.getElem?_eq_getElem hj)]
  refine c_exit ?_
  repeat refine c_seq ?_
  refine c_region ?_
  refine qa rfl rfl ?_
  refine step_nil ?_
  exact c_ret ⟨_, res_tmp Try.results10 rfl, rfl⟩
/-! what is sealed opens -/
theorem tagF_def (key text : List Int) : tagF key text = (macF key text).take 16 := rfl
theorem hdd_sealB (K : List Int) {p : Pk} (h : pOk p = true) : hdd (sealB K p) = some (p.side, p.num, (hB p.side p.num).length) := by
 rw [sealB_yes K h]
 unfold outT
 rw [List.append_assoc]
 exact hdd_hB (pOk_in h).1 _
theorem sealB_len (K : List Int) {p : Pk} (h : pOk p = true) : (sealB K p).length = (outT K p).length + 16 := by rw [sealB_yes K h, List.length_append, tagF_len]
theorem outT_len (K : List Int) (p : Pk) : (outT K p).length = (hB p.side p.num).length + (wBs p.fs).length := by unfold outT; rw [List.length_append, hid_len]
theorem seal_open (K K' : List Int) {p : Pk} (h : pOk p = true) (hb : ∀ f ∈ p.fs, Bytes f.data) (he : encK K' p.side.toNat = encK K p.side.toNat) (hm : macK K' p.side.toNat = macK K p.side.toNat) :
  opRd K' p.side (sealB K p) = some (some p) := by
 have hpo := pOk_in h
 have hd := hdd_sealB K h
 have hl := sealB_len K h
 have hol := outT_len K p
 have hsub : (sealB K p).length - 16 = (outT K p).length := by omega
 have h1 : (sealB K p).take (outT K p).length = outT K p := by rw [sealB_yes K h, List.take_left]
 have h2 : (sealB K p).drop (outT K p).length = tagF (macK K p.side.toNat) (outT K p) := by rw [sealB_yes K h, List.drop_left]
 have htg : tgOk K' p.side (sealB K p) = true := by
  rw [tgOk_some hd, hsub, h1, h2, hm, decide_eq_true rfl, decide_eq_true rfl, decide_eq_true (by omega)]
  rfl
 rw [opRd_some hd htg, hsub]
 have h3 : ((sealB K p).drop (hB p.side p.num).length).take ((outT K p).length - (hB p.side p.num).length) = hid K p.side.toNat p.num (wBs p.fs) := by
  rw [sealB_yes K h]
  unfold outT
  rw [List.append_assoc, List.drop_left, List.length_append, Nat.add_sub_cancel_left, List.take_left]
 have h4 : ∀ b, hid K' p.side.toNat p.num b = hid K p.side.toNat p.num b := fun b => by unfold hid; rw [he]
 rw [h3, h4, hid_back K _ _ _ (wBs_bytes hb), rd_wBs hpo.2.1]
 show some (if p.fs.length = 0 then none else some _) = _
 rw [if_neg hpo.2.2]
theorem opX_ok {K : List Int} {frm : Int} {b : List Int} {p : Pk} (h : opRd K frm b = some (some p)) : opX K frm b = 0 ∧ opG K frm b = p := by
 unfold opX opG
 rw [h]
 exact ⟨rfl, rfl⟩
theorem opRd_no {K : List Int} {frm : Int} {b : List Int} (h : tgOk K frm b = false) : opRd K frm b = none := by unfold opRd; rw [h]; rfl
theorem opX_no {K : List Int} {frm : Int} {b : List Int} (h : tgOk K frm b = false) : opX K frm b = 70 := by
 unfold opX
 rw [opRd_no h]
theorem opX_70 (K : List Int) (frm : Int) (b : List Int) : (opX K frm b == 70) = !tgOk K frm b := by
 cases h : tgOk K frm b with
 | false => rw [opX_no h]; rfl
 | true =>
  unfold opX opRd
  rw [if_pos h]
  cases (hdd b).bind fun h => (rdAll (shown K b h)).bind fun l => if l.length = 0 then none else some (⟨h.1, h.2.1, l⟩ : Pk) <;> rfl
theorem seal_other (K K' : List Int) (frm : Int) {p : Pk} (h : pOk p = true) (hne : p.side ≠ frm) : opX K' frm (sealB K p) = 70 := by
 refine opX_no ?_
 rw [tgOk_some (hdd_sealB K h), decide_eq_false hne]
 rfl
theorem sealB_bytes {K : List Int} {p : Pk} : Bytes (sealB K p) := by
 unfold sealB
 split
 ·rename_i h
  exact (outT_bytes K h).append (tagF_bytes _ _)
 ·intro x hx; cases hx
theorem sealB_le (K : List Int) (p : Pk) : (sealB K p).length ≤ 80025 := by
 cases h : pOk p with
 | false => rw [sealB_no K h]; exact Nat.zero_le _
 | true =>
  have := outT_le K p
  rw [sealB_len K h]
  omega
end Go.Proofs.Ythieegnhjoehbaa
