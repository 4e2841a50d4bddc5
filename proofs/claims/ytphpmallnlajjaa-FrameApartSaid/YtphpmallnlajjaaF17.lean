/- The document's Same and All, walked. -/
import Derived.Test.YtphpmallnlajjaaF16
import Derived.Laws.StructEq
namespace Go.Proofs.Ytphpmallnlajjaa
open Go.RowKit Go.Vc
set_option linter.unusedVariables false
set_option linter.unusedSimpArgs false

/-! ranges, compared -/
theorem guardRg : tb.P.eqGuardType tb.P.depth 45 = false := by kernel_rfl
theorem stoodRg : tb.P.stoodInHeld 45 = false := by kernel_rfl
theorem underRg : tb.P.underlying 45 = some (.struct (tb.P.fieldsOf 45)) := by kernel_rfl
theorem fieldsRg : (tb.P.fieldsOf 45).toList.map (fun f => (f.name, f.type, f.offset)) = [("Low", 3, 0), ("High", 3, 1)] := by kernel_rfl
theorem run_eq_rg (d : Nat) (a b p q : Int) (w : World) : (Op.equalIn (d + 2) 45 (.agg [Value.int .i64 a, .int .i64 b].toArray) (.agg [Value.int .i64 p, .int .i64 q].toArray)).run tb.P w = .ok (a == p && b == q) w := by
  rw [run_equalIn_struct w (d + 1) _ _ _ underRg stoodRg]
  have hf := fieldsRg
  generalize (tb.P.fieldsOf 45).toList = fs at hf
  obtain ⟨f1, f2, rfl⟩ : ∃ f1 f2, fs = [f1, f2] := by
    have hl := congrArg List.length hf
    match fs, hl with
    | [f1, f2], _ => exact ⟨f1, f2, rfl⟩
  simp only [List.map_cons, List.map_nil, List.cons.injEq, Prod.mk.injEq, and_true] at hf
  obtain ⟨⟨n1, t1, o1⟩, n2, t2, o2⟩ := hf
  have hi : tb.ty 3 = some ty3 := rfl
  simp only [Op.eqFields, n1, n2, t1, t2, o1, o2, Sem.run_bind, Sem.run_ite, run_part hi rfl (cs := [Value.int .i64 a, .int .i64 b].toArray) (off := 0) (v := .int .i64 a) rfl, run_part hi rfl (cs := [Value.int .i64 a, .int .i64 b].toArray) (off := 1) (v := .int .i64 b) rfl,
    run_part hi rfl (cs := [Value.int .i64 p, .int .i64 q].toArray) (off := 0) (v := .int .i64 p) rfl, run_part hi rfl (cs := [Value.int .i64 p, .int .i64 q].toArray) (off := 1) (v := .int .i64 q) rfl, Result.andThen_ok, run_eq_int hi rfl]
  cases a == p <;> cases b == q <;> simp
theorem pure_neq_rg {E : Env} {rs : Rs} {m : Mem} {dst : Option Tmp} {ty : TypeId} {pos : String} {aft : Array Edge} {gd : Option (Nat × Bool)} {x y : Operand} {U : TypeId} {a b p q : Int}
    (hx : ev rs x = some (.agg [Value.int .i64 a, .int .i64 b].toArray)) (hy : ev rs y = some (.agg [Value.int .i64 p, .int .i64 q].toArray)) :
    Pure tb E rs m ⟨dst, .binOp .neq 45 x y U, ty, pos, aft, gd⟩ (.bool (!(a == p && b == q))) := by
  refine ⟨fun a' w hr hh hk => ?_⟩
  have key := run_eq_rg 9998 a b p q w
  simp [execOp, ev_ok hr hx, ev_ok hr hy, eqGuard, binOp, guardRg, Op.equal, Op.maxDepth, key]

def sameB (f g : Fr) : Bool := decide (f.kind = g.kind ∧ f.a = g.a ∧ f.b = g.b ∧ str f.data = str g.data ∧ f.rs = g.rs)
theorem str_list (a b : ByteArray) : a.toList = b.toList ↔ a = b :=
  ⟨fun h => by
    rw [ByteArray.toList_eq, ByteArray.toList_eq] at h
    obtain ⟨⟨x⟩⟩ := a
    obtain ⟨⟨y⟩⟩ := b
    have : x = y := h
    rw [this], fun h => h ▸ rfl⟩
theorem str_inj {a b : List Int} (ha : Bytes a) (hb : Bytes b) : str a = str b → a = b := by
  intro h
  have key : ∀ (ns : List Int) (acc : ByteArray), (ns.foldl (fun r n => r.push (UInt8.ofNat n.toNat)) acc).data.toList = acc.data.toList ++ ns.map fun n => UInt8.ofNat n.toNat := by
    intro ns
    induction ns with
    | nil => intro acc; simp
    | cons n ns ih =>
      intro acc
      rw [List.foldl_cons, ih]
      simp [ByteArray.push]
  have h2 := congrArg (fun x : ByteArray => x.data.toList) h
  simp only [str, key] at h2
  have h3 : a.map (fun n => UInt8.ofNat n.toNat) = b.map fun n => UInt8.ofNat n.toNat := List.append_cancel_left h2
  clear key h h2
  induction a generalizing b with
  | nil =>
    cases b with
    | nil => rfl
    | cons y b => cases h3
  | cons x a ih =>
    cases b with
    | nil => cases h3
    | cons y b =>
      simp only [List.map_cons, List.cons.injEq] at h3
      have hx := ha x (.head _)
      have hy := hb y (.head _)
      have e : x = y := by
        have := congrArg UInt8.toNat h3.1
        simp at this
        omega
      rw [e, ih (fun z hz => ha z (.tail _ hz)) (fun z hz => hb z (.tail _ hz)) h3.2]
theorem sameB_iff {f g : Fr} (hf : Bytes f.data) (hg : Bytes g.data) : sameB f g = true ↔ f = g := by
  unfold sameB
  rw [decide_eq_true_eq]
  constructor
  · rintro ⟨h1, h2, h3, h4, h5⟩
    obtain ⟨a1, a2, a3, a4, a5⟩ := f
    obtain ⟨b1, b2, b3, b4, b5⟩ := g
    have := str_inj hf hg h4
    simp_all
  · rintro rfl
    exact ⟨rfl, rfl, rfl, rfl, rfl⟩

set_option maxHeartbeats 4000000 in
theorem same_any (f g : Fr) (cs ds : List Value) (w : World) (hf : FrC (fun p x => w.cell? p = some x) f cs) (hg : FrC (fun p x => w.cell? p = some x) g ds) (hrl : f.rs.length ≤ 140737488355328) :
    Gives tb 33 [.agg cs.toArray, .agg ds.toArray] w (.bool (sameB f g)) := by
  obtain ⟨rv, dv, rfl, hr, hd⟩ := hf
  obtain ⟨rv2, dv2, rfl, hr2, hd2⟩ := hg
  obtain ⟨rb, rc, rfl, -, -, -⟩ := id hr
  obtain ⟨db, dc, rfl, -, -, -⟩ := id hd
  obtain ⟨rb2, rc2, rfl, -, -, -⟩ := id hr2
  obtain ⟨db2, dc2, rfl, -, -, -⟩ := id hd2
  have hd := hd.slv
  have hd2 := hd2.slv
  refine gives_of (fn := Try.f33) Try.func33 rfl Try.ntmps33 rfl ?_
  repeat refine c_seq ?_
  refine c_region ?_
  refine step_box_agg rfl rfl (fun b2 => ?_)
  refine step_box_agg rfl rfl (fun b3 => ?_)
  refine step_pure rfl (pure_assign rfl) ?_
  refine step_nil ?_
  repeat refine c_seq ?_
  repeat refine c_seq ?_
  refine c_meet [(2, .pointer (some ⟨b2, 0, none⟩)), (3, .pointer (some ⟨b3, 0, none⟩)), (42, .bool (!decide (f.kind = g.kind ∧ f.a = g.a ∧ f.b = g.b ∧ str f.data = str g.data ∧ f.rs.length = g.rs.length)))]
    [⟨b3, [.int .i64 g.kind, .int .i64 g.a, .int .i64 g.b, .slice rb2 g.rs.length rc2, .slice db2 g.data.length dc2], 33⟩, ⟨b2, [.int .i64 f.kind, .int .i64 f.a, .int .i64 f.b, .slice rb f.rs.length rc, .slice db f.data.length dc], 33⟩] ?_ ?_
  · repeat refine c_seq ?_
    refine c_region ?_
    refine step_pure rfl (pure_fieldAddr rfl rfl rfl rfl rfl (by decide)) ?_
    first | refine step_pure rfl (pure_load (i := 0) rfl rfl rfl rfl rfl rfl) ?_ | refine step_pure rfl (pure_load (i := 1) rfl rfl rfl rfl rfl rfl) ?_ | refine step_pure rfl (pure_load (i := 2) rfl rfl rfl rfl rfl rfl) ?_ | refine step_pure rfl (pure_load (i := 3) rfl rfl rfl rfl rfl rfl) ?_ | refine step_pure rfl (pure_load (i := 4) rfl rfl rfl rfl rfl rfl) ?_ | refine step_pure rfl (pure_load (i := 5) rfl rfl rfl rfl rfl rfl) ?_
    refine step_pure rfl (pure_fieldAddr rfl rfl rfl rfl rfl (by decide)) ?_
    first | refine step_pure rfl (pure_load (i := 0) rfl rfl rfl rfl rfl rfl) ?_ | refine step_pure rfl (pure_load (i := 1) rfl rfl rfl rfl rfl rfl) ?_ | refine step_pure rfl (pure_load (i := 2) rfl rfl rfl rfl rfl rfl) ?_ | refine step_pure rfl (pure_load (i := 3) rfl rfl rfl rfl rfl rfl) ?_ | refine step_pure rfl (pure_load (i := 4) rfl rfl rfl rfl rfl rfl) ?_ | refine step_pure rfl (pure_load (i := 5) rfl rfl rfl rfl rfl rfl) ?_
    refine step_pure rfl (pure_neq rfl rfl) ?_
    refine step_pure rfl (pure_move rfl) ?_
    refine step_split (t := 11) rfl (fun h11 => ?_) (fun h11 => ?_)
    · refine step_pass rfl rfl rfl ?_
      refine step_pass rfl rfl rfl ?_
      refine step_pass rfl rfl rfl ?_
      refine step_pass rfl rfl rfl ?_
      refine step_pass rfl rfl rfl ?_
      refine step_pure rfl (pure_pick_yes rfl rfl) ?_
      refine step_pure rfl (pure_move rfl) ?_
      refine step_pass rfl rfl rfl ?_
      refine step_pass rfl rfl rfl ?_
      refine step_pass rfl rfl rfl ?_
      refine step_pass rfl rfl rfl ?_
      refine step_pass rfl rfl rfl ?_
      refine step_pure rfl (pure_pick_yes rfl rfl) ?_
      refine step_pure rfl (pure_move rfl) ?_
      refine step_pass rfl rfl rfl ?_
      refine step_pass rfl rfl rfl ?_
      refine step_pass rfl rfl rfl ?_
      refine step_pass rfl rfl rfl ?_
      refine step_pass rfl rfl rfl ?_
      refine step_pass rfl rfl rfl ?_
      refine step_pass rfl rfl rfl ?_
      refine step_pure rfl (pure_pick_yes rfl rfl) ?_
      refine step_pure rfl (pure_move rfl) ?_
      refine step_pass rfl rfl rfl ?_
      refine step_pass rfl rfl rfl ?_
      refine step_pass rfl rfl rfl ?_
      refine step_pass rfl rfl rfl ?_
      refine step_pass rfl rfl rfl ?_
      refine step_pass rfl rfl rfl ?_
      refine step_pass rfl rfl rfl ?_
      refine step_pure rfl (pure_pick_yes rfl rfl) ?_
      refine step_nil ?_
      refine less_of ⟨rfl, rfl, ?_, trivial⟩ rfl
      refine congrArg some (congrArg Value.bool ?_)
      clear hd hd2 hr hr2
      rw [Bool.eq_iff_iff]
      simp_all [str_list] <;> omega
    · refine step_pure rfl (pure_fieldAddr rfl rfl rfl rfl rfl (by decide)) ?_
      first | refine step_pure rfl (pure_load (i := 0) rfl rfl rfl rfl rfl rfl) ?_ | refine step_pure rfl (pure_load (i := 1) rfl rfl rfl rfl rfl rfl) ?_ | refine step_pure rfl (pure_load (i := 2) rfl rfl rfl rfl rfl rfl) ?_ | refine step_pure rfl (pure_load (i := 3) rfl rfl rfl rfl rfl rfl) ?_ | refine step_pure rfl (pure_load (i := 4) rfl rfl rfl rfl rfl rfl) ?_ | refine step_pure rfl (pure_load (i := 5) rfl rfl rfl rfl rfl rfl) ?_
      refine step_pure rfl (pure_fieldAddr rfl rfl rfl rfl rfl (by decide)) ?_
      first | refine step_pure rfl (pure_load (i := 0) rfl rfl rfl rfl rfl rfl) ?_ | refine step_pure rfl (pure_load (i := 1) rfl rfl rfl rfl rfl rfl) ?_ | refine step_pure rfl (pure_load (i := 2) rfl rfl rfl rfl rfl rfl) ?_ | refine step_pure rfl (pure_load (i := 3) rfl rfl rfl rfl rfl rfl) ?_ | refine step_pure rfl (pure_load (i := 4) rfl rfl rfl rfl rfl rfl) ?_ | refine step_pure rfl (pure_load (i := 5) rfl rfl rfl rfl rfl rfl) ?_
      refine step_pure rfl (pure_neq rfl rfl) ?_
      refine step_pure rfl (pure_pick_no rfl rfl) ?_
      refine step_pure rfl (pure_move rfl) ?_
      refine step_split (t := 18) rfl (fun h18 => ?_) (fun h18 => ?_)
      · refine step_pass rfl rfl rfl ?_
        refine step_pass rfl rfl rfl ?_
        refine step_pass rfl rfl rfl ?_
        refine step_pass rfl rfl rfl ?_
        refine step_pass rfl rfl rfl ?_
        refine step_pure rfl (pure_pick_yes rfl rfl) ?_
        refine step_pure rfl (pure_move rfl) ?_
        refine step_pass rfl rfl rfl ?_
        refine step_pass rfl rfl rfl ?_
        refine step_pass rfl rfl rfl ?_
        refine step_pass rfl rfl rfl ?_
        refine step_pass rfl rfl rfl ?_
        refine step_pass rfl rfl rfl ?_
        refine step_pass rfl rfl rfl ?_
        refine step_pure rfl (pure_pick_yes rfl rfl) ?_
        refine step_pure rfl (pure_move rfl) ?_
        refine step_pass rfl rfl rfl ?_
        refine step_pass rfl rfl rfl ?_
        refine step_pass rfl rfl rfl ?_
        refine step_pass rfl rfl rfl ?_
        refine step_pass rfl rfl rfl ?_
        refine step_pass rfl rfl rfl ?_
        refine step_pass rfl rfl rfl ?_
        refine step_pure rfl (pure_pick_yes rfl rfl) ?_
        refine step_nil ?_
        refine less_of ⟨rfl, rfl, ?_, trivial⟩ rfl
        refine congrArg some (congrArg Value.bool ?_)
        clear hd hd2 hr hr2
        rw [Bool.eq_iff_iff]
        simp_all [str_list] <;> omega
      · refine step_pure rfl (pure_fieldAddr rfl rfl rfl rfl rfl (by decide)) ?_
        first | refine step_pure rfl (pure_load (i := 0) rfl rfl rfl rfl rfl rfl) ?_ | refine step_pure rfl (pure_load (i := 1) rfl rfl rfl rfl rfl rfl) ?_ | refine step_pure rfl (pure_load (i := 2) rfl rfl rfl rfl rfl rfl) ?_ | refine step_pure rfl (pure_load (i := 3) rfl rfl rfl rfl rfl rfl) ?_ | refine step_pure rfl (pure_load (i := 4) rfl rfl rfl rfl rfl rfl) ?_ | refine step_pure rfl (pure_load (i := 5) rfl rfl rfl rfl rfl rfl) ?_
        refine step_pure rfl (pure_fieldAddr rfl rfl rfl rfl rfl (by decide)) ?_
        first | refine step_pure rfl (pure_load (i := 0) rfl rfl rfl rfl rfl rfl) ?_ | refine step_pure rfl (pure_load (i := 1) rfl rfl rfl rfl rfl rfl) ?_ | refine step_pure rfl (pure_load (i := 2) rfl rfl rfl rfl rfl rfl) ?_ | refine step_pure rfl (pure_load (i := 3) rfl rfl rfl rfl rfl rfl) ?_ | refine step_pure rfl (pure_load (i := 4) rfl rfl rfl rfl rfl rfl) ?_ | refine step_pure rfl (pure_load (i := 5) rfl rfl rfl rfl rfl rfl) ?_
        refine step_pure rfl (pure_neq rfl rfl) ?_
        refine step_pure rfl (pure_pick_no rfl rfl) ?_
        refine step_pure rfl (pure_move rfl) ?_
        refine step_split (t := 25) rfl (fun h25 => ?_) (fun h25 => ?_)
        · refine step_pass rfl rfl rfl ?_
          refine step_pass rfl rfl rfl ?_
          refine step_pass rfl rfl rfl ?_
          refine step_pass rfl rfl rfl ?_
          refine step_pass rfl rfl rfl ?_
          refine step_pass rfl rfl rfl ?_
          refine step_pass rfl rfl rfl ?_
          refine step_pure rfl (pure_pick_yes rfl rfl) ?_
          refine step_pure rfl (pure_move rfl) ?_
          refine step_pass rfl rfl rfl ?_
          refine step_pass rfl rfl rfl ?_
          refine step_pass rfl rfl rfl ?_
          refine step_pass rfl rfl rfl ?_
          refine step_pass rfl rfl rfl ?_
          refine step_pass rfl rfl rfl ?_
          refine step_pass rfl rfl rfl ?_
          refine step_pure rfl (pure_pick_yes rfl rfl) ?_
          refine step_nil ?_
          refine less_of ⟨rfl, rfl, ?_, trivial⟩ rfl
          refine congrArg some (congrArg Value.bool ?_)
          clear hd hd2 hr hr2
          rw [Bool.eq_iff_iff]
          simp_all [str_list] <;> omega
        · refine step_pure rfl (pure_fieldAddr rfl rfl rfl rfl rfl (by decide)) ?_
          first | refine step_pure rfl (pure_load (i := 0) rfl rfl rfl rfl rfl rfl) ?_ | refine step_pure rfl (pure_load (i := 1) rfl rfl rfl rfl rfl rfl) ?_ | refine step_pure rfl (pure_load (i := 2) rfl rfl rfl rfl rfl rfl) ?_ | refine step_pure rfl (pure_load (i := 3) rfl rfl rfl rfl rfl rfl) ?_ | refine step_pure rfl (pure_load (i := 4) rfl rfl rfl rfl rfl rfl) ?_ | refine step_pure rfl (pure_load (i := 5) rfl rfl rfl rfl rfl rfl) ?_
          refine step_pure rfl (pure_slv_string rfl rfl rfl rfl rfl rfl rfl hd (fun _ _ _ _ => List.not_mem_nil)) ?_
          refine step_pure rfl (pure_fieldAddr rfl rfl rfl rfl rfl (by decide)) ?_
          first | refine step_pure rfl (pure_load (i := 0) rfl rfl rfl rfl rfl rfl) ?_ | refine step_pure rfl (pure_load (i := 1) rfl rfl rfl rfl rfl rfl) ?_ | refine step_pure rfl (pure_load (i := 2) rfl rfl rfl rfl rfl rfl) ?_ | refine step_pure rfl (pure_load (i := 3) rfl rfl rfl rfl rfl rfl) ?_ | refine step_pure rfl (pure_load (i := 4) rfl rfl rfl rfl rfl rfl) ?_ | refine step_pure rfl (pure_load (i := 5) rfl rfl rfl rfl rfl rfl) ?_
          refine step_pure rfl (pure_slv_string rfl rfl rfl rfl rfl rfl rfl hd2 (fun _ _ _ _ => List.not_mem_nil)) ?_
          refine step_pure rfl (pure_str_neq rfl rfl) ?_
          refine step_pure rfl (pure_pick_no rfl rfl) ?_
          refine step_pure rfl (pure_move rfl) ?_
          refine step_split (t := 34) rfl (fun h34 => ?_) (fun h34 => ?_)
          · refine step_pass rfl rfl rfl ?_
            refine step_pass rfl rfl rfl ?_
            refine step_pass rfl rfl rfl ?_
            refine step_pass rfl rfl rfl ?_
            refine step_pass rfl rfl rfl ?_
            refine step_pass rfl rfl rfl ?_
            refine step_pass rfl rfl rfl ?_
            refine step_pure rfl (pure_pick_yes rfl rfl) ?_
            refine step_nil ?_
            refine less_of ⟨rfl, rfl, ?_, trivial⟩ rfl
            refine congrArg some (congrArg Value.bool ?_)
            clear hd hd2 hr hr2
            rw [Bool.eq_iff_iff]
            simp_all [str_list] <;> omega
          · refine step_pure rfl (pure_fieldAddr rfl rfl rfl rfl rfl (by decide)) ?_
            first | refine step_pure rfl (pure_load (i := 0) rfl rfl rfl rfl rfl rfl) ?_ | refine step_pure rfl (pure_load (i := 1) rfl rfl rfl rfl rfl rfl) ?_ | refine step_pure rfl (pure_load (i := 2) rfl rfl rfl rfl rfl rfl) ?_ | refine step_pure rfl (pure_load (i := 3) rfl rfl rfl rfl rfl rfl) ?_ | refine step_pure rfl (pure_load (i := 4) rfl rfl rfl rfl rfl rfl) ?_ | refine step_pure rfl (pure_load (i := 5) rfl rfl rfl rfl rfl rfl) ?_
            refine step_pure rfl (pure_len_slice rfl rfl rfl) ?_
            refine step_pure rfl (pure_fieldAddr rfl rfl rfl rfl rfl (by decide)) ?_
            first | refine step_pure rfl (pure_load (i := 0) rfl rfl rfl rfl rfl rfl) ?_ | refine step_pure rfl (pure_load (i := 1) rfl rfl rfl rfl rfl rfl) ?_ | refine step_pure rfl (pure_load (i := 2) rfl rfl rfl rfl rfl rfl) ?_ | refine step_pure rfl (pure_load (i := 3) rfl rfl rfl rfl rfl rfl) ?_ | refine step_pure rfl (pure_load (i := 4) rfl rfl rfl rfl rfl rfl) ?_ | refine step_pure rfl (pure_load (i := 5) rfl rfl rfl rfl rfl rfl) ?_
            refine step_pure rfl (pure_len_slice rfl rfl rfl) ?_
            refine step_pure rfl (pure_neq rfl rfl) ?_
            refine step_pure rfl (pure_pick_no rfl rfl) ?_
            refine step_nil ?_
            refine less_of ⟨rfl, rfl, ?_, trivial⟩ rfl
            refine congrArg some (congrArg Value.bool ?_)
            clear hd hd2 hr hr2
            rw [Bool.eq_iff_iff]
            simp_all [str_list] <;> omega
  repeat refine c_seq ?_
  refine c_cond rfl (fun h => ?_) (fun h => ?_)
  · rw [show sameB f g = false by
      unfold sameB
      rw [decide_eq_false_iff_not]
      rintro ⟨h1, h2, h3, h4, h5⟩
      simp [h1, h2, h3, h4, h5] at h]
    repeat refine c_seq ?_
    refine c_region ?_
    refine step_pure rfl (pure_assign rfl) ?_
    refine step_nil ?_
    exact c_ret ⟨_, res_tmp Try.results33 rfl, rfl⟩
  · obtain ⟨h1, h2, h3, h4, h5⟩ : f.kind = g.kind ∧ f.a = g.a ∧ f.b = g.b ∧ str f.data = str g.data ∧ f.rs.length = g.rs.length := by simpa using h
    have hsame : sameB f g = decide (f.rs = g.rs) := by
      unfold sameB
      simp [h1, h2, h3, h4]
    clear h
    refine c_skip ?_
    repeat refine c_seq ?_
    refine c_region ?_
    refine step_pure rfl (pure_assign rfl) ?_
    refine step_nil ?_
    repeat refine c_seq ?_
    refine c_block ?_
    repeat refine c_seq ?_
    refine c_loop (α := Nat) (fun i => [(2, .pointer (some ⟨b2, 0, none⟩)), (3, .pointer (some ⟨b3, 0, none⟩)), (5, .int .i64 i)])
      (fun _ => [⟨b3, [.int .i64 g.kind, .int .i64 g.a, .int .i64 g.b, .slice rb2 g.rs.length rc2, .slice db2 g.data.length dc2], 33⟩, ⟨b2, [.int .i64 f.kind, .int .i64 f.a, .int .i64 f.b, .slice rb f.rs.length rc, .slice db f.data.length dc], 33⟩])
      (fun i => i ≤ f.rs.length ∧ f.rs.take i = g.rs.take i) (fun i => f.rs.length - i) 0 ⟨Nat.zero_le _, rfl⟩ (less_of ⟨rfl, rfl, rfl, trivial⟩ rfl) ?_
    rintro i ⟨hi, htk⟩
    repeat refine c_seq ?_
    refine c_region ?_
    refine step_pure rfl (pure_move rfl) ?_
    refine step_pure rfl (pure_fieldAddr rfl rfl rfl rfl rfl (by decide)) ?_
    first | refine step_pure rfl (pure_load (i := 0) rfl rfl rfl rfl rfl rfl) ?_ | refine step_pure rfl (pure_load (i := 1) rfl rfl rfl rfl rfl rfl) ?_ | refine step_pure rfl (pure_load (i := 2) rfl rfl rfl rfl rfl rfl) ?_ | refine step_pure rfl (pure_load (i := 3) rfl rfl rfl rfl rfl rfl) ?_ | refine step_pure rfl (pure_load (i := 4) rfl rfl rfl rfl rfl rfl) ?_ | refine step_pure rfl (pure_load (i := 5) rfl rfl rfl rfl rfl rfl) ?_
    refine step_pure rfl (pure_len_slice rfl rfl rfl) ?_
    refine step_pure rfl (pure_lss rfl rfl) ?_
    refine step_nil ?_
    repeat refine c_seq ?_
    refine c_cond rfl (fun h => ?_) (fun h => ?_)
    · have hlt : i < f.rs.length := by have := of_decide_eq_true h; omega
      clear h
      have hlt2 : i < g.rs.length := by omega
      refine c_skip ?_
      repeat refine c_seq ?_
      refine c_block ?_
      obtain ⟨p, cap1, hq, hp⟩ := hr.at (by decide) hlt
      cases hq
      obtain ⟨p2, cap2, hq, hp2⟩ := hr2.at (by decide) hlt2
      cases hq
      have hc1 : ∀ j v, [Value.int .i64 (f.rs.getD i (0, 0)).1, .int .i64 (f.rs.getD i (0, 0)).2][j]? = some v → Cel ⟨w, [], []⟩ ((p.add (i * 2)).add j) v := by
        intro j v hj
        have k := rgCells_at f.rs i hlt
        rcases j with _ | _ | j
        · cases hj; exact ⟨hp 0 _ k.1, List.not_mem_nil⟩
        · cases hj; exact ⟨hp 1 _ k.2, List.not_mem_nil⟩
        · cases hj
      have hc2 : ∀ j v, [Value.int .i64 (g.rs.getD i (0, 0)).1, .int .i64 (g.rs.getD i (0, 0)).2][j]? = some v → Cel ⟨w, [], []⟩ ((p2.add (i * 2)).add j) v := by
        intro j v hj
        have k := rgCells_at g.rs i hlt2
        rcases j with _ | _ | j
        · cases hj; exact ⟨hp2 0 _ k.1, List.not_mem_nil⟩
        · cases hj; exact ⟨hp2 1 _ k.2, List.not_mem_nil⟩
        · cases hj
      have hg1 : f.rs.getD i (0, 0) = f.rs[i] := by rw [List.getD_eq_getElem?_getD, List.getElem?_eq_getElem hlt]; rfl
      have hg2 : g.rs.getD i (0, 0) = g.rs[i] := by rw [List.getD_eq_getElem?_getD, List.getElem?_eq_getElem hlt2]; rfl
      rw [hg1] at hc1
      rw [hg2] at hc2
      clear hg1 hg2 hp hp2
      have hstep : f.rs[i] = g.rs[i] → f.rs.take (i + 1) = g.rs.take (i + 1) := by
        intro h
        rw [List.take_succ_eq_append_getElem hlt, List.take_succ_eq_append_getElem hlt2, htk, h]
      have hno : f.rs[i] ≠ g.rs[i] → f.rs ≠ g.rs := by
        intro h h2
        apply h
        simp only [h2]
      generalize f.rs[i] = x at *
      generalize g.rs[i] = y at *
      obtain ⟨x1, x2⟩ := x
      obtain ⟨y1, y2⟩ := y
      repeat refine c_seq ?_
      refine d_region2 [1, 11, 17, 25, 35, 41, 51, 57, 65, 75, 81] ([⟨b3, [.int .i64 g.kind, .int .i64 g.a, .int .i64 g.b, .slice (some p2) g.rs.length rc2, .slice db2 g.data.length dc2], 33⟩, ⟨b2, [.int .i64 f.kind, .int .i64 f.a, .int .i64 f.b, .slice (some p) f.rs.length rc, .slice db f.data.length dc], 33⟩]) follows (by kernel_rfl) ?_
      refine d_pure0 rfl rfl rfl (pure_fieldAddr rfl rfl rfl rfl rfl (by decide)) ?_
      first | refine d_pure1 rfl rfl rfl (pure_load (i := 0) rfl rfl rfl rfl rfl rfl) (by first | exact SubMem.refl _ | exact (SubMem.refl _).cons | exact (SubMem.refl _).cons.cons | exact (SubMem.refl _).cons.cons.cons | exact (SubMem.refl _).cons.cons.cons.cons | exact (fun w hh => Has.sublist (by repeat (first | exact List.Sublist.refl _ | exact List.nil_sublist _ | apply List.Sublist.cons_cons | apply List.Sublist.cons)) hh)) ?_ | refine d_pure1 rfl rfl rfl (pure_load (i := 1) rfl rfl rfl rfl rfl rfl) (by first | exact SubMem.refl _ | exact (SubMem.refl _).cons | exact (SubMem.refl _).cons.cons | exact (SubMem.refl _).cons.cons.cons | exact (SubMem.refl _).cons.cons.cons.cons | exact (fun w hh => Has.sublist (by repeat (first | exact List.Sublist.refl _ | exact List.nil_sublist _ | apply List.Sublist.cons_cons | apply List.Sublist.cons)) hh)) ?_ | refine d_pure1 rfl rfl rfl (pure_load (i := 2) rfl rfl rfl rfl rfl rfl) (by first | exact SubMem.refl _ | exact (SubMem.refl _).cons | exact (SubMem.refl _).cons.cons | exact (SubMem.refl _).cons.cons.cons | exact (SubMem.refl _).cons.cons.cons.cons | exact (fun w hh => Has.sublist (by repeat (first | exact List.Sublist.refl _ | exact List.nil_sublist _ | apply List.Sublist.cons_cons | apply List.Sublist.cons)) hh)) ?_ | refine d_pure1 rfl rfl rfl (pure_load (i := 3) rfl rfl rfl rfl rfl rfl) (by first | exact SubMem.refl _ | exact (SubMem.refl _).cons | exact (SubMem.refl _).cons.cons | exact (SubMem.refl _).cons.cons.cons | exact (SubMem.refl _).cons.cons.cons.cons | exact (fun w hh => Has.sublist (by repeat (first | exact List.Sublist.refl _ | exact List.nil_sublist _ | apply List.Sublist.cons_cons | apply List.Sublist.cons)) hh)) ?_ | refine d_pure1 rfl rfl rfl (pure_load (i := 4) rfl rfl rfl rfl rfl rfl) (by first | exact SubMem.refl _ | exact (SubMem.refl _).cons | exact (SubMem.refl _).cons.cons | exact (SubMem.refl _).cons.cons.cons | exact (SubMem.refl _).cons.cons.cons.cons | exact (fun w hh => Has.sublist (by repeat (first | exact List.Sublist.refl _ | exact List.nil_sublist _ | apply List.Sublist.cons_cons | apply List.Sublist.cons)) hh)) ?_ | refine d_pure1 rfl rfl rfl (pure_load (i := 5) rfl rfl rfl rfl rfl rfl) (by first | exact SubMem.refl _ | exact (SubMem.refl _).cons | exact (SubMem.refl _).cons.cons | exact (SubMem.refl _).cons.cons.cons | exact (SubMem.refl _).cons.cons.cons.cons | exact (fun w hh => Has.sublist (by repeat (first | exact List.Sublist.refl _ | exact List.nil_sublist _ | apply List.Sublist.cons_cons | apply List.Sublist.cons)) hh)) ?_
      refine d_pure0 rfl rfl rfl (pure_move rfl) ?_
      refine d_as0 rfl rfl rfl (pure_indexAddr_at rfl rfl rfl rfl rfl (by omega) (by omega)) (show _ = Value.pointer (some (p.add (i * 2))) from by show Value.pointer (some (p.add ((i : Int).toNat * 2))) = _; rw [Int.toNat_natCast]) ?_
      refine d_pure1 rfl rfl rfl (pure_cel_agg rfl rfl rfl rfl hc1) (by first | exact SubMem.refl _ | exact (SubMem.refl _).cons | exact (SubMem.refl _).cons.cons | exact (SubMem.refl _).cons.cons.cons | exact (SubMem.refl _).cons.cons.cons.cons | exact (fun w hh => Has.sublist (by repeat (first | exact List.Sublist.refl _ | exact List.nil_sublist _ | apply List.Sublist.cons_cons | apply List.Sublist.cons)) hh)) ?_
      refine d_pure0 rfl rfl rfl (pure_fieldAddr rfl rfl rfl rfl rfl (by decide)) ?_
      first | refine d_pure1 rfl rfl rfl (pure_load (i := 0) rfl rfl rfl rfl rfl rfl) (by first | exact SubMem.refl _ | exact (SubMem.refl _).cons | exact (SubMem.refl _).cons.cons | exact (SubMem.refl _).cons.cons.cons | exact (SubMem.refl _).cons.cons.cons.cons | exact (fun w hh => Has.sublist (by repeat (first | exact List.Sublist.refl _ | exact List.nil_sublist _ | apply List.Sublist.cons_cons | apply List.Sublist.cons)) hh)) ?_ | refine d_pure1 rfl rfl rfl (pure_load (i := 1) rfl rfl rfl rfl rfl rfl) (by first | exact SubMem.refl _ | exact (SubMem.refl _).cons | exact (SubMem.refl _).cons.cons | exact (SubMem.refl _).cons.cons.cons | exact (SubMem.refl _).cons.cons.cons.cons | exact (fun w hh => Has.sublist (by repeat (first | exact List.Sublist.refl _ | exact List.nil_sublist _ | apply List.Sublist.cons_cons | apply List.Sublist.cons)) hh)) ?_ | refine d_pure1 rfl rfl rfl (pure_load (i := 2) rfl rfl rfl rfl rfl rfl) (by first | exact SubMem.refl _ | exact (SubMem.refl _).cons | exact (SubMem.refl _).cons.cons | exact (SubMem.refl _).cons.cons.cons | exact (SubMem.refl _).cons.cons.cons.cons | exact (fun w hh => Has.sublist (by repeat (first | exact List.Sublist.refl _ | exact List.nil_sublist _ | apply List.Sublist.cons_cons | apply List.Sublist.cons)) hh)) ?_ | refine d_pure1 rfl rfl rfl (pure_load (i := 3) rfl rfl rfl rfl rfl rfl) (by first | exact SubMem.refl _ | exact (SubMem.refl _).cons | exact (SubMem.refl _).cons.cons | exact (SubMem.refl _).cons.cons.cons | exact (SubMem.refl _).cons.cons.cons.cons | exact (fun w hh => Has.sublist (by repeat (first | exact List.Sublist.refl _ | exact List.nil_sublist _ | apply List.Sublist.cons_cons | apply List.Sublist.cons)) hh)) ?_ | refine d_pure1 rfl rfl rfl (pure_load (i := 4) rfl rfl rfl rfl rfl rfl) (by first | exact SubMem.refl _ | exact (SubMem.refl _).cons | exact (SubMem.refl _).cons.cons | exact (SubMem.refl _).cons.cons.cons | exact (SubMem.refl _).cons.cons.cons.cons | exact (fun w hh => Has.sublist (by repeat (first | exact List.Sublist.refl _ | exact List.nil_sublist _ | apply List.Sublist.cons_cons | apply List.Sublist.cons)) hh)) ?_ | refine d_pure1 rfl rfl rfl (pure_load (i := 5) rfl rfl rfl rfl rfl rfl) (by first | exact SubMem.refl _ | exact (SubMem.refl _).cons | exact (SubMem.refl _).cons.cons | exact (SubMem.refl _).cons.cons.cons | exact (SubMem.refl _).cons.cons.cons.cons | exact (fun w hh => Has.sublist (by repeat (first | exact List.Sublist.refl _ | exact List.nil_sublist _ | apply List.Sublist.cons_cons | apply List.Sublist.cons)) hh)) ?_
      refine d_pure0 rfl rfl rfl (pure_move rfl) ?_
      refine d_as0 rfl rfl rfl (pure_indexAddr_at rfl rfl rfl rfl rfl (by omega) (by omega)) (show _ = Value.pointer (some (p2.add (i * 2))) from by show Value.pointer (some (p2.add ((i : Int).toNat * 2))) = _; rw [Int.toNat_natCast]) ?_
      refine d_pure1 rfl rfl rfl (pure_cel_agg rfl rfl rfl rfl hc2) (by first | exact SubMem.refl _ | exact (SubMem.refl _).cons | exact (SubMem.refl _).cons.cons | exact (SubMem.refl _).cons.cons.cons | exact (SubMem.refl _).cons.cons.cons.cons | exact (fun w hh => Has.sublist (by repeat (first | exact List.Sublist.refl _ | exact List.nil_sublist _ | apply List.Sublist.cons_cons | apply List.Sublist.cons)) hh)) ?_
      refine d_pure0 rfl rfl rfl (pure_neq_rg rfl rfl) ?_
      refine d_nil ?_
      repeat refine c_seq ?_
      refine c_cond rfl (fun h => ?_) (fun h => ?_)
      · rw [hsame, decide_eq_false (hno (by intro h2; cases h2; simp at h))]
        repeat refine c_seq ?_
        refine c_region ?_
        refine step_pure rfl (pure_assign rfl) ?_
        refine step_nil ?_
        exact c_ret ⟨_, res_tmp Try.results33 rfl, rfl⟩
      · have hxy : (x1, x2) = (y1, y2) := by
          simp at h
          rw [h.1, h.2]
        refine c_skip ?_
        repeat refine c_seq ?_
        refine c_region ?_
        refine step_pure rfl (pure_move rfl) ?_
        first | refine step_pure rfl (pure_add64 rfl rfl (by omega) (by omega)) ?_ | refine step_pure rfl (pure_add rfl rfl) ?_
        refine step_pure rfl (pure_assign rfl) ?_
        refine step_nil ?_
        exact ⟨i + 1, ⟨hlt, hstep hxy⟩, by omega, less_of ⟨rfl, rfl, rfl, trivial⟩ rfl⟩
    · have hie : i = f.rs.length := by have := of_decide_eq_false h; omega
      have hfg : f.rs = g.rs := by rw [hie, List.take_length, h5, List.take_length] at htk; exact htk
      rw [hsame, decide_eq_true hfg]
      refine c_exit ?_
      repeat refine c_seq ?_
      refine c_region ?_
      refine step_pure rfl (pure_assign rfl) ?_
      refine step_nil ?_
      exact c_ret ⟨_, res_tmp Try.results33 rfl, rfl⟩

/-! all -/
def allB (fs gs : List Fr) : Bool := decide (fs.length = gs.length) && (fs.zip gs).all fun p => sameB p.1 p.2
set_option maxHeartbeats 4000000 in
theorem all_any (fs gs : List Fr) (v u : Value) (w : World) (hv : FrsC (fun p x => w.cell? p = some x) v fs) (hu : FrsC (fun p x => w.cell? p = some x) u gs) (hrl : ∀ f ∈ fs, f.rs.length ≤ 140737488355328) (hfl : fs.length ≤ 140737488355328) :
    Gives tb 21 [v, u] w (.bool (allB fs gs)) := by
  obtain ⟨base1, cap1, rfl, hcap1⟩ := hv.slice
  obtain ⟨base2, cap2, rfl, hcap2⟩ := hu.slice
  refine gives_of (fn := Try.f21) Try.func21 rfl Try.ntmps21 rfl ?_
  repeat refine c_seq ?_
  refine c_region ?_
  refine step_pure rfl (pure_assign rfl) ?_
  refine step_nil ?_
  repeat refine c_seq ?_
  refine c_region ?_
  refine step_pure rfl (pure_move rfl) ?_
  refine step_pure rfl (pure_len_slice rfl rfl rfl) ?_
  refine step_pure rfl (pure_move rfl) ?_
  refine step_pure rfl (pure_len_slice rfl rfl rfl) ?_
  refine step_pure rfl (pure_neq rfl rfl) ?_
  refine step_nil ?_
  repeat refine c_seq ?_
  refine c_cond rfl (fun h => ?_) (fun h => ?_)
  · have hne : fs.length ≠ gs.length := by
      intro h2
      simp [h2] at h
    rw [show allB fs gs = false by unfold allB; rw [decide_eq_false hne, Bool.false_and]]
    repeat refine c_seq ?_
    refine c_region ?_
    refine step_pure rfl (pure_assign rfl) ?_
    refine step_nil ?_
    exact c_ret ⟨_, res_tmp Try.results21 rfl, rfl⟩
  · have heq : fs.length = gs.length := by
      simp at h
      omega
    clear h
    refine c_skip ?_
    repeat refine c_seq ?_
    refine c_region ?_
    refine step_pure rfl (pure_assign rfl) ?_
    refine step_nil ?_
    repeat refine c_seq ?_
    refine c_block ?_
    repeat refine c_seq ?_
    refine c_loop (α := Nat) (fun i => [(0, .slice base1 fs.length cap1), (1, .slice base2 gs.length cap2), (5, .int .i64 i)]) (fun _ => [])
      (fun i => i ≤ fs.length ∧ ∀ j, j < i → ∀ f g, fs[j]? = some f → gs[j]? = some g → sameB f g = true) (fun i => fs.length - i) 0 ⟨Nat.zero_le _, by omega⟩ (less_sub ⟨rfl, rfl, rfl, trivial⟩ (List.nil_sublist _)) ?_
    rintro i ⟨hi, hall⟩
    repeat refine c_seq ?_
    refine c_region ?_
    refine step_pure rfl (pure_move rfl) ?_
    refine step_pure rfl (pure_move rfl) ?_
    refine step_pure rfl (pure_len_slice rfl rfl rfl) ?_
    refine step_pure rfl (pure_lss rfl rfl) ?_
    refine step_nil ?_
    repeat refine c_seq ?_
    refine c_cond rfl (fun h => ?_) (fun h => ?_)
    · have hlt : i < fs.length := by have := of_decide_eq_true h; omega
      clear h
      have hlt2 : i < gs.length := by omega
      refine c_skip ?_
      repeat refine c_seq ?_
      refine c_block ?_
      obtain ⟨p1, cp, cs, hq, hfc, hp⟩ := hv.at hlt
      cases hq
      obtain ⟨p2, cp, ds, hq, hgc, hp2⟩ := hu.at hlt2
      cases hq
      have hcells : ∀ j x, cs[j]? = some x → Cel ⟨w, [], []⟩ ((p1.add (i * 5)).add j) x := fun j x hx => ⟨hp j x hx, List.not_mem_nil⟩
      have hcells2 : ∀ j x, ds[j]? = some x → Cel ⟨w, [], []⟩ ((p2.add (i * 5)).add j) x := fun j x hx => ⟨hp2 j x hx, List.not_mem_nil⟩
      have hsm := fun w' (kp : Keep w w' []) => same_any _ _ cs ds w' (hfc.mono fun p x hp => cell_keep hp kp List.not_mem_nil) (hgc.mono fun p x hp => cell_keep hp kp List.not_mem_nil) (hrl _ (List.getElem_mem hlt))
      have h5 := hfc.five
      have h52 := hgc.five
      repeat refine c_seq ?_
      refine d_region2 [1, 9, 17, 27, 33, 41, 49, 59, 67, 73] ([]) follows (by kernel_rfl) ?_
      refine d_pure0 rfl rfl rfl (pure_move rfl) ?_
      refine d_pure0 rfl rfl rfl (pure_move rfl) ?_
      refine d_as0 rfl rfl rfl (pure_indexAddr_at rfl rfl rfl rfl rfl (by omega) (by omega)) (show _ = Value.pointer (some (p1.add (i * 5))) from by show Value.pointer (some (p1.add ((i : Int).toNat * 5))) = _; rw [Int.toNat_natCast]) ?_
      refine d_pure1 rfl rfl rfl (pure_cel_agg rfl rfl rfl h5 hcells) (by first | exact SubMem.refl _ | exact (SubMem.refl _).cons | exact (SubMem.refl _).cons.cons | exact (SubMem.refl _).cons.cons.cons | exact (SubMem.refl _).cons.cons.cons.cons | exact (fun w hh => Has.sublist (by repeat (first | exact List.Sublist.refl _ | exact List.nil_sublist _ | apply List.Sublist.cons_cons | apply List.Sublist.cons)) hh)) ?_
      refine d_pure0 rfl rfl rfl (pure_move rfl) ?_
      refine d_pure0 rfl rfl rfl (pure_move rfl) ?_
      refine d_as0 rfl rfl rfl (pure_indexAddr_at rfl rfl rfl rfl rfl (by omega) (by omega)) (show _ = Value.pointer (some (p2.add (i * 5))) from by show Value.pointer (some (p2.add ((i : Int).toNat * 5))) = _; rw [Int.toNat_natCast]) ?_
      refine d_pure1 rfl rfl rfl (pure_cel_agg rfl rfl rfl h52 hcells2) (by first | exact SubMem.refl _ | exact (SubMem.refl _).cons | exact (SubMem.refl _).cons.cons | exact (SubMem.refl _).cons.cons.cons | exact (SubMem.refl _).cons.cons.cons.cons | exact (fun w hh => Has.sublist (by repeat (first | exact List.Sublist.refl _ | exact List.nil_sublist _ | apply List.Sublist.cons_cons | apply List.Sublist.cons)) hh)) ?_
      refine d_gives rfl rfl rfl fun33 rfl (fun w' _ kp => hsm w' kp) (by first | exact SubMem.refl _ | exact (SubMem.refl _).cons | exact (SubMem.refl _).cons.cons | exact (SubMem.refl _).cons.cons.cons | exact (SubMem.refl _).cons.cons.cons.cons | exact (fun w hh => Has.sublist (by repeat (first | exact List.Sublist.refl _ | exact List.nil_sublist _ | apply List.Sublist.cons_cons | apply List.Sublist.cons)) hh)) ?_
      refine d_pure0 rfl rfl rfl (pure_assign rfl) ?_
      refine d_nil ?_
      repeat refine c_seq ?_
      refine c_region ?_
      refine step_pure rfl (pure_move rfl) ?_
      refine step_pure rfl (pure_not rfl) ?_
      refine step_nil ?_
      repeat refine c_seq ?_
      refine c_cond rfl (fun h => ?_) (fun h => ?_)
      · have hz : sameB fs[i] gs[i] = false := by simpa using h
        rw [show allB fs gs = false by
          unfold allB
          rw [Bool.and_eq_false_iff]
          right
          rw [List.all_eq_false]
          exact ⟨(fs[i], gs[i]), List.mem_iff_getElem.2 ⟨i, by rw [List.length_zip]; omega, by rw [List.getElem_zip]⟩, by simp [hz]⟩]
        repeat refine c_seq ?_
        refine c_region ?_
        refine step_pure rfl (pure_assign rfl) ?_
        refine step_nil ?_
        exact c_ret ⟨_, res_tmp Try.results21 rfl, rfl⟩
      · have hz : sameB fs[i] gs[i] = true := by simpa using h
        refine c_skip ?_
        repeat refine c_seq ?_
        refine c_region ?_
        refine step_pure rfl (pure_move rfl) ?_
        first | refine step_pure rfl (pure_add64 rfl rfl (by omega) (by omega)) ?_ | refine step_pure rfl (pure_add rfl rfl) ?_
        refine step_pure rfl (pure_assign rfl) ?_
        refine step_nil ?_
        refine ⟨i + 1, ⟨hlt, fun j hj f g hf hg => ?_⟩, by omega, less_sub ⟨rfl, rfl, rfl, trivial⟩ (List.nil_sublist _)⟩
        by_cases hji : j = i
        · subst hji
          rw [List.getElem?_eq_getElem hlt] at hf
          rw [List.getElem?_eq_getElem hlt2] at hg
          cases hf
          cases hg
          exact hz
        · exact hall j (by omega) f g hf hg
    · have hie : i = fs.length := by have := of_decide_eq_false h; omega
      rw [show allB fs gs = true by
        unfold allB
        rw [Bool.and_eq_true, List.all_eq_true]
        refine ⟨by simpa using heq, fun p hp => ?_⟩
        obtain ⟨j, hj, rfl⟩ := List.mem_iff_getElem.1 hp
        rw [List.length_zip] at hj
        rw [List.getElem_zip]
        exact hall j (by omega) _ _ (List.getElem?_eq_getElem (by omega)) (List.getElem?_eq_getElem (by omega))]
      refine c_exit ?_
      repeat refine c_seq ?_
      refine c_region ?_
      refine step_pure rfl (pure_assign rfl) ?_
      refine step_nil ?_
      exact c_ret ⟨_, res_tmp Try.results21 rfl, rfl⟩
theorem allB_iff : ∀ {fs gs : List Fr}, (∀ f ∈ fs, Bytes f.data) → (∀ g ∈ gs, Bytes g.data) → (allB fs gs = true ↔ fs = gs)
  | [], [], _, _ => by simp [allB]
  | [], g :: gs, _, _ => by simp [allB]
  | f :: fs, [], _, _ => by simp [allB]
  | f :: fs, g :: gs, h1, h2 => by
    have ih := allB_iff (fs := fs) (gs := gs) (fun x hx => h1 x (.tail _ hx)) (fun x hx => h2 x (.tail _ hx))
    have hs := sameB_iff (h1 f (.head _)) (h2 g (.head _))
    unfold allB at ih ⊢
    simp only [List.zip_cons_cons, List.all_cons, List.length_cons, Nat.add_right_cancel_iff, List.cons.injEq, Bool.and_eq_true, decide_eq_true_eq] at ih ⊢
    rw [hs, ← ih]
    constructor
    · rintro ⟨a, b, c⟩; exact ⟨b, a, c⟩
    · rintro ⟨b, a, c⟩; exact ⟨a, b, c⟩
end Go.Proofs.Ytphpmallnlajjaa
