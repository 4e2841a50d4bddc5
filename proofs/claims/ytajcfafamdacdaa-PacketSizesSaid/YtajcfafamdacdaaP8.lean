/- Packets that came in, opened; the laws PacketTells, PacketReads, PacketPads, PacketEliciting: walked. -/
import Derived.Test.YtajcfafamdacdaaP7
namespace Go.Proofs.Ytajcfafamdacdaa
open Go.RowKit Go.Vc Go.ChangeShapes Go.WideShapes
set_option linter.unusedVariables false

def PkW : Rep Pk := fun C p cs => PkC C p cs ∧ (∀ f ∈ p.fs, Bytes f.data ∧ f.data.length ≤ maxLen ∧ f.rs.length ≤ maxLen) ∧ p.fs.length ≤ maxLen
theorem opens_pk : Opens Try.prog 24 3 PkW :=
  (opens_struct Try.underlying24 (by kernel_rfl) (fs_cons opens_i64 rfl (fs_cons opens_i64 rfl (fs_cons opens_frs rfl fs_nil)))).map (S := PkW)
    (fun a => ⟨a.1, a.2.1, a.2.2.1⟩) (by
      rintro C ⟨k, a, l, u⟩ cs ⟨_, c1, rfl, _, ⟨rfl, _⟩, _, c2, rfl, _, ⟨rfl, _⟩, _, c3, rfl, _, hr, rfl⟩
      obtain ⟨v, rfl, h1, h2, h3⟩ := rsl_frs hr
      exact ⟨⟨v, rfl, h1⟩, h2, h3⟩)
/-- A parameter Packet. -/
theorem open_packet {H : Type} {enc : TypeId × Value → H} {W : World} {base : Nat} {sp : Nat → Bool} {hd : Bool} {r : Reach} {b0 : Nat} {v : Value} {d : DataW H} {ps : List MemPlace}
    (hv : Value.okWide Try.prog W r b0 24 v) (h : DataW.Trod enc Try.prog W base sp hd 24 v d ps) :
    ∃ (p : Pk) (cs : List Value), v = .agg cs.toArray ∧ PkC (fun p x => W.cell? p = some x) p cs ∧ (∀ f ∈ p.fs, Bytes f.data ∧ f.data.length ≤ maxLen ∧ f.rs.length ≤ maxLen) ∧ p.fs.length ≤ maxLen := by
  obtain ⟨cs, rfl, _⟩ := okWide_struct Try.underlying24 hv
  obtain ⟨_, p, h1, h2, h3⟩ := opens_pk.arg h
  exact ⟨p, cs.toList, by simp, h1, h2, h3⟩

def HdR (s n : Int) (u : Value) (C : Addr → Value → Prop) : Prop := ∃ v, u = .tuple #[v, .int .i64 (hdE s n)] ∧ SlC C 1 v (hdB s n).length (row (hdB s n))
theorem hdR_of {f : FuncId} {s n : Int} {w : World} {Z : Nat → Prop} {vs : List Value} (h : Makes tb f vs w (HdM s n)) (hZ : ∀ b, w.heap.size ≤ b → Z b) : GivesP tb f vs w Z (HdR s n) := by
  refine givesP_of_makes h hZ ?_ ?_
  · rintro u C C' hC ⟨v, rfl, hs⟩
    exact ⟨v, rfl, hs.mono hC⟩
  · rintro u m' C ⟨base, len, cap, e, rfl, rfl, hs⟩ hC
    obtain rfl := sl_len8 hs
    exact ⟨_, rfl, slis_cz hs (hC e (.head _))⟩
theorem pure_cz_cel_agg {Z : Nat → Prop} {E : Env} {p : Addr} {x : Value} (h : Cz Z E p x) : Cel E p x := h.1
theorem few_big {fs : List Fr} (h : fewB fs = true) : (∀ f ∈ fs, f.data.length ≤ maxLen) ∧ fs.length ≤ maxLen ∧ fs.length ≤ 30 ∧ (∀ f ∈ fs, f.rs.length ≤ 140737488355328) := by
  have h1 := few_in h
  have hm : 3000 ≤ maxLen := by decide
  exact ⟨fun f hf => Nat.le_trans (h1.2 f hf).1 hm, by omega, h1.1, fun f hf => by have := (h1.2 f hf).2; omega⟩

set_option maxHeartbeats 4000000 in
theorem packettells_any (p : Pk) (cs : List Value) (w0 : World) (hp : PkC (At w0) p cs) : Gives tb 3 [.agg cs.toArray] w0 (.bool true) := by
  obtain ⟨fv, rfl, hv⟩ := hp
  obtain ⟨fb, fc, rfl, hfc⟩ := hv.slice
  refine gives_ofk (fn := Try.f3) Try.func3 rfl Try.ntmps3 rfl (fun on => ?_)
  have hv : FrsC (Cz (fun _ => True) ⟨w0, [], []⟩) (.slice fb p.fs.length fc) p.fs := hv.mono fun p x h => cz_start p x ⟨h, trivial⟩
  repeat refine s_seqs ?_
  refine s_reg ?_
  refine step_box_agg rfl rfl (fun b1 => ?_)
  refine step_pure rfl (pure_assign rfl) ?_
  refine Vc.step_end (fun a w ok => ?_)
  first | (refine WPs.run ?_ a w ok; clear ok w a) | skip
  repeat refine s_seqs ?_
  refine s_reg ?_
  refine step_gives rfl fun10 rfl (fun w _ _ => awake_any w) ?_
  refine step_pure rfl (pure_assign rfl) ?_
  refine Vc.step_end (fun a w ok => ?_)
  first | (refine WPs.run ?_ a w ok; clear ok w a) | skip
  repeat refine s_seqs ?_
  refine s_reg ?_
  refine step_pure rfl (pure_fieldAddr rfl rfl rfl rfl rfl (by decide)) ?_
  first | refine step_pure rfl (pure_load (i := 0) rfl rfl rfl rfl rfl rfl) ?_ | refine step_pure rfl (pure_load (i := 1) rfl rfl rfl rfl rfl rfl) ?_ | refine step_pure rfl (pure_load (i := 2) rfl rfl rfl rfl rfl rfl) ?_ | refine step_pure rfl (pure_load (i := 3) rfl rfl rfl rfl rfl rfl) ?_ | refine step_pure rfl (pure_load (i := 4) rfl rfl rfl rfl rfl rfl) ?_ | refine step_pure rfl (pure_load (i := 5) rfl rfl rfl rfl rfl rfl) ?_
  refine step_gives rfl fun11 rfl (fun w' hh kp => few_any p.fs _ w' (hv.mono (Cz.now kp))) ?_
  refine step_pure rfl (pure_not rfl) ?_
  refine Vc.step_end (fun a w ok => ?_)
  first | (refine WPs.run ?_ a w ok; clear ok w a) | skip
  repeat refine s_seqs ?_
  refine s_cond rfl (fun h => ?_) (fun h => ?_)
  · repeat refine s_seqs ?_
    refine s_reg ?_
    refine step_pure rfl (pure_move rfl) ?_
    refine step_pure rfl (pure_assign rfl) ?_
    refine Vc.step_end (fun a w ok => ?_)
    first | (refine WPs.run ?_ a w ok; clear ok w a) | skip
    exact s_ret fun a w ok => ends_k on (.inr rfl) ok (res_tmp Try.results3 rfl)
  have hfew : fewB p.fs = true := by simpa using h
  obtain ⟨hbig, hle, -, -⟩ := few_big hfew
  clear h
  refine s_skip fun a w ok => WPs.run ?_ a w ok
  clear ok w a
  repeat refine s_seqs ?_
  refine s_reg ?_
  refine step_pure rfl (pure_load_agg (i := 0) rfl rfl rfl rfl rfl (by show 3 ≤ 3; decide) rfl) ?_
  refine step_givesP on.sc rfl fun12 rfl (fun w' Z' hh kp hZ hC => pwrite_P p _ w' hZ ⟨_, rfl, hv.mono (Cz.now kp)⟩ hbig) ?_
  rintro u E2 g ⟨v4, rfl, hw4⟩
  replace on := on.next g
  replace hv := hv.mono g.cz
  clear g
  refine step_pure rfl (pure_move rfl) ?_
  refine step_pure rfl (pure_extract rfl rfl) ?_
  refine step_pure rfl (pure_extract rfl rfl) ?_
  refine step_pure rfl (pure_assign rfl) ?_
  refine step_pure rfl (pure_assign rfl) ?_
  refine Vc.step_end (fun a w ok => ?_)
  first | (refine WPs.run ?_ a w ok; clear ok w a) | skip
  repeat refine s_seqs ?_
  refine s_reg ?_
  refine step_pure rfl (pure_load_agg (i := 0) rfl rfl rfl rfl rfl (by show 3 ≤ 3; decide) rfl) ?_
  refine step_givesP on.sc rfl fun13 rfl (fun w' Z' hh kp hZ hC => rpwrite_P p _ w' hZ ⟨_, rfl, hv.mono (Cz.now kp)⟩ hbig) ?_
  rintro u E3 g ⟨v6, rfl, hw6⟩
  replace on := on.next g
  replace hv := hv.mono g.cz
  replace hw4 := hw4.mono g.cz
  clear g
  refine step_pure rfl (pure_move rfl) ?_
  refine step_pure rfl (pure_extract rfl rfl) ?_
  refine step_pure rfl (pure_extract rfl rfl) ?_
  refine step_pure rfl (pure_assign rfl) ?_
  refine step_pure rfl (pure_assign rfl) ?_
  refine Vc.step_end (fun a w ok => ?_)
  first | (refine WPs.run ?_ a w ok; clear ok w a) | skip
  repeat refine s_seqs ?_
  refine s_reg ?_
  refine step_pure rfl (pure_fieldAddr rfl rfl rfl rfl rfl (by decide)) ?_
  first | refine step_pure rfl (pure_load (i := 0) rfl rfl rfl rfl rfl rfl) ?_ | refine step_pure rfl (pure_load (i := 1) rfl rfl rfl rfl rfl rfl) ?_ | refine step_pure rfl (pure_load (i := 2) rfl rfl rfl rfl rfl rfl) ?_ | refine step_pure rfl (pure_load (i := 3) rfl rfl rfl rfl rfl rfl) ?_ | refine step_pure rfl (pure_load (i := 4) rfl rfl rfl rfl rfl rfl) ?_ | refine step_pure rfl (pure_load (i := 5) rfl rfl rfl rfl rfl rfl) ?_
  refine step_pure rfl (pure_fieldAddr rfl rfl rfl rfl rfl (by decide)) ?_
  first | refine step_pure rfl (pure_load (i := 0) rfl rfl rfl rfl rfl rfl) ?_ | refine step_pure rfl (pure_load (i := 1) rfl rfl rfl rfl rfl rfl) ?_ | refine step_pure rfl (pure_load (i := 2) rfl rfl rfl rfl rfl rfl) ?_ | refine step_pure rfl (pure_load (i := 3) rfl rfl rfl rfl rfl rfl) ?_ | refine step_pure rfl (pure_load (i := 4) rfl rfl rfl rfl rfl rfl) ?_ | refine step_pure rfl (pure_load (i := 5) rfl rfl rfl rfl rfl rfl) ?_
  refine step_givesP on.sc rfl fun14 rfl (fun w' Z' hh kp hZ hC => hdR_of (head_any p.side p.num w') hZ) ?_
  rintro u E4 g ⟨v8, rfl, hw8⟩
  replace on := on.next g
  replace hv := hv.mono g.cz
  replace hw4 := hw4.mono g.cz
  replace hw6 := hw6.mono g.cz
  clear g
  refine step_pure rfl (pure_move rfl) ?_
  refine step_pure rfl (pure_extract rfl rfl) ?_
  refine step_pure rfl (pure_extract rfl rfl) ?_
  refine step_pure rfl (pure_assign rfl) ?_
  refine step_pure rfl (pure_assign rfl) ?_
  refine Vc.step_end (fun a w ok => ?_)
  first | (refine WPs.run ?_ a w ok; clear ok w a) | skip
  repeat refine s_seqs ?_
  refine s_reg ?_
  refine step_pure rfl (pure_fieldAddr rfl rfl rfl rfl rfl (by decide)) ?_
  first | refine step_pure rfl (pure_load (i := 0) rfl rfl rfl rfl rfl rfl) ?_ | refine step_pure rfl (pure_load (i := 1) rfl rfl rfl rfl rfl rfl) ?_ | refine step_pure rfl (pure_load (i := 2) rfl rfl rfl rfl rfl rfl) ?_ | refine step_pure rfl (pure_load (i := 3) rfl rfl rfl rfl rfl rfl) ?_ | refine step_pure rfl (pure_load (i := 4) rfl rfl rfl rfl rfl rfl) ?_ | refine step_pure rfl (pure_load (i := 5) rfl rfl rfl rfl rfl rfl) ?_
  refine step_pure rfl (pure_fieldAddr rfl rfl rfl rfl rfl (by decide)) ?_
  first | refine step_pure rfl (pure_load (i := 0) rfl rfl rfl rfl rfl rfl) ?_ | refine step_pure rfl (pure_load (i := 1) rfl rfl rfl rfl rfl rfl) ?_ | refine step_pure rfl (pure_load (i := 2) rfl rfl rfl rfl rfl rfl) ?_ | refine step_pure rfl (pure_load (i := 3) rfl rfl rfl rfl rfl rfl) ?_ | refine step_pure rfl (pure_load (i := 4) rfl rfl rfl rfl rfl rfl) ?_ | refine step_pure rfl (pure_load (i := 5) rfl rfl rfl rfl rfl rfl) ?_
  refine step_givesP on.sc rfl fun15 rfl (fun w' Z' hh kp hZ hC => hdR_of (rhead_any p.side p.num w') hZ) ?_
  rintro u E5 g ⟨v10, rfl, hw10⟩
  replace on := on.next g
  replace hv := hv.mono g.cz
  replace hw4 := hw4.mono g.cz
  replace hw6 := hw6.mono g.cz
  replace hw8 := hw8.mono g.cz
  clear g
  refine step_pure rfl (pure_move rfl) ?_
  refine step_pure rfl (pure_extract rfl rfl) ?_
  refine step_pure rfl (pure_extract rfl rfl) ?_
  refine step_pure rfl (pure_assign rfl) ?_
  refine step_pure rfl (pure_assign rfl) ?_
  refine Vc.step_end (fun a w ok => ?_)
  first | (refine WPs.run ?_ a w ok; clear ok w a) | skip
  generalize pE p = pe at *
  generalize hdE p.side p.num = he at *
  repeat refine s_seqs ?_
  refine s_dreg [1, 9, 19, 27, 35, 43, 49, 57, 65, 75, 83, 91, 99, 105, 113, 121, 129, 139, 145, 155, 161, 169, 177, 185, 193, 201, 209, 217, 225, 235, 241, 251, 257, 265, 273, 281, 289, 297, 305, 313] ([⟨b1, [.int .i64 p.side, .int .i64 p.num, .slice fb p.fs.length fc], 24⟩]) follows (by kernel_rfl) ?_
  refine d_pure0 rfl rfl rfl (pure_move rfl) ?_
  refine d_pure0 rfl rfl rfl (pure_move rfl) ?_
  refine d_pure1 rfl rfl rfl (pure_load_agg (i := 0) rfl rfl rfl rfl rfl (by show 3 ≤ 3; decide) rfl) (by first | exact SubMem.refl _ | exact (SubMem.refl _).cons | exact (SubMem.refl _).cons.cons | exact (SubMem.refl _).cons.cons.cons | exact (SubMem.refl _).cons.cons.cons.cons | exact (fun w hh => Has.sublist (by repeat (first | exact List.Sublist.refl _ | exact List.nil_sublist _ | apply List.Sublist.cons_cons | apply List.Sublist.cons)) hh)) ?_
  refine d_gives rfl rfl rfl fun16 rfl (fun w' hh kp => pcheck_any p _ w' ⟨_, rfl, hv.mono (Cz.now kp)⟩ hbig) (by first | exact SubMem.refl _ | exact (SubMem.refl _).cons | exact (SubMem.refl _).cons.cons | exact (SubMem.refl _).cons.cons.cons | exact (SubMem.refl _).cons.cons.cons.cons | exact (fun w hh => Has.sublist (by repeat (first | exact List.Sublist.refl _ | exact List.nil_sublist _ | apply List.Sublist.cons_cons | apply List.Sublist.cons)) hh)) ?_
  refine d_pure1 rfl rfl rfl (pure_load_agg (i := 0) rfl rfl rfl rfl rfl (by show 3 ≤ 3; decide) rfl) (by first | exact SubMem.refl _ | exact (SubMem.refl _).cons | exact (SubMem.refl _).cons.cons | exact (SubMem.refl _).cons.cons.cons | exact (SubMem.refl _).cons.cons.cons.cons | exact (fun w hh => Has.sublist (by repeat (first | exact List.Sublist.refl _ | exact List.nil_sublist _ | apply List.Sublist.cons_cons | apply List.Sublist.cons)) hh)) ?_
  refine d_gives rfl rfl rfl fun17 rfl (fun w' hh kp => rpcheck_any p _ w' ⟨_, rfl, hv.mono (Cz.now kp)⟩ hbig) (by first | exact SubMem.refl _ | exact (SubMem.refl _).cons | exact (SubMem.refl _).cons.cons | exact (SubMem.refl _).cons.cons.cons | exact (SubMem.refl _).cons.cons.cons.cons | exact (fun w hh => Has.sublist (by repeat (first | exact List.Sublist.refl _ | exact List.nil_sublist _ | apply List.Sublist.cons_cons | apply List.Sublist.cons)) hh)) ?_
  refine d_as0 rfl rfl rfl (pure_eql rfl rfl) (show _ = Value.bool true from by rw [beq_self_eq_true]) ?_
  refine d_pure0 rfl rfl rfl (pure_pick_yes rfl rfl) ?_
  refine d_pure0 rfl rfl rfl (pure_move rfl) ?_
  refine d_pure1 rfl rfl rfl (pure_load_agg (i := 0) rfl rfl rfl rfl rfl (by show 3 ≤ 3; decide) rfl) (by first | exact SubMem.refl _ | exact (SubMem.refl _).cons | exact (SubMem.refl _).cons.cons | exact (SubMem.refl _).cons.cons.cons | exact (SubMem.refl _).cons.cons.cons.cons | exact (fun w hh => Has.sublist (by repeat (first | exact List.Sublist.refl _ | exact List.nil_sublist _ | apply List.Sublist.cons_cons | apply List.Sublist.cons)) hh)) ?_
  refine d_gives rfl rfl rfl fun18 rfl (fun w' hh kp => peliciting_any p _ w' ⟨_, rfl, hv.mono (Cz.now kp)⟩ hbig hle) (by first | exact SubMem.refl _ | exact (SubMem.refl _).cons | exact (SubMem.refl _).cons.cons | exact (SubMem.refl _).cons.cons.cons | exact (SubMem.refl _).cons.cons.cons.cons | exact (fun w hh => Has.sublist (by repeat (first | exact List.Sublist.refl _ | exact List.nil_sublist _ | apply List.Sublist.cons_cons | apply List.Sublist.cons)) hh)) ?_
  refine d_pure1 rfl rfl rfl (pure_load_agg (i := 0) rfl rfl rfl rfl rfl (by show 3 ≤ 3; decide) rfl) (by first | exact SubMem.refl _ | exact (SubMem.refl _).cons | exact (SubMem.refl _).cons.cons | exact (SubMem.refl _).cons.cons.cons | exact (SubMem.refl _).cons.cons.cons.cons | exact (fun w hh => Has.sublist (by repeat (first | exact List.Sublist.refl _ | exact List.nil_sublist _ | apply List.Sublist.cons_cons | apply List.Sublist.cons)) hh)) ?_
  refine d_gives rfl rfl rfl fun19 rfl (fun w' hh kp => rpeliciting_any p _ w' ⟨_, rfl, hv.mono (Cz.now kp)⟩ hbig hle) (by first | exact SubMem.refl _ | exact (SubMem.refl _).cons | exact (SubMem.refl _).cons.cons | exact (SubMem.refl _).cons.cons.cons | exact (SubMem.refl _).cons.cons.cons.cons | exact (fun w hh => Has.sublist (by repeat (first | exact List.Sublist.refl _ | exact List.nil_sublist _ | apply List.Sublist.cons_cons | apply List.Sublist.cons)) hh)) ?_
  refine d_as0 rfl rfl rfl (pure_beql rfl rfl rfl rfl) (show _ = Value.bool true from by rw [beq_self_eq_true]) ?_
  refine d_pure0 rfl rfl rfl (pure_pick_yes rfl rfl) ?_
  refine d_pure0 rfl rfl rfl (pure_move rfl) ?_
  refine d_pure0 rfl rfl rfl (pure_move rfl) ?_
  refine d_pure1 rfl rfl rfl (pure_cz_string rfl rfl rfl rfl rfl rfl rfl hw4) (by first | exact SubMem.refl _ | exact (SubMem.refl _).cons | exact (SubMem.refl _).cons.cons | exact (SubMem.refl _).cons.cons.cons | exact (SubMem.refl _).cons.cons.cons.cons | exact (fun w hh => Has.sublist (by repeat (first | exact List.Sublist.refl _ | exact List.nil_sublist _ | apply List.Sublist.cons_cons | apply List.Sublist.cons)) hh)) ?_
  refine d_pure0 rfl rfl rfl (pure_move rfl) ?_
  refine d_pure1 rfl rfl rfl (pure_cz_string rfl rfl rfl rfl rfl rfl rfl hw6) (by first | exact SubMem.refl _ | exact (SubMem.refl _).cons | exact (SubMem.refl _).cons.cons | exact (SubMem.refl _).cons.cons.cons | exact (SubMem.refl _).cons.cons.cons.cons | exact (fun w hh => Has.sublist (by repeat (first | exact List.Sublist.refl _ | exact List.nil_sublist _ | apply List.Sublist.cons_cons | apply List.Sublist.cons)) hh)) ?_
  refine d_as0 rfl rfl rfl (pure_str_eql rfl rfl) (show _ = Value.bool true from by rw [beq_self_eq_true]) ?_
  refine d_pure0 rfl rfl rfl (pure_pick_yes rfl rfl) ?_
  refine d_pure0 rfl rfl rfl (pure_move rfl) ?_
  refine d_pure0 rfl rfl rfl (pure_move rfl) ?_
  refine d_pure0 rfl rfl rfl (pure_move rfl) ?_
  refine d_as0 rfl rfl rfl (pure_eql rfl rfl) (show _ = Value.bool true from by rw [beq_self_eq_true]) ?_
  refine d_pure0 rfl rfl rfl (pure_pick_yes rfl rfl) ?_
  refine d_pure0 rfl rfl rfl (pure_move rfl) ?_
  refine d_pure0 rfl rfl rfl (pure_move rfl) ?_
  refine d_pure1 rfl rfl rfl (pure_cz_string rfl rfl rfl rfl rfl rfl rfl hw8) (by first | exact SubMem.refl _ | exact (SubMem.refl _).cons | exact (SubMem.refl _).cons.cons | exact (SubMem.refl _).cons.cons.cons | exact (SubMem.refl _).cons.cons.cons.cons | exact (fun w hh => Has.sublist (by repeat (first | exact List.Sublist.refl _ | exact List.nil_sublist _ | apply List.Sublist.cons_cons | apply List.Sublist.cons)) hh)) ?_
  refine d_pure0 rfl rfl rfl (pure_move rfl) ?_
  refine d_pure1 rfl rfl rfl (pure_cz_string rfl rfl rfl rfl rfl rfl rfl hw10) (by first | exact SubMem.refl _ | exact (SubMem.refl _).cons | exact (SubMem.refl _).cons.cons | exact (SubMem.refl _).cons.cons.cons | exact (SubMem.refl _).cons.cons.cons.cons | exact (fun w hh => Has.sublist (by repeat (first | exact List.Sublist.refl _ | exact List.nil_sublist _ | apply List.Sublist.cons_cons | apply List.Sublist.cons)) hh)) ?_
  refine d_as0 rfl rfl rfl (pure_str_eql rfl rfl) (show _ = Value.bool true from by rw [beq_self_eq_true]) ?_
  refine d_pure0 rfl rfl rfl (pure_pick_yes rfl rfl) ?_
  refine d_pure0 rfl rfl rfl (pure_move rfl) ?_
  refine d_pure0 rfl rfl rfl (pure_move rfl) ?_
  refine d_pure0 rfl rfl rfl (pure_move rfl) ?_
  refine d_as0 rfl rfl rfl (pure_eql rfl rfl) (show _ = Value.bool true from by rw [beq_self_eq_true]) ?_
  refine d_pure0 rfl rfl rfl (pure_pick_yes rfl rfl) ?_
  refine d_pure0 rfl rfl rfl (pure_assign rfl) ?_
  refine d_end (fun a w ok => ?_)
  first | (refine WPs.run ?_ a w ok; clear ok w a) | skip
  exact s_ret fun a w ok => ends_k on (.inr rfl) ok (res_tmp Try.results3 rfl)

theorem pG_in {b : List Int} (hb : Bytes b) : (∀ f ∈ (pG b).fs, Bytes f.data) ∧ wrOk (pG b).fs = true := by
  unfold pG
  cases h : pRd b with
  | none => exact ⟨(by intro f hf; cases hf), rfl⟩
  | some p =>
    obtain ⟨h1, h2, h3⟩ := pRd_in hb h
    exact ⟨h3, (pOk_in h1).2.1⟩
set_option maxHeartbeats 4000000 in
theorem packetreads_any (b : List Int) (v : Value) (w0 : World) (hv : SlC (At w0) 1 v b.length (row b)) (hb : Bytes b) : Gives tb 4 [v] w0 (.bool true) := by
  obtain ⟨base1, cap1, rfl, hcap1⟩ := slc_str hv
  refine gives_ofk (fn := Try.f4) Try.func4 rfl Try.ntmps4 rfl (fun on => ?_)
  have hv : SlC (Cz (fun _ => True) ⟨w0, [], []⟩) 1 (.slice base1 b.length cap1) b.length (row b) := hv.mono fun p x h => cz_start p x ⟨h, trivial⟩
  repeat refine s_seqs ?_
  refine s_reg ?_
  refine step_pure rfl (pure_assign rfl) ?_
  refine Vc.step_end (fun a w ok => ?_)
  first | (refine WPs.run ?_ a w ok; clear ok w a) | skip
  repeat refine s_seqs ?_
  refine s_reg ?_
  refine step_gives rfl fun10 rfl (fun w _ _ => awake_any w) ?_
  refine step_pure rfl (pure_assign rfl) ?_
  refine Vc.step_end (fun a w ok => ?_)
  first | (refine WPs.run ?_ a w ok; clear ok w a) | skip
  repeat refine s_seqs ?_
  refine s_reg ?_
  refine step_pure rfl (pure_move rfl) ?_
  refine step_pure rfl (pure_len_slice rfl rfl rfl) ?_
  refine step_pure rfl (pure_gtr rfl rfl) ?_
  refine Vc.step_end (fun a w ok => ?_)
  first | (refine WPs.run ?_ a w ok; clear ok w a) | skip
  repeat refine s_seqs ?_
  refine s_cond rfl (fun h => ?_) (fun h => ?_)
  · repeat refine s_seqs ?_
    refine s_reg ?_
    refine step_pure rfl (pure_move rfl) ?_
    refine step_pure rfl (pure_assign rfl) ?_
    refine Vc.step_end (fun a w ok => ?_)
    first | (refine WPs.run ?_ a w ok; clear ok w a) | skip
    exact s_ret fun a w ok => ends_k on (.inr rfl) ok (res_tmp Try.results4 rfl)
  have hb3 : b.length ≤ 3000 := by have := of_decide_eq_false h; omega
  clear h
  refine s_skip fun a w ok => WPs.run ?_ a w ok
  clear ok w a
  obtain ⟨hgb, hgk⟩ := pG_in hb
  have hbig := wrOk_big hgk
  have h16 := (wrOk_in hgk).1
  have hps : psB (pG b) (pG b) = true := (psB_iff hgb hgb).2 rfl
  have hhv : HdV b = .tuple #[.int .i64 (hdS b), .int .i64 (hdN b), .int .i64 (hdK b), .int .i64 (hdX b)] := rfl
  repeat refine s_seqs ?_
  refine s_reg ?_
  refine step_pure rfl (pure_move rfl) ?_
  refine step_givesP on.sc rfl fun20 rfl (fun w' Z' hh kp hZ hC => pread_P b _ w' hZ (hv.mono (Cz.now kp)) hb (by omega)) ?_
  rintro u E2 g ⟨v4, rfl, hr4⟩
  replace on := on.next g
  replace hv := hv.mono g.cz
  clear g
  obtain ⟨b4', c4', rfl, hc4'⟩ := hr4.slice
  refine step_pure rfl (pure_move rfl) ?_
  refine step_pure rfl (pure_extract rfl rfl) ?_
  refine step_pure rfl (pure_extract rfl rfl) ?_
  refine step_alloc rfl zero24 (fun b4 => ?_)
  refine step_store_agg 0 rfl rfl rfl (of_one rfl) rfl rfl rfl rfl (Nat.le_of_ble_eq_true rfl) rfl ?_
  refine step_pure rfl (pure_assign rfl) ?_
  refine Vc.step_end (fun a w ok => ?_)
  first | (refine WPs.run ?_ a w ok; clear ok w a) | skip
  repeat refine s_seqs ?_
  refine s_reg ?_
  refine step_pure rfl (pure_move rfl) ?_
  refine step_givesP on.sc rfl fun21 rfl (fun w' Z' hh kp hZ hC => rpread_P b _ w' hZ (hv.mono (Cz.now kp)) hb (by omega)) ?_
  rintro u E3 g ⟨v6, rfl, hr6⟩
  replace on := on.next g
  replace hv := hv.mono g.cz
  replace hr4 := hr4.mono g.cz
  clear g
  obtain ⟨b6', c6', rfl, hc6'⟩ := hr6.slice
  refine step_pure rfl (pure_move rfl) ?_
  refine step_pure rfl (pure_extract rfl rfl) ?_
  refine step_pure rfl (pure_extract rfl rfl) ?_
  refine step_alloc rfl zero24 (fun b6 => ?_)
  refine step_store_agg 0 rfl rfl rfl (of_one rfl) rfl rfl rfl rfl (Nat.le_of_ble_eq_true rfl) rfl ?_
  refine step_pure rfl (pure_assign rfl) ?_
  refine Vc.step_end (fun a w ok => ?_)
  first | (refine WPs.run ?_ a w ok; clear ok w a) | skip
  repeat refine s_seqs ?_
  refine s_reg ?_
  refine step_pure rfl (pure_move rfl) ?_
  refine step_gives rfl fun22 rfl (fun w' hh kp => headed_any b _ w' (hv.mono (Cz.now kp)).slv hb (by omega)) ?_
  rw [hhv]
  refine step_pure rfl (pure_move rfl) ?_
  refine step_pure rfl (pure_extract rfl rfl) ?_
  refine step_pure rfl (pure_extract rfl rfl) ?_
  refine step_pure rfl (pure_extract rfl rfl) ?_
  refine step_pure rfl (pure_extract rfl rfl) ?_
  refine step_pure rfl (pure_assign rfl) ?_
  refine step_pure rfl (pure_assign rfl) ?_
  refine step_pure rfl (pure_assign rfl) ?_
  refine step_pure rfl (pure_assign rfl) ?_
  refine Vc.step_end (fun a w ok => ?_)
  first | (refine WPs.run ?_ a w ok; clear ok w a) | skip
  repeat refine s_seqs ?_
  refine s_reg ?_
  refine step_pure rfl (pure_move rfl) ?_
  refine step_gives rfl fun23 rfl (fun w' hh kp => rheaded_any b _ w' (hv.mono (Cz.now kp)).slv hb (by omega)) ?_
  rw [hhv]
  refine step_pure rfl (pure_move rfl) ?_
  refine step_pure rfl (pure_extract rfl rfl) ?_
  refine step_pure rfl (pure_extract rfl rfl) ?_
  refine step_pure rfl (pure_extract rfl rfl) ?_
  refine step_pure rfl (pure_extract rfl rfl) ?_
  refine step_pure rfl (pure_assign rfl) ?_
  refine step_pure rfl (pure_assign rfl) ?_
  refine step_pure rfl (pure_assign rfl) ?_
  refine step_pure rfl (pure_assign rfl) ?_
  refine Vc.step_end (fun a w ok => ?_)
  first | (refine WPs.run ?_ a w ok; clear ok w a) | skip
  repeat refine s_seqs ?_
  refine s_reg ?_
  refine step_pure rfl (pure_load_agg (i := 1) rfl rfl rfl rfl rfl (by show 3 ≤ 3; decide) rfl) ?_
  refine step_pure rfl (pure_load_agg (i := 0) rfl rfl rfl rfl rfl (by show 3 ≤ 3; decide) rfl) ?_
  refine step_gives rfl fun24 rfl (fun w' hh kp => psame_any (pG b) (pG b) _ _ w' ⟨_, rfl, hr4.mono (Cz.now kp)⟩ ⟨_, rfl, hr6.mono (Cz.now kp)⟩ (fun f hf => by have := (hbig f hf).2; omega) (by omega)) ?_
  refine step_pure rfl (pure_assign rfl) ?_
  refine Vc.step_end (fun a w ok => ?_)
  first | (refine WPs.run ?_ a w ok; clear ok w a) | skip
  rw [hps]
  generalize hdS b = x1 at *
  generalize hdN b = x2 at *
  generalize hdK b = x3 at *
  generalize hdX b = x4 at *
  generalize pX b = x5 at *
  repeat refine s_seqs ?_
  refine s_reg ?_
  refine step_pure rfl (pure_move rfl) ?_
  refine step_pure rfl (pure_move rfl) ?_
  refine step_pure rfl (pure_move rfl) ?_
  refine step_pure rfl (pure_pick_yes rfl rfl) ?_
  refine step_pure rfl (pure_move rfl) ?_
  refine step_pure rfl (pure_move rfl) ?_
  refine step_pure rfl (pure_move rfl) ?_
  refine step_as rfl (pure_eql rfl rfl) (show _ = Value.bool true from by rw [beq_self_eq_true]) ?_
  refine step_pure rfl (pure_pick_yes rfl rfl) ?_
  refine step_pure rfl (pure_move rfl) ?_
  refine step_pure rfl (pure_move rfl) ?_
  refine step_pure rfl (pure_move rfl) ?_
  refine step_as rfl (pure_eql rfl rfl) (show _ = Value.bool true from by rw [beq_self_eq_true]) ?_
  refine step_pure rfl (pure_pick_yes rfl rfl) ?_
  refine step_pure rfl (pure_move rfl) ?_
  refine step_pure rfl (pure_move rfl) ?_
  refine step_pure rfl (pure_move rfl) ?_
  refine step_as rfl (pure_eql rfl rfl) (show _ = Value.bool true from by rw [beq_self_eq_true]) ?_
  refine step_pure rfl (pure_pick_yes rfl rfl) ?_
  refine step_pure rfl (pure_move rfl) ?_
  refine step_pure rfl (pure_move rfl) ?_
  refine step_pure rfl (pure_move rfl) ?_
  refine step_as rfl (pure_eql rfl rfl) (show _ = Value.bool true from by rw [beq_self_eq_true]) ?_
  refine step_pure rfl (pure_pick_yes rfl rfl) ?_
  refine step_pure rfl (pure_move rfl) ?_
  refine step_pure rfl (pure_move rfl) ?_
  refine step_pure rfl (pure_move rfl) ?_
  refine step_as rfl (pure_eql rfl rfl) (show _ = Value.bool true from by rw [beq_self_eq_true]) ?_
  refine step_pure rfl (pure_pick_yes rfl rfl) ?_
  refine step_pure rfl (pure_assign rfl) ?_
  refine Vc.step_end (fun a w ok => ?_)
  first | (refine WPs.run ?_ a w ok; clear ok w a) | skip
  exact s_ret fun a w ok => ends_k on (.inr rfl) ok (res_tmp Try.results4 rfl)

theorem pPad_in {size : Int} {l : List Fr} (hb : ∀ f ∈ l, Bytes f.data) : (∀ f ∈ (pPad size l).getD [], Bytes f.data ∧ f.rs.length ≤ 16) ∧ ((pPad size l).getD []).length ≤ 17 := by
  unfold pPad
  split
  · rename_i hok
    have h16 := (wrOk_in hok).1
    have hbg := wrOk_big hok
    split
    · exact ⟨fun f hf => ⟨hb f hf, (hbg f hf).2⟩, by show l.length ≤ 17; omega⟩
    · split
      · exact ⟨(by intro f hf; cases hf), Nat.zero_le _⟩
      · cases pFind (size - ((wBs l).length : Int)) with
        | none => exact ⟨(by intro f hf; cases hf), Nat.zero_le _⟩
        | some n =>
          refine ⟨fun f hf => ?_, by show (l ++ [padN n]).length ≤ 17; rw [List.length_append, List.length_singleton]; omega⟩
          replace hf : f ∈ l ++ [padN n] := hf
          rcases List.mem_append.1 hf with hf | hf
          · exact ⟨hb f hf, (hbg f hf).2⟩
          · rw [List.mem_singleton.1 hf]
            exact ⟨(by intro x hx; cases hx), Nat.zero_le _⟩
  · exact ⟨(by intro f hf; cases hf), Nat.zero_le _⟩
set_option maxHeartbeats 4000000 in
theorem packetpads_any (size : Int) (l : List Fr) (v : Value) (w0 : World) (hv : FrsC (At w0) v l) (hb : ∀ f ∈ l, Bytes f.data) : Gives tb 5 [.int .i64 size, v] w0 (.bool true) := by
  obtain ⟨base1, cap1, rfl, hcap1⟩ := hv.slice
  refine gives_ofk (fn := Try.f5) Try.func5 rfl Try.ntmps5 rfl (fun on => ?_)
  have hv : FrsC (Cz (fun _ => True) ⟨w0, [], []⟩) (.slice base1 l.length cap1) l := hv.mono fun p x h => cz_start p x ⟨h, trivial⟩
  repeat refine s_seqs ?_
  refine s_reg ?_
  refine step_pure rfl (pure_assign rfl) ?_
  refine Vc.step_end (fun a w ok => ?_)
  first | (refine WPs.run ?_ a w ok; clear ok w a) | skip
  repeat refine s_seqs ?_
  refine s_reg ?_
  refine step_gives rfl fun10 rfl (fun w _ _ => awake_any w) ?_
  refine step_pure rfl (pure_assign rfl) ?_
  refine Vc.step_end (fun a w ok => ?_)
  first | (refine WPs.run ?_ a w ok; clear ok w a) | skip
  repeat refine s_seqs ?_
  refine s_reg ?_
  refine step_pure rfl (pure_move rfl) ?_
  refine step_gives rfl fun11 rfl (fun w' hh kp => few_any l _ w' (hv.mono (Cz.now kp))) ?_
  refine step_pure rfl (pure_not rfl) ?_
  refine Vc.step_end (fun a w ok => ?_)
  first | (refine WPs.run ?_ a w ok; clear ok w a) | skip
  repeat refine s_seqs ?_
  refine s_cond rfl (fun h => ?_) (fun h => ?_)
  · repeat refine s_seqs ?_
    refine s_reg ?_
    refine step_pure rfl (pure_move rfl) ?_
    refine step_pure rfl (pure_assign rfl) ?_
    refine Vc.step_end (fun a w ok => ?_)
    first | (refine WPs.run ?_ a w ok; clear ok w a) | skip
    exact s_ret fun a w ok => ends_k on (.inr rfl) ok (res_tmp Try.results5 rfl)
  have hfew : fewB l = true := by simpa using h
  obtain ⟨hbig, hle, h30, -⟩ := few_big hfew
  clear h
  refine s_skip fun a w ok => WPs.run ?_ a w ok
  clear ok w a
  obtain ⟨hin, h17⟩ := pPad_in (size := size) hb
  have hall : allB ((pPad size l).getD []) ((pPad size l).getD []) = true := (allB_iff (fun f hf => (hin f hf).1) (fun f hf => (hin f hf).1)).2 rfl
  repeat refine s_seqs ?_
  refine s_reg ?_
  refine step_pure rfl (pure_move rfl) ?_
  refine step_pure rfl (pure_move rfl) ?_
  refine step_givesP on.sc rfl fun25 rfl (fun w' Z' hh kp hZ hC => pad_P size l _ w' hZ (hv.mono hC) hbig) ?_
  rintro u E2 g ⟨v6, rfl, hr6⟩
  replace on := on.next g
  replace hv := hv.mono g.cz
  clear g
  refine step_pure rfl (pure_move rfl) ?_
  refine step_pure rfl (pure_extract rfl rfl) ?_
  refine step_pure rfl (pure_extract rfl rfl) ?_
  refine step_pure rfl (pure_assign rfl) ?_
  refine step_pure rfl (pure_assign rfl) ?_
  refine Vc.step_end (fun a w ok => ?_)
  first | (refine WPs.run ?_ a w ok; clear ok w a) | skip
  repeat refine s_seqs ?_
  refine s_reg ?_
  refine step_pure rfl (pure_move rfl) ?_
  refine step_pure rfl (pure_move rfl) ?_
  refine step_givesP on.sc rfl fun26 rfl (fun w' Z' hh kp hZ hC => rpad_P size l _ w' hZ (hv.mono hC) hbig (by omega)) ?_
  rintro u E3 g ⟨v8, rfl, hr8⟩
  replace on := on.next g
  replace hr6 := hr6.mono g.cz
  clear g
  refine step_pure rfl (pure_move rfl) ?_
  refine step_pure rfl (pure_extract rfl rfl) ?_
  refine step_pure rfl (pure_extract rfl rfl) ?_
  refine step_pure rfl (pure_assign rfl) ?_
  refine step_pure rfl (pure_assign rfl) ?_
  refine Vc.step_end (fun a w ok => ?_)
  first | (refine WPs.run ?_ a w ok; clear ok w a) | skip
  generalize (pPad size l).getD [] = ks at *
  generalize (if (pPad size l).isSome = true then (0 : Int) else 30) = gv at *
  repeat refine s_seqs ?_
  refine s_reg ?_
  refine step_pure rfl (pure_move rfl) ?_
  refine step_pure rfl (pure_move rfl) ?_
  refine step_gives rfl fun27 rfl (fun w' hh kp => all_any ks ks _ _ w' (hr6.mono (Cz.now kp)) (hr8.mono (Cz.now kp)) (fun f hf => by have := (hin f hf).2; omega) (by omega)) ?_
  refine step_pure rfl (pure_assign rfl) ?_
  refine Vc.step_end (fun a w ok => ?_)
  first | (refine WPs.run ?_ a w ok; clear ok w a) | skip
  rw [hall]
  repeat refine s_seqs ?_
  refine s_reg ?_
  refine step_pure rfl (pure_move rfl) ?_
  refine step_pure rfl (pure_move rfl) ?_
  refine step_pure rfl (pure_move rfl) ?_
  refine step_pure rfl (pure_pick_yes rfl rfl) ?_
  refine step_pure rfl (pure_move rfl) ?_
  refine step_pure rfl (pure_move rfl) ?_
  refine step_pure rfl (pure_move rfl) ?_
  refine step_as rfl (pure_eql rfl rfl) (show _ = Value.bool true from by rw [beq_self_eq_true]) ?_
  refine step_pure rfl (pure_pick_yes rfl rfl) ?_
  refine step_pure rfl (pure_assign rfl) ?_
  refine Vc.step_end (fun a w ok => ?_)
  first | (refine WPs.run ?_ a w ok; clear ok w a) | skip
  exact s_ret fun a w ok => ends_k on (.inr rfl) ok (res_tmp Try.results5 rfl)

set_option maxHeartbeats 4000000 in
theorem packeteliciting_any (p : Pk) (cs : List Value) (w0 : World) (hp : PkC (At w0) p cs) : Gives tb 8 [.agg cs.toArray] w0 (.bool true) := by
  obtain ⟨fv, rfl, hv⟩ := hp
  obtain ⟨fb, fc, rfl, hfc⟩ := hv.slice
  refine gives_ofk (fn := Try.f8) Try.func8 rfl Try.ntmps8 rfl (fun on => ?_)
  have hv : FrsC (Cz (fun _ => True) ⟨w0, [], []⟩) (.slice fb p.fs.length fc) p.fs := hv.mono fun p x h => cz_start p x ⟨h, trivial⟩
  repeat refine s_seqs ?_
  refine s_reg ?_
  refine step_box_agg rfl rfl (fun b1 => ?_)
  refine step_pure rfl (pure_assign rfl) ?_
  refine Vc.step_end (fun a w ok => ?_)
  first | (refine WPs.run ?_ a w ok; clear ok w a) | skip
  repeat refine s_seqs ?_
  refine s_reg ?_
  refine step_gives rfl fun10 rfl (fun w _ _ => awake_any w) ?_
  refine step_pure rfl (pure_assign rfl) ?_
  refine Vc.step_end (fun a w ok => ?_)
  first | (refine WPs.run ?_ a w ok; clear ok w a) | skip
  repeat refine s_seqs ?_
  refine s_reg ?_
  refine step_pure rfl (pure_fieldAddr rfl rfl rfl rfl rfl (by decide)) ?_
  first | refine step_pure rfl (pure_load (i := 0) rfl rfl rfl rfl rfl rfl) ?_ | refine step_pure rfl (pure_load (i := 1) rfl rfl rfl rfl rfl rfl) ?_ | refine step_pure rfl (pure_load (i := 2) rfl rfl rfl rfl rfl rfl) ?_ | refine step_pure rfl (pure_load (i := 3) rfl rfl rfl rfl rfl rfl) ?_ | refine step_pure rfl (pure_load (i := 4) rfl rfl rfl rfl rfl rfl) ?_ | refine step_pure rfl (pure_load (i := 5) rfl rfl rfl rfl rfl rfl) ?_
  refine step_gives rfl fun11 rfl (fun w' hh kp => few_any p.fs _ w' (hv.mono (Cz.now kp))) ?_
  refine step_pure rfl (pure_not rfl) ?_
  refine Vc.step_end (fun a w ok => ?_)
  first | (refine WPs.run ?_ a w ok; clear ok w a) | skip
  repeat refine s_seqs ?_
  refine s_cond rfl (fun h => ?_) (fun h => ?_)
  · repeat refine s_seqs ?_
    refine s_reg ?_
    refine step_pure rfl (pure_move rfl) ?_
    refine step_pure rfl (pure_assign rfl) ?_
    refine Vc.step_end (fun a w ok => ?_)
    first | (refine WPs.run ?_ a w ok; clear ok w a) | skip
    exact s_ret fun a w ok => ends_k on (.inr rfl) ok (res_tmp Try.results8 rfl)
  have hfew : fewB p.fs = true := by simpa using h
  obtain ⟨hbig, hle, h30, -⟩ := few_big hfew
  clear h
  refine s_skip fun a w ok => WPs.run ?_ a w ok
  clear ok w a
  repeat refine s_seqs ?_
  refine s_reg ?_
  refine step_pure rfl (pure_assign rfl) ?_
  refine Vc.step_end (fun a w ok => ?_)
  first | (refine WPs.run ?_ a w ok; clear ok w a) | skip
  repeat refine s_seqs ?_
  refine s_reg ?_
  refine step_pure rfl (pure_assign rfl) ?_
  refine Vc.step_end (fun a w ok => ?_)
  first | (refine WPs.run ?_ a w ok; clear ok w a) | skip
  repeat refine s_seqs ?_
  refine s_block ?_
  repeat refine s_seqs ?_
  refine s_loopP (α := Nat) (fun i => [(1, .pointer (some ⟨b1, 0, none⟩)), (3, .bool true), (4, .bool ((p.fs.take i).any asks)), (5, .int .i64 i)]) (fun _ => [⟨b1, [.int .i64 p.side, .int .i64 p.num, .slice fb p.fs.length fc], 24⟩]) (fun i _ => i ≤ p.fs.length) (fun i => p.fs.length - i) 0 (Nat.zero_le _) (less_of ⟨rfl, rfl, rfl, rfl, trivial⟩ rfl) ?_
  rintro i E2 hi g
  replace on := on.next g
  replace hv := hv.mono g.cz
  clear g
  repeat refine s_seqs ?_
  refine s_reg ?_
  refine step_pure rfl (pure_move rfl) ?_
  refine step_pure rfl (pure_fieldAddr rfl rfl rfl rfl rfl (by decide)) ?_
  first | refine step_pure rfl (pure_load (i := 0) rfl rfl rfl rfl rfl rfl) ?_ | refine step_pure rfl (pure_load (i := 1) rfl rfl rfl rfl rfl rfl) ?_ | refine step_pure rfl (pure_load (i := 2) rfl rfl rfl rfl rfl rfl) ?_ | refine step_pure rfl (pure_load (i := 3) rfl rfl rfl rfl rfl rfl) ?_ | refine step_pure rfl (pure_load (i := 4) rfl rfl rfl rfl rfl rfl) ?_ | refine step_pure rfl (pure_load (i := 5) rfl rfl rfl rfl rfl rfl) ?_
  refine step_pure rfl (pure_len_slice rfl rfl rfl) ?_
  refine step_pure rfl (pure_lss rfl rfl) ?_
  refine Vc.step_end (fun a w ok => ?_)
  first | (refine WPs.run ?_ a w ok; clear ok w a) | skip
  repeat refine s_seqs ?_
  refine s_cond rfl (fun h => ?_) (fun h => ?_)
  · have hlt : i < p.fs.length := by have := of_decide_eq_true h; omega
    clear h
    refine s_skip fun a w ok => WPs.run ?_ a w ok
    clear ok w a
    repeat refine s_seqs ?_
    refine s_block ?_
    obtain ⟨q, cp, cs, hq, hfc, hpc⟩ := hv.at hlt
    cases hq
    have h5 := hfc.five
    have hm : maxLen ≤ 9223372036854775807 := by decide
    have hel := fun w' (kp : Keep E2.w0 w' E2.ws) => eliciting_any p.fs[i] cs w' (hfc.mono (Cz.now kp)) (by have := hbig _ (List.getElem_mem hlt); omega)
    have htk : (p.fs.take (i + 1)).any asks = ((p.fs.take i).any asks || asks p.fs[i]) := by rw [List.take_succ_eq_append_getElem hlt, List.any_append, List.any_cons, List.any_nil, Bool.or_false]
    clear hfc
    generalize ht1 : (p.fs.take (i + 1)).any asks = t1 at *
    generalize (p.fs.take i).any asks = t0 at *
    generalize asks p.fs[i] = f0 at *
    repeat refine s_seqs ?_
    refine s_meet [(1, .pointer (some ⟨b1, 0, none⟩)), (3, .bool true), (4, .bool t1), (5, .int .i64 i)] [⟨b1, [.int .i64 p.side, .int .i64 p.num, .slice (some q) p.fs.length fc], 24⟩] ?_ (fun a w ok => WPs.run ?_ a w ok)
    · clear ht1
      subst htk
      repeat refine c_seq ?_
      refine c_region ?_
      refine step_pure rfl (pure_move rfl) ?_
      refine step_pure rfl (pure_move rfl) ?_
      refine step_split (t := 20) rfl (fun h20 => ?_) (fun h20 => ?_)
      · refine step_pass rfl rfl rfl ?_
        refine step_pass rfl rfl rfl ?_
        refine step_pass rfl rfl rfl ?_
        refine step_pass rfl rfl rfl ?_
        refine step_pass rfl rfl rfl ?_
        refine step_pass rfl rfl rfl ?_
        refine step_pure rfl (pure_pick_yes rfl rfl) ?_
        refine step_pure rfl (pure_assign rfl) ?_
        refine step_nil ?_
        refine less_of ⟨rfl, rfl, ?_, rfl, trivial⟩ rfl
        refine congrArg some (congrArg Value.bool ?_)
        clear hel hpc hv hbig
        simp_all
      · refine step_pure rfl (pure_fieldAddr rfl rfl rfl rfl rfl (by decide)) ?_
        first | refine step_pure rfl (pure_load (i := 0) rfl rfl rfl rfl rfl rfl) ?_ | refine step_pure rfl (pure_load (i := 1) rfl rfl rfl rfl rfl rfl) ?_ | refine step_pure rfl (pure_load (i := 2) rfl rfl rfl rfl rfl rfl) ?_ | refine step_pure rfl (pure_load (i := 3) rfl rfl rfl rfl rfl rfl) ?_ | refine step_pure rfl (pure_load (i := 4) rfl rfl rfl rfl rfl rfl) ?_ | refine step_pure rfl (pure_load (i := 5) rfl rfl rfl rfl rfl rfl) ?_
        refine step_pure rfl (pure_move rfl) ?_
        refine step_as rfl (pure_indexAddr_at rfl rfl rfl rfl rfl (by omega) (by omega)) (show _ = Value.pointer (some (q.add (i * 5))) from by show Value.pointer (some (q.add ((i : Int).toNat * 5))) = _; rw [Int.toNat_natCast]) ?_
        refine step_pure rfl (pure_cel_agg rfl rfl rfl h5 (fun j x hx => (hpc j x hx).1)) ?_
        refine step_gives rfl fun29 rfl (fun w' _ kp => hel w' kp) ?_
        refine step_pure rfl (pure_pick_no rfl rfl) ?_
        refine step_pure rfl (pure_assign rfl) ?_
        refine step_nil ?_
        refine less_of ⟨rfl, rfl, ?_, rfl, trivial⟩ rfl
        refine congrArg some (congrArg Value.bool ?_)
        clear hel hpc hv hbig
        simp_all
    repeat refine s_seqs ?_
    refine s_reg ?_
    refine step_pure rfl (pure_move rfl) ?_
    first | refine step_pure rfl (pure_add64 rfl rfl (by omega) (by omega)) ?_ | refine step_pure rfl (pure_add rfl rfl) ?_
    refine step_pure rfl (pure_assign rfl) ?_
    refine Vc.step_end (fun a w ok => ?_)
    refine ⟨i + 1, E2, hlt, by omega, Gt.refl _, Less.ok ?_ ok⟩
    exact less_of ⟨rfl, rfl, by show some (Value.bool t1) = _; rw [← ht1], rfl, trivial⟩ rfl
  · have hie : i = p.fs.length := by have := of_decide_eq_false h; omega
    rw [hie, List.take_length]
    refine s_exit fun a w ok => WPs.run ?_ a w ok
    clear ok w a
    have hpe := pE_is p
    repeat refine s_seqs ?_
    refine s_reg ?_
    refine step_pure rfl (pure_move rfl) ?_
    refine step_pure rfl (pure_move rfl) ?_
    refine step_pure rfl (pure_load_agg (i := 0) rfl rfl rfl rfl rfl (by show 3 ≤ 3; decide) rfl) ?_
    refine step_gives rfl fun18 rfl (fun w' _ kp => peliciting_any p _ w' ⟨_, rfl, hv.mono (Cz.now kp)⟩ hbig hle) ?_
    unfold pasks
    cases hq : p.fs.any asks with
    | false =>
      refine step_pure rfl (pure_move rfl) ?_
      refine step_pure rfl (pure_move rfl) ?_
      refine step_pass rfl rfl rfl ?_
      refine step_pass rfl rfl rfl ?_
      refine step_pass rfl rfl rfl ?_
      refine step_pure rfl (pure_pick_no rfl rfl) ?_
      refine step_as rfl (pure_beql rfl rfl rfl rfl) (show _ = Value.bool true from by rw [Bool.and_false]; rfl) ?_
      refine step_pure rfl (pure_pick_yes rfl rfl) ?_
      refine step_pure rfl (pure_assign rfl) ?_
      refine Vc.step_end (fun a w ok => ?_)
      first | (refine WPs.run ?_ a w ok; clear ok w a) | skip
      exact s_ret fun a w ok => ends_k on (.inr rfl) ok (res_tmp Try.results8 rfl)
    | true =>
      refine step_pure rfl (pure_move rfl) ?_
      refine step_pure rfl (pure_move rfl) ?_
      refine step_pure rfl (pure_load_agg (i := 0) rfl rfl rfl rfl rfl (by show 3 ≤ 3; decide) rfl) ?_
      refine step_gives rfl fun16 rfl (fun w' _ kp => pcheck_any p _ w' ⟨_, rfl, hv.mono (Cz.now kp)⟩ hbig) ?_
      refine step_as rfl (pure_eql rfl rfl) (show _ = Value.bool (pOk p) from by rw [hpe]) ?_
      refine step_pure rfl (pure_pick_yes rfl rfl) ?_
      refine step_as rfl (pure_beql rfl rfl rfl rfl) (show _ = Value.bool true from by rw [Bool.and_true, beq_self_eq_true]) ?_
      refine step_pure rfl (pure_pick_yes rfl rfl) ?_
      refine step_pure rfl (pure_assign rfl) ?_
      refine Vc.step_end (fun a w ok => ?_)
      first | (refine WPs.run ?_ a w ok; clear ok w a) | skip
      exact s_ret fun a w ok => ends_k on (.inr rfl) ok (res_tmp Try.results8 rfl)
end Go.Proofs.Ytajcfafamdacdaa
