/- Whether a frame may be: Check and Eliciting, walked. -/
import Derived.Test.YtphpmallnlajjaaF5
namespace Go.Proofs.Ytphpmallnlajjaa
open Go.RowKit Go.Vc
set_option linter.unusedVariables false

structure Fr where
  kind : Int
  a : Int
  b : Int
  rs : List (Int × Int)
  data : List Int
/-- A frame's cells. -/
def FrC (C : Addr → Value → Prop) (f : Fr) (cs : List Value) : Prop :=
  ∃ rv dv, cs = [.int .i64 f.kind, .int .i64 f.a, .int .i64 f.b, rv, dv] ∧ SlC C 2 rv f.rs.length (rgCells f.rs) ∧ SlC C 1 dv f.data.length (row f.data)
theorem FrC.mono {C C' : Addr → Value → Prop} {f : Fr} {cs : List Value} (h : FrC C f cs) (hC : ∀ p x, C p x → C' p x) : FrC C' f cs := by
  obtain ⟨rv, dv, h1, h2, h3⟩ := h
  exact ⟨rv, dv, h1, h2.mono hC, h3.mono hC⟩
def wrong0 (f : Fr) : Bool := (!wantB f.kind && f.b != 0) || ((wantR f.kind != decide ((f.rs.length : Int) > 0)) || ((!wantD f.kind && decide ((f.data.length : Int) > 0)) || decide ((f.data.length : Int) > 2048)))
def wrong (f : Fr) : Bool :=
  if f.kind = 0 then wrong0 f else if f.kind = 1 then wrong0 f else if f.kind = 2 then wrong0 f || !rgOk f.rs else if f.kind = 3 then wrong0 f || (!inB f.b 0 M62 || decide (f.a ≥ f.b))
  else if f.kind = 4 then wrong0 f || ((f.data.length : Int) == 0) else if f.kind = 5 then wrong0 f || !inB f.b 1 64 else if f.kind = 6 then wrong0 f else if f.kind = 7 then wrong0 f else true
def least (f : Fr) : Int := if f.kind = 0 then 1 else if f.kind = 5 then 1 else 0
def most (f : Fr) : Int := if f.kind = 0 then 2048 else if f.kind = 1 then 0 else if f.kind = 4 then M62 - f.data.length else if f.kind = 5 then 64 else M62
def fok (f : Fr) : Bool := !(wrong f || !inB f.a (least f) (most f))

set_option maxHeartbeats 4000000 in
theorem check_any (f : Fr) (cs : List Value) (w : World) (hf : FrC (fun p x => w.cell? p = some x) f cs) (hbig : f.data.length ≤ 9223372036854775807) : Gives tb 15 [.agg cs.toArray] w (.int .i64 (if fok f = true then 0 else 20)) := by
  obtain ⟨rv, dv, rfl, hr0, hd⟩ := hf
  obtain ⟨rb, rc, rfl, -, -, -⟩ := id hr0
  obtain ⟨db, dc, rfl, -, -, -⟩ := hd
  have hrg := fun w' (kp : Keep w w' []) => ranges_any f.rs _ w' (slc_keep hr0 kp)
  clear hr0
  refine gives_of (fn := Try.f15) Try.func15 rfl Try.ntmps15 rfl ?_
  repeat refine c_seq ?_
  refine c_region ?_
  refine step_box_agg rfl rfl (fun b1 => ?_)
  refine step_pure rfl (pure_assign rfl) ?_
  refine step_nil ?_
  repeat refine c_seq ?_
  refine c_region ?_
  refine step_pure rfl (pure_fieldAddr rfl rfl rfl rfl rfl (by decide)) ?_
  first | refine step_pure rfl (pure_load (i := 0) rfl rfl rfl rfl rfl rfl) ?_ | refine step_pure rfl (pure_load (i := 1) rfl rfl rfl rfl rfl rfl) ?_ | refine step_pure rfl (pure_load (i := 2) rfl rfl rfl rfl rfl rfl) ?_ | refine step_pure rfl (pure_load (i := 3) rfl rfl rfl rfl rfl rfl) ?_ | refine step_pure rfl (pure_load (i := 4) rfl rfl rfl rfl rfl rfl) ?_ | refine step_pure rfl (pure_load (i := 5) rfl rfl rfl rfl rfl rfl) ?_
  refine step_gives rfl fun25 rfl (fun w _ _ => wants_any _ w) ?_
  refine step_pure rfl (pure_move rfl) ?_
  refine step_pure rfl (pure_extract rfl rfl) ?_
  refine step_pure rfl (pure_extract rfl rfl) ?_
  refine step_pure rfl (pure_extract rfl rfl) ?_
  refine step_pure rfl (pure_assign rfl) ?_
  refine step_pure rfl (pure_assign rfl) ?_
  refine step_pure rfl (pure_assign rfl) ?_
  refine step_nil ?_
  have h0 : wrong0 f = ((!wantB f.kind && f.b != 0) || ((wantR f.kind != decide ((f.rs.length : Int) > 0)) || ((!wantD f.kind && decide ((f.data.length : Int) > 0)) || decide ((f.data.length : Int) > 2048)))) := rfl
  repeat refine c_seq ?_
  refine c_meet [(1, .pointer (some ⟨b1, 0, none⟩)), (6, .bool (wrong0 f))] [⟨b1, [.int .i64 f.kind, .int .i64 f.a, .int .i64 f.b, .slice rb f.rs.length rc, .slice db f.data.length dc], 33⟩] ?_ ?_
  · rw [h0]
    generalize wantB f.kind = wb
    generalize wantR f.kind = wr
    generalize wantD f.kind = wd
    repeat refine c_seq ?_
    refine c_region ?_
    refine step_pure rfl (pure_move rfl) ?_
    refine step_pure rfl (pure_not rfl) ?_
    refine step_pure rfl (pure_move rfl) ?_
    refine step_split (t := 18) rfl (fun h18 => ?_) (fun h18 => ?_)
    · refine step_pure rfl (pure_fieldAddr rfl rfl rfl rfl rfl (by decide)) ?_
      first | refine step_pure rfl (pure_load (i := 0) rfl rfl rfl rfl rfl rfl) ?_ | refine step_pure rfl (pure_load (i := 1) rfl rfl rfl rfl rfl rfl) ?_ | refine step_pure rfl (pure_load (i := 2) rfl rfl rfl rfl rfl rfl) ?_ | refine step_pure rfl (pure_load (i := 3) rfl rfl rfl rfl rfl rfl) ?_ | refine step_pure rfl (pure_load (i := 4) rfl rfl rfl rfl rfl rfl) ?_ | refine step_pure rfl (pure_load (i := 5) rfl rfl rfl rfl rfl rfl) ?_
      refine step_pure rfl (pure_neq rfl rfl) ?_
      refine step_pure rfl (pure_pick_yes rfl rfl) ?_
      refine step_pure rfl (pure_move rfl) ?_
      refine step_split (t := 23) rfl (fun h23 => ?_) (fun h23 => ?_)
      · refine step_pass rfl rfl rfl ?_
        refine step_pass rfl rfl rfl ?_
        refine step_pass rfl rfl rfl ?_
        refine step_pass rfl rfl rfl ?_
        refine step_pass rfl rfl rfl ?_
        refine step_pass rfl rfl rfl ?_
        refine step_pure rfl (pure_pick_yes rfl rfl) ?_
        refine step_pure rfl (pure_move rfl) ?_
        refine step_pass rfl rfl rfl ?_
        refine step_pass rfl rfl rfl ?_
        refine step_pass rfl rfl rfl ?_
        refine step_pass rfl rfl rfl ?_
        refine step_pass rfl rfl rfl ?_
        refine step_pass rfl rfl rfl ?_
        refine step_pass rfl rfl rfl ?_
        refine step_pass rfl rfl rfl ?_
        refine step_pure rfl (pure_pick_yes rfl rfl) ?_
        refine step_pure rfl (pure_move rfl) ?_
        refine step_pass rfl rfl rfl ?_
        refine step_pass rfl rfl rfl ?_
        refine step_pass rfl rfl rfl ?_
        refine step_pass rfl rfl rfl ?_
        refine step_pure rfl (pure_pick_yes rfl rfl) ?_
        refine step_pure rfl (pure_assign rfl) ?_
        refine step_nil ?_
        refine less_of ⟨rfl, ?_, trivial⟩ rfl
        refine congrArg some (congrArg Value.bool ?_)
        clear hrg h0 hbig
        simp_all
      · refine step_pure rfl (pure_move rfl) ?_
        refine step_pure rfl (pure_fieldAddr rfl rfl rfl rfl rfl (by decide)) ?_
        first | refine step_pure rfl (pure_load (i := 0) rfl rfl rfl rfl rfl rfl) ?_ | refine step_pure rfl (pure_load (i := 1) rfl rfl rfl rfl rfl rfl) ?_ | refine step_pure rfl (pure_load (i := 2) rfl rfl rfl rfl rfl rfl) ?_ | refine step_pure rfl (pure_load (i := 3) rfl rfl rfl rfl rfl rfl) ?_ | refine step_pure rfl (pure_load (i := 4) rfl rfl rfl rfl rfl rfl) ?_ | refine step_pure rfl (pure_load (i := 5) rfl rfl rfl rfl rfl rfl) ?_
        refine step_pure rfl (pure_len_slice rfl rfl rfl) ?_
        refine step_pure rfl (pure_gtr rfl rfl) ?_
        refine step_pure rfl (pure_bneq rfl rfl rfl rfl) ?_
        refine step_pure rfl (pure_pick_no rfl rfl) ?_
        refine step_pure rfl (pure_move rfl) ?_
        refine step_split (t := 31) rfl (fun h31 => ?_) (fun h31 => ?_)
        · refine step_pass rfl rfl rfl ?_
          refine step_pass rfl rfl rfl ?_
          refine step_pass rfl rfl rfl ?_
          refine step_pass rfl rfl rfl ?_
          refine step_pass rfl rfl rfl ?_
          refine step_pass rfl rfl rfl ?_
          refine step_pass rfl rfl rfl ?_
          refine step_pass rfl rfl rfl ?_
          refine step_pure rfl (pure_pick_yes rfl rfl) ?_
          refine step_pure rfl (pure_move rfl) ?_
          refine step_pass rfl rfl rfl ?_
          refine step_pass rfl rfl rfl ?_
          refine step_pass rfl rfl rfl ?_
          refine step_pass rfl rfl rfl ?_
          refine step_pure rfl (pure_pick_yes rfl rfl) ?_
          refine step_pure rfl (pure_assign rfl) ?_
          refine step_nil ?_
          refine less_of ⟨rfl, ?_, trivial⟩ rfl
          refine congrArg some (congrArg Value.bool ?_)
          clear hrg h0 hbig
          simp_all
        · refine step_pure rfl (pure_move rfl) ?_
          refine step_pure rfl (pure_not rfl) ?_
          refine step_pure rfl (pure_move rfl) ?_
          refine step_split (t := 34) rfl (fun h34 => ?_) (fun h34 => ?_)
          · refine step_pure rfl (pure_fieldAddr rfl rfl rfl rfl rfl (by decide)) ?_
            first | refine step_pure rfl (pure_load (i := 0) rfl rfl rfl rfl rfl rfl) ?_ | refine step_pure rfl (pure_load (i := 1) rfl rfl rfl rfl rfl rfl) ?_ | refine step_pure rfl (pure_load (i := 2) rfl rfl rfl rfl rfl rfl) ?_ | refine step_pure rfl (pure_load (i := 3) rfl rfl rfl rfl rfl rfl) ?_ | refine step_pure rfl (pure_load (i := 4) rfl rfl rfl rfl rfl rfl) ?_ | refine step_pure rfl (pure_load (i := 5) rfl rfl rfl rfl rfl rfl) ?_
            refine step_pure rfl (pure_len_slice rfl rfl rfl) ?_
            refine step_pure rfl (pure_gtr rfl rfl) ?_
            refine step_pure rfl (pure_pick_yes rfl rfl) ?_
            refine step_pure rfl (pure_pick_no rfl rfl) ?_
            refine step_pure rfl (pure_move rfl) ?_
            refine step_split (t := 41) rfl (fun h41 => ?_) (fun h41 => ?_)
            · refine step_pass rfl rfl rfl ?_
              refine step_pass rfl rfl rfl ?_
              refine step_pass rfl rfl rfl ?_
              refine step_pass rfl rfl rfl ?_
              refine step_pure rfl (pure_pick_yes rfl rfl) ?_
              refine step_pure rfl (pure_assign rfl) ?_
              refine step_nil ?_
              refine less_of ⟨rfl, ?_, trivial⟩ rfl
              refine congrArg some (congrArg Value.bool ?_)
              clear hrg h0 hbig
              simp_all
            · refine step_pure rfl (pure_fieldAddr rfl rfl rfl rfl rfl (by decide)) ?_
              first | refine step_pure rfl (pure_load (i := 0) rfl rfl rfl rfl rfl rfl) ?_ | refine step_pure rfl (pure_load (i := 1) rfl rfl rfl rfl rfl rfl) ?_ | refine step_pure rfl (pure_load (i := 2) rfl rfl rfl rfl rfl rfl) ?_ | refine step_pure rfl (pure_load (i := 3) rfl rfl rfl rfl rfl rfl) ?_ | refine step_pure rfl (pure_load (i := 4) rfl rfl rfl rfl rfl rfl) ?_ | refine step_pure rfl (pure_load (i := 5) rfl rfl rfl rfl rfl rfl) ?_
              refine step_pure rfl (pure_len_slice rfl rfl rfl) ?_
              refine step_pure rfl (pure_gtr rfl rfl) ?_
              refine step_pure rfl (pure_pick_no rfl rfl) ?_
              refine step_pure rfl (pure_assign rfl) ?_
              refine step_nil ?_
              refine less_of ⟨rfl, ?_, trivial⟩ rfl
              refine congrArg some (congrArg Value.bool ?_)
              clear hrg h0 hbig
              simp_all
          · refine step_pass rfl rfl rfl ?_
            refine step_pass rfl rfl rfl ?_
            refine step_pass rfl rfl rfl ?_
            refine step_pass rfl rfl rfl ?_
            refine step_pure rfl (pure_pick_no rfl rfl) ?_
            refine step_pure rfl (pure_pick_no rfl rfl) ?_
            refine step_pure rfl (pure_move rfl) ?_
            refine step_pure rfl (pure_fieldAddr rfl rfl rfl rfl rfl (by decide)) ?_
            first | refine step_pure rfl (pure_load (i := 0) rfl rfl rfl rfl rfl rfl) ?_ | refine step_pure rfl (pure_load (i := 1) rfl rfl rfl rfl rfl rfl) ?_ | refine step_pure rfl (pure_load (i := 2) rfl rfl rfl rfl rfl rfl) ?_ | refine step_pure rfl (pure_load (i := 3) rfl rfl rfl rfl rfl rfl) ?_ | refine step_pure rfl (pure_load (i := 4) rfl rfl rfl rfl rfl rfl) ?_ | refine step_pure rfl (pure_load (i := 5) rfl rfl rfl rfl rfl rfl) ?_
            refine step_pure rfl (pure_len_slice rfl rfl rfl) ?_
            refine step_pure rfl (pure_gtr rfl rfl) ?_
            refine step_pure rfl (pure_pick_no rfl rfl) ?_
            refine step_pure rfl (pure_assign rfl) ?_
            refine step_nil ?_
            refine less_of ⟨rfl, ?_, trivial⟩ rfl
            refine congrArg some (congrArg Value.bool ?_)
            clear hrg h0 hbig
            simp_all
    · refine step_pass rfl rfl rfl ?_
      refine step_pass rfl rfl rfl ?_
      refine step_pass rfl rfl rfl ?_
      refine step_pure rfl (pure_pick_no rfl rfl) ?_
      refine step_pure rfl (pure_move rfl) ?_
      refine step_pure rfl (pure_move rfl) ?_
      refine step_pure rfl (pure_fieldAddr rfl rfl rfl rfl rfl (by decide)) ?_
      first | refine step_pure rfl (pure_load (i := 0) rfl rfl rfl rfl rfl rfl) ?_ | refine step_pure rfl (pure_load (i := 1) rfl rfl rfl rfl rfl rfl) ?_ | refine step_pure rfl (pure_load (i := 2) rfl rfl rfl rfl rfl rfl) ?_ | refine step_pure rfl (pure_load (i := 3) rfl rfl rfl rfl rfl rfl) ?_ | refine step_pure rfl (pure_load (i := 4) rfl rfl rfl rfl rfl rfl) ?_ | refine step_pure rfl (pure_load (i := 5) rfl rfl rfl rfl rfl rfl) ?_
      refine step_pure rfl (pure_len_slice rfl rfl rfl) ?_
      refine step_pure rfl (pure_gtr rfl rfl) ?_
      refine step_pure rfl (pure_bneq rfl rfl rfl rfl) ?_
      refine step_pure rfl (pure_pick_no rfl rfl) ?_
      refine step_pure rfl (pure_move rfl) ?_
      refine step_split (t := 31) rfl (fun h31 => ?_) (fun h31 => ?_)
      · refine step_pass rfl rfl rfl ?_
        refine step_pass rfl rfl rfl ?_
        refine step_pass rfl rfl rfl ?_
        refine step_pass rfl rfl rfl ?_
        refine step_pass rfl rfl rfl ?_
        refine step_pass rfl rfl rfl ?_
        refine step_pass rfl rfl rfl ?_
        refine step_pass rfl rfl rfl ?_
        refine step_pure rfl (pure_pick_yes rfl rfl) ?_
        refine step_pure rfl (pure_move rfl) ?_
        refine step_pass rfl rfl rfl ?_
        refine step_pass rfl rfl rfl ?_
        refine step_pass rfl rfl rfl ?_
        refine step_pass rfl rfl rfl ?_
        refine step_pure rfl (pure_pick_yes rfl rfl) ?_
        refine step_pure rfl (pure_assign rfl) ?_
        refine step_nil ?_
        refine less_of ⟨rfl, ?_, trivial⟩ rfl
        refine congrArg some (congrArg Value.bool ?_)
        clear hrg h0 hbig
        simp_all
      · refine step_pure rfl (pure_move rfl) ?_
        refine step_pure rfl (pure_not rfl) ?_
        refine step_pure rfl (pure_move rfl) ?_
        refine step_split (t := 34) rfl (fun h34 => ?_) (fun h34 => ?_)
        · refine step_pure rfl (pure_fieldAddr rfl rfl rfl rfl rfl (by decide)) ?_
          first | refine step_pure rfl (pure_load (i := 0) rfl rfl rfl rfl rfl rfl) ?_ | refine step_pure rfl (pure_load (i := 1) rfl rfl rfl rfl rfl rfl) ?_ | refine step_pure rfl (pure_load (i := 2) rfl rfl rfl rfl rfl rfl) ?_ | refine step_pure rfl (pure_load (i := 3) rfl rfl rfl rfl rfl rfl) ?_ | refine step_pure rfl (pure_load (i := 4) rfl rfl rfl rfl rfl rfl) ?_ | refine step_pure rfl (pure_load (i := 5) rfl rfl rfl rfl rfl rfl) ?_
          refine step_pure rfl (pure_len_slice rfl rfl rfl) ?_
          refine step_pure rfl (pure_gtr rfl rfl) ?_
          refine step_pure rfl (pure_pick_yes rfl rfl) ?_
          refine step_pure rfl (pure_pick_no rfl rfl) ?_
          refine step_pure rfl (pure_move rfl) ?_
          refine step_split (t := 41) rfl (fun h41 => ?_) (fun h41 => ?_)
          · refine step_pass rfl rfl rfl ?_
            refine step_pass rfl rfl rfl ?_
            refine step_pass rfl rfl rfl ?_
            refine step_pass rfl rfl rfl ?_
            refine step_pure rfl (pure_pick_yes rfl rfl) ?_
            refine step_pure rfl (pure_assign rfl) ?_
            refine step_nil ?_
            refine less_of ⟨rfl, ?_, trivial⟩ rfl
            refine congrArg some (congrArg Value.bool ?_)
            clear hrg h0 hbig
            simp_all
          · refine step_pure rfl (pure_fieldAddr rfl rfl rfl rfl rfl (by decide)) ?_
            first | refine step_pure rfl (pure_load (i := 0) rfl rfl rfl rfl rfl rfl) ?_ | refine step_pure rfl (pure_load (i := 1) rfl rfl rfl rfl rfl rfl) ?_ | refine step_pure rfl (pure_load (i := 2) rfl rfl rfl rfl rfl rfl) ?_ | refine step_pure rfl (pure_load (i := 3) rfl rfl rfl rfl rfl rfl) ?_ | refine step_pure rfl (pure_load (i := 4) rfl rfl rfl rfl rfl rfl) ?_ | refine step_pure rfl (pure_load (i := 5) rfl rfl rfl rfl rfl rfl) ?_
            refine step_pure rfl (pure_len_slice rfl rfl rfl) ?_
            refine step_pure rfl (pure_gtr rfl rfl) ?_
            refine step_pure rfl (pure_pick_no rfl rfl) ?_
            refine step_pure rfl (pure_assign rfl) ?_
            refine step_nil ?_
            refine less_of ⟨rfl, ?_, trivial⟩ rfl
            refine congrArg some (congrArg Value.bool ?_)
            clear hrg h0 hbig
            simp_all
        · refine step_pass rfl rfl rfl ?_
          refine step_pass rfl rfl rfl ?_
          refine step_pass rfl rfl rfl ?_
          refine step_pass rfl rfl rfl ?_
          refine step_pure rfl (pure_pick_no rfl rfl) ?_
          refine step_pure rfl (pure_pick_no rfl rfl) ?_
          refine step_pure rfl (pure_move rfl) ?_
          refine step_pure rfl (pure_fieldAddr rfl rfl rfl rfl rfl (by decide)) ?_
          first | refine step_pure rfl (pure_load (i := 0) rfl rfl rfl rfl rfl rfl) ?_ | refine step_pure rfl (pure_load (i := 1) rfl rfl rfl rfl rfl rfl) ?_ | refine step_pure rfl (pure_load (i := 2) rfl rfl rfl rfl rfl rfl) ?_ | refine step_pure rfl (pure_load (i := 3) rfl rfl rfl rfl rfl rfl) ?_ | refine step_pure rfl (pure_load (i := 4) rfl rfl rfl rfl rfl rfl) ?_ | refine step_pure rfl (pure_load (i := 5) rfl rfl rfl rfl rfl rfl) ?_
          refine step_pure rfl (pure_len_slice rfl rfl rfl) ?_
          refine step_pure rfl (pure_gtr rfl rfl) ?_
          refine step_pure rfl (pure_pick_no rfl rfl) ?_
          refine step_pure rfl (pure_assign rfl) ?_
          refine step_nil ?_
          refine less_of ⟨rfl, ?_, trivial⟩ rfl
          refine congrArg some (congrArg Value.bool ?_)
          clear hrg h0 hbig
          simp_all
  clear h0
  have hw : wrong f = if f.kind = 0 then wrong0 f else if f.kind = 1 then wrong0 f else if f.kind = 2 then wrong0 f || !rgOk f.rs else if f.kind = 3 then wrong0 f || (!inB f.b 0 M62 || decide (f.a ≥ f.b))
    else if f.kind = 4 then wrong0 f || ((f.data.length : Int) == 0) else if f.kind = 5 then wrong0 f || !inB f.b 1 64 else if f.kind = 6 then wrong0 f else if f.kind = 7 then wrong0 f else true := rfl
  have hle : least f = if f.kind = 0 then 1 else if f.kind = 5 then 1 else 0 := rfl
  have hmo : most f = if f.kind = 0 then 2048 else if f.kind = 1 then 0 else if f.kind = 4 then M62 - f.data.length else if f.kind = 5 then 64 else M62 := rfl
  generalize wrong0 f = W0 at *
  repeat refine c_seq ?_
  refine c_region ?_
  refine step_pure rfl (pure_assign rfl) ?_
  refine step_pure rfl (pure_assign rfl) ?_
  refine step_nil ?_
  repeat refine c_seq ?_
  refine c_region ?_
  refine step_pure rfl (pure_fieldAddr rfl rfl rfl rfl rfl (by decide)) ?_
  first | refine step_pure rfl (pure_load (i := 0) rfl rfl rfl rfl rfl rfl) ?_ | refine step_pure rfl (pure_load (i := 1) rfl rfl rfl rfl rfl rfl) ?_ | refine step_pure rfl (pure_load (i := 2) rfl rfl rfl rfl rfl rfl) ?_ | refine step_pure rfl (pure_load (i := 3) rfl rfl rfl rfl rfl rfl) ?_ | refine step_pure rfl (pure_load (i := 4) rfl rfl rfl rfl rfl rfl) ?_ | refine step_pure rfl (pure_load (i := 5) rfl rfl rfl rfl rfl rfl) ?_
  refine step_nil ?_
  repeat refine c_seq ?_
  refine c_meet [(1, .pointer (some ⟨b1, 0, none⟩)), (6, .bool (wrong f)), (7, .int .i64 (least f)), (8, .int .i64 (most f))] [⟨b1, [.int .i64 f.kind, .int .i64 f.a, .int .i64 f.b, .slice rb f.rs.length rc, .slice db f.data.length dc], 33⟩] ?_ ?_
  · rw [hw, hle, hmo]
    clear hw hle hmo
    repeat refine c_seq ?_
    refine c_block ?_
    repeat refine c_seq ?_
    refine c_region ?_
    refine step_pure rfl (pure_eql rfl rfl) ?_
    refine step_pure rfl (pure_assign rfl) ?_
    refine step_nil ?_
    repeat refine c_seq ?_
    refine c_cond rfl (fun h => ?_) (fun h => ?_)
    · rw [if_pos (eq_of_beq h), if_pos (eq_of_beq h), if_pos (eq_of_beq h)]
      repeat refine c_seq ?_
      refine c_region ?_
      refine step_pure rfl (pure_assign rfl) ?_
      refine step_pure rfl (pure_assign rfl) ?_
      refine step_nil ?_
      exact less_of ⟨rfl, rfl, rfl, rfl, trivial⟩ rfl
    · have h := ne_of_beq_false h
      rw [if_neg h, if_neg h, if_neg h]
      clear h
      repeat refine c_seq ?_
      refine c_region ?_
      refine step_pure rfl (pure_eql rfl rfl) ?_
      refine step_pure rfl (pure_assign rfl) ?_
      refine step_nil ?_
      repeat refine c_seq ?_
      refine c_cond rfl (fun h => ?_) (fun h => ?_)
      · have h := eq_of_beq h
        rw [if_pos h, if_pos h, if_neg (by omega)]
        repeat refine c_seq ?_
        refine c_region ?_
        refine step_pure rfl (pure_assign rfl) ?_
        refine step_nil ?_
        exact less_of ⟨rfl, rfl, rfl, rfl, trivial⟩ rfl
      · have h := ne_of_beq_false h
        rw [if_neg h, if_neg h]
        clear h
        repeat refine c_seq ?_
        refine c_region ?_
        refine step_pure rfl (pure_eql rfl rfl) ?_
        refine step_pure rfl (pure_assign rfl) ?_
        refine step_nil ?_
        repeat refine c_seq ?_
        refine c_cond rfl (fun h => ?_) (fun h => ?_)
        · have h := eq_of_beq h
          rw [if_pos h, if_neg (by omega), if_neg (by omega), if_neg (by omega)]
          clear h
          repeat refine c_seq ?_
          refine c_region ?_
          refine step_pure rfl (pure_move rfl) ?_
          refine step_pure rfl (pure_move rfl) ?_
          refine step_split (t := 56) rfl (fun h56 => ?_) (fun h56 => ?_)
          · refine step_pass rfl rfl rfl ?_
            refine step_pass rfl rfl rfl ?_
            refine step_pass rfl rfl rfl ?_
            refine step_pass rfl rfl rfl ?_
            refine step_pure rfl (pure_pick_yes rfl rfl) ?_
            refine step_pure rfl (pure_assign rfl) ?_
            refine step_nil ?_
            exact less_of ⟨rfl, by refine congrArg some (congrArg Value.bool ?_); clear hrg; simp_all, rfl, rfl, trivial⟩ rfl
          · refine step_pure rfl (pure_fieldAddr rfl rfl rfl rfl rfl (by decide)) ?_
            first | refine step_pure rfl (pure_load (i := 0) rfl rfl rfl rfl rfl rfl) ?_ | refine step_pure rfl (pure_load (i := 1) rfl rfl rfl rfl rfl rfl) ?_ | refine step_pure rfl (pure_load (i := 2) rfl rfl rfl rfl rfl rfl) ?_ | refine step_pure rfl (pure_load (i := 3) rfl rfl rfl rfl rfl rfl) ?_ | refine step_pure rfl (pure_load (i := 4) rfl rfl rfl rfl rfl rfl) ?_ | refine step_pure rfl (pure_load (i := 5) rfl rfl rfl rfl rfl rfl) ?_
            refine step_gives rfl fun26 rfl (fun w' _ kp => hrg w' kp) ?_
            refine step_pure rfl (pure_not rfl) ?_
            refine step_pure rfl (pure_pick_no rfl rfl) ?_
            refine step_pure rfl (pure_assign rfl) ?_
            refine step_nil ?_
            exact less_of ⟨rfl, by refine congrArg some (congrArg Value.bool ?_); clear hrg; simp_all, rfl, rfl, trivial⟩ rfl
        · have h := ne_of_beq_false h
          rw [if_neg h]
          clear h
          repeat refine c_seq ?_
          refine c_region ?_
          refine step_pure rfl (pure_eql rfl rfl) ?_
          refine step_pure rfl (pure_assign rfl) ?_
          refine step_nil ?_
          repeat refine c_seq ?_
          refine c_cond rfl (fun h => ?_) (fun h => ?_)
          · have h := eq_of_beq h
            rw [if_pos h, if_neg (by omega), if_neg (by omega), if_neg (by omega)]
            clear h
            repeat refine c_seq ?_
            refine c_region ?_
            refine step_pure rfl (pure_move rfl) ?_
            refine step_pure rfl (pure_move rfl) ?_
            refine step_split (t := 65) rfl (fun h65 => ?_) (fun h65 => ?_)
            · refine step_pass rfl rfl rfl ?_
              refine step_pass rfl rfl rfl ?_
              refine step_pass rfl rfl rfl ?_
              refine step_pass rfl rfl rfl ?_
              refine step_pure rfl (pure_pick_yes rfl rfl) ?_
              refine step_pure rfl (pure_move rfl) ?_
              refine step_pass rfl rfl rfl ?_
              refine step_pass rfl rfl rfl ?_
              refine step_pass rfl rfl rfl ?_
              refine step_pass rfl rfl rfl ?_
              refine step_pass rfl rfl rfl ?_
              refine step_pure rfl (pure_pick_yes rfl rfl) ?_
              refine step_pure rfl (pure_assign rfl) ?_
              refine step_nil ?_
              refine less_of ⟨rfl, ?_, rfl, rfl, trivial⟩ rfl
              refine congrArg some (congrArg Value.bool ?_)
              clear hrg hbig
              unfold M62
              simp_all
            · refine step_pure rfl (pure_fieldAddr rfl rfl rfl rfl rfl (by decide)) ?_
              first | refine step_pure rfl (pure_load (i := 0) rfl rfl rfl rfl rfl rfl) ?_ | refine step_pure rfl (pure_load (i := 1) rfl rfl rfl rfl rfl rfl) ?_ | refine step_pure rfl (pure_load (i := 2) rfl rfl rfl rfl rfl rfl) ?_ | refine step_pure rfl (pure_load (i := 3) rfl rfl rfl rfl rfl rfl) ?_ | refine step_pure rfl (pure_load (i := 4) rfl rfl rfl rfl rfl rfl) ?_ | refine step_pure rfl (pure_load (i := 5) rfl rfl rfl rfl rfl rfl) ?_
              refine step_gives rfl fun27 rfl (fun w _ _ => within_any _ _ _ w) ?_
              refine step_pure rfl (pure_not rfl) ?_
              refine step_pure rfl (pure_pick_no rfl rfl) ?_
              refine step_pure rfl (pure_move rfl) ?_
              refine step_split (t := 71) rfl (fun h71 => ?_) (fun h71 => ?_)
              · refine step_pass rfl rfl rfl ?_
                refine step_pass rfl rfl rfl ?_
                refine step_pass rfl rfl rfl ?_
                refine step_pass rfl rfl rfl ?_
                refine step_pass rfl rfl rfl ?_
                refine step_pure rfl (pure_pick_yes rfl rfl) ?_
                refine step_pure rfl (pure_assign rfl) ?_
                refine step_nil ?_
                refine less_of ⟨rfl, ?_, rfl, rfl, trivial⟩ rfl
                refine congrArg some (congrArg Value.bool ?_)
                clear hrg hbig
                unfold M62
                simp_all
              · refine step_pure rfl (pure_fieldAddr rfl rfl rfl rfl rfl (by decide)) ?_
                first | refine step_pure rfl (pure_load (i := 0) rfl rfl rfl rfl rfl rfl) ?_ | refine step_pure rfl (pure_load (i := 1) rfl rfl rfl rfl rfl rfl) ?_ | refine step_pure rfl (pure_load (i := 2) rfl rfl rfl rfl rfl rfl) ?_ | refine step_pure rfl (pure_load (i := 3) rfl rfl rfl rfl rfl rfl) ?_ | refine step_pure rfl (pure_load (i := 4) rfl rfl rfl rfl rfl rfl) ?_ | refine step_pure rfl (pure_load (i := 5) rfl rfl rfl rfl rfl rfl) ?_
                refine step_pure rfl (pure_fieldAddr rfl rfl rfl rfl rfl (by decide)) ?_
                first | refine step_pure rfl (pure_load (i := 0) rfl rfl rfl rfl rfl rfl) ?_ | refine step_pure rfl (pure_load (i := 1) rfl rfl rfl rfl rfl rfl) ?_ | refine step_pure rfl (pure_load (i := 2) rfl rfl rfl rfl rfl rfl) ?_ | refine step_pure rfl (pure_load (i := 3) rfl rfl rfl rfl rfl rfl) ?_ | refine step_pure rfl (pure_load (i := 4) rfl rfl rfl rfl rfl rfl) ?_ | refine step_pure rfl (pure_load (i := 5) rfl rfl rfl rfl rfl rfl) ?_
                refine step_pure rfl (pure_geq rfl rfl) ?_
                refine step_pure rfl (pure_pick_no rfl rfl) ?_
                refine step_pure rfl (pure_assign rfl) ?_
                refine step_nil ?_
                refine less_of ⟨rfl, ?_, rfl, rfl, trivial⟩ rfl
                refine congrArg some (congrArg Value.bool ?_)
                clear hrg hbig
                unfold M62
                simp_all
          · have h := ne_of_beq_false h
            rw [if_neg h]
            clear h
            repeat refine c_seq ?_
            refine c_region ?_
            refine step_pure rfl (pure_eql rfl rfl) ?_
            refine step_pure rfl (pure_assign rfl) ?_
            refine step_nil ?_
            repeat refine c_seq ?_
            refine c_cond rfl (fun h => ?_) (fun h => ?_)
            · have h := eq_of_beq h
              rw [if_pos h, if_neg (by omega), if_pos h]
              clear h
              repeat refine c_seq ?_
              repeat refine c_seq ?_
              refine c_meet [(1, .pointer (some ⟨b1, 0, none⟩)), (6, .bool (W0 || ((f.data.length : Int) == 0))), (7, .int .i64 0), (8, .int .i64 4611686018427387903)] [⟨b1, [.int .i64 f.kind, .int .i64 f.a, .int .i64 f.b, .slice rb f.rs.length rc, .slice db f.data.length dc], 33⟩] ?_ ?_
              · repeat refine c_seq ?_
                refine c_region ?_
                refine step_pure rfl (pure_move rfl) ?_
                refine step_pure rfl (pure_move rfl) ?_
                refine step_split (t := 81) rfl (fun h81 => ?_) (fun h81 => ?_)
                · refine step_pass rfl rfl rfl ?_
                  refine step_pass rfl rfl rfl ?_
                  refine step_pass rfl rfl rfl ?_
                  refine step_pass rfl rfl rfl ?_
                  refine step_pure rfl (pure_pick_yes rfl rfl) ?_
                  refine step_pure rfl (pure_assign rfl) ?_
                  refine step_nil ?_
                  exact less_of ⟨rfl, by refine congrArg some (congrArg Value.bool ?_); clear hrg; simp_all, rfl, rfl, trivial⟩ rfl
                · refine step_pure rfl (pure_fieldAddr rfl rfl rfl rfl rfl (by decide)) ?_
                  first | refine step_pure rfl (pure_load (i := 0) rfl rfl rfl rfl rfl rfl) ?_ | refine step_pure rfl (pure_load (i := 1) rfl rfl rfl rfl rfl rfl) ?_ | refine step_pure rfl (pure_load (i := 2) rfl rfl rfl rfl rfl rfl) ?_ | refine step_pure rfl (pure_load (i := 3) rfl rfl rfl rfl rfl rfl) ?_ | refine step_pure rfl (pure_load (i := 4) rfl rfl rfl rfl rfl rfl) ?_ | refine step_pure rfl (pure_load (i := 5) rfl rfl rfl rfl rfl rfl) ?_
                  refine step_pure rfl (pure_len_slice rfl rfl rfl) ?_
                  refine step_pure rfl (pure_eql rfl rfl) ?_
                  refine step_pure rfl (pure_pick_no rfl rfl) ?_
                  refine step_pure rfl (pure_assign rfl) ?_
                  refine step_nil ?_
                  exact less_of ⟨rfl, by refine congrArg some (congrArg Value.bool ?_); clear hrg; simp_all, rfl, rfl, trivial⟩ rfl
              repeat refine c_seq ?_
              refine c_region ?_
              refine step_pure rfl (pure_move rfl) ?_
              refine step_pure rfl (pure_fieldAddr rfl rfl rfl rfl rfl (by decide)) ?_
              first | refine step_pure rfl (pure_load (i := 0) rfl rfl rfl rfl rfl rfl) ?_ | refine step_pure rfl (pure_load (i := 1) rfl rfl rfl rfl rfl rfl) ?_ | refine step_pure rfl (pure_load (i := 2) rfl rfl rfl rfl rfl rfl) ?_ | refine step_pure rfl (pure_load (i := 3) rfl rfl rfl rfl rfl rfl) ?_ | refine step_pure rfl (pure_load (i := 4) rfl rfl rfl rfl rfl rfl) ?_ | refine step_pure rfl (pure_load (i := 5) rfl rfl rfl rfl rfl rfl) ?_
              refine step_pure rfl (pure_len_slice rfl rfl rfl) ?_
              first | refine step_pure rfl (pure_sub64 rfl rfl (by omega) (by omega)) ?_ | refine step_pure rfl (pure_sub rfl rfl) ?_
              refine step_pure rfl (pure_assign rfl) ?_
              refine step_nil ?_
              exact less_of ⟨rfl, rfl, rfl, rfl, trivial⟩ rfl
            · have h4 := ne_of_beq_false h
              rw [if_neg h4, if_neg h4]
              repeat refine c_seq ?_
              refine c_region ?_
              refine step_pure rfl (pure_eql rfl rfl) ?_
              refine step_pure rfl (pure_assign rfl) ?_
              refine step_nil ?_
              repeat refine c_seq ?_
              refine c_cond rfl (fun h => ?_) (fun h => ?_)
              · have h := eq_of_beq h
                rw [if_pos h, if_pos h, if_pos h]
                clear h h4
                repeat refine c_seq ?_
                refine c_region ?_
                refine step_pure rfl (pure_assign rfl) ?_
                refine step_pure rfl (pure_assign rfl) ?_
                refine step_nil ?_
                repeat refine c_seq ?_
                refine c_region ?_
                refine step_pure rfl (pure_move rfl) ?_
                refine step_pure rfl (pure_move rfl) ?_
                refine step_split (t := 95) rfl (fun h95 => ?_) (fun h95 => ?_)
                · refine step_pass rfl rfl rfl ?_
                  refine step_pass rfl rfl rfl ?_
                  refine step_pass rfl rfl rfl ?_
                  refine step_pass rfl rfl rfl ?_
                  refine step_pass rfl rfl rfl ?_
                  refine step_pass rfl rfl rfl ?_
                  refine step_pure rfl (pure_pick_yes rfl rfl) ?_
                  refine step_pure rfl (pure_assign rfl) ?_
                  refine step_nil ?_
                  exact less_of ⟨rfl, by refine congrArg some (congrArg Value.bool ?_); clear hrg; simp_all, rfl, rfl, trivial⟩ rfl
                · refine step_pure rfl (pure_fieldAddr rfl rfl rfl rfl rfl (by decide)) ?_
                  first | refine step_pure rfl (pure_load (i := 0) rfl rfl rfl rfl rfl rfl) ?_ | refine step_pure rfl (pure_load (i := 1) rfl rfl rfl rfl rfl rfl) ?_ | refine step_pure rfl (pure_load (i := 2) rfl rfl rfl rfl rfl rfl) ?_ | refine step_pure rfl (pure_load (i := 3) rfl rfl rfl rfl rfl rfl) ?_ | refine step_pure rfl (pure_load (i := 4) rfl rfl rfl rfl rfl rfl) ?_ | refine step_pure rfl (pure_load (i := 5) rfl rfl rfl rfl rfl rfl) ?_
                  refine step_pure rfl (pure_move rfl) ?_
                  refine step_pure rfl (pure_move rfl) ?_
                  refine step_gives rfl fun27 rfl (fun w _ _ => within_any _ _ _ w) ?_
                  refine step_pure rfl (pure_not rfl) ?_
                  refine step_pure rfl (pure_pick_no rfl rfl) ?_
                  refine step_pure rfl (pure_assign rfl) ?_
                  refine step_nil ?_
                  exact less_of ⟨rfl, by refine congrArg some (congrArg Value.bool ?_); clear hrg; simp_all, rfl, rfl, trivial⟩ rfl
              · have h5 := ne_of_beq_false h
                rw [if_neg h5, if_neg h5, if_neg h5]
                clear h h4 h5
                repeat refine c_seq ?_
                refine c_region ?_
                refine step_pure rfl (pure_eql rfl rfl) ?_
                refine step_pure rfl (pure_assign rfl) ?_
                refine step_nil ?_
                repeat refine c_seq ?_
                repeat refine c_seq ?_
                refine c_meet [(1, .pointer (some ⟨b1, 0, none⟩)), (6, .bool W0), (7, .int .i64 0), (8, .int .i64 4611686018427387903), (103, .bool (f.kind == 6 || f.kind == 7))] [⟨b1, [.int .i64 f.kind, .int .i64 f.a, .int .i64 f.b, .slice rb f.rs.length rc, .slice db f.data.length dc], 33⟩] ?_ ?_
                · repeat refine c_seq ?_
                  refine c_cond rfl (fun h => ?_) (fun h => ?_)
                  · exact c_skip (less_of ⟨rfl, rfl, rfl, rfl, by rw [h]; rfl, trivial⟩ rfl)
                  · repeat refine c_seq ?_
                    refine c_region ?_
                    refine step_pure rfl (pure_eql rfl rfl) ?_
                    refine step_pure rfl (pure_assign rfl) ?_
                    refine step_nil ?_
                    exact less_of ⟨rfl, rfl, rfl, rfl, by rw [h]; rfl, trivial⟩ rfl
                repeat refine c_seq ?_
                refine c_cond rfl (fun h => ?_) (fun h => ?_)
                · refine c_skip (less_of ⟨rfl, ?_, rfl, rfl, trivial⟩ rfl)
                  refine congrArg some (congrArg Value.bool ?_)
                  by_cases h6 : f.kind = 6
                  · rw [if_pos h6]
                  · rw [if_neg h6, if_pos (by simpa [h6] using h)]
                · have h6 : f.kind ≠ 6 ∧ f.kind ≠ 7 := by simpa using h
                  rw [if_neg h6.1, if_neg h6.2]
                  repeat refine c_seq ?_
                  refine c_region ?_
                  refine step_pure rfl (pure_assign rfl) ?_
                  refine step_nil ?_
                  exact less_of ⟨rfl, rfl, rfl, rfl, trivial⟩ rfl
  · have hfk : fok f = !(wrong f || !inB f.a (least f) (most f)) := rfl
    clear hw hle hmo
    generalize wrong f = W at *
    generalize least f = lo at *
    generalize most f = hi at *
    repeat refine c_seq ?_
    repeat refine c_seq ?_
    refine c_meet [(114, .bool (!fok f))] [] ?_ ?_
    · rw [hfk]
      repeat refine c_seq ?_
      refine c_region ?_
      refine step_pure rfl (pure_move rfl) ?_
      refine step_pure rfl (pure_move rfl) ?_
      refine step_split (t := 107) rfl (fun h107 => ?_) (fun h107 => ?_)
      · refine step_pass rfl rfl rfl ?_
        refine step_pass rfl rfl rfl ?_
        refine step_pass rfl rfl rfl ?_
        refine step_pass rfl rfl rfl ?_
        refine step_pass rfl rfl rfl ?_
        refine step_pass rfl rfl rfl ?_
        refine step_pure rfl (pure_pick_yes rfl rfl) ?_
        refine step_nil ?_
        exact less_sub ⟨by refine congrArg some (congrArg Value.bool ?_); clear hrg hfk; simp_all, trivial⟩ (List.nil_sublist _)
      · refine step_pure rfl (pure_fieldAddr rfl rfl rfl rfl rfl (by decide)) ?_
        first | refine step_pure rfl (pure_load (i := 0) rfl rfl rfl rfl rfl rfl) ?_ | refine step_pure rfl (pure_load (i := 1) rfl rfl rfl rfl rfl rfl) ?_ | refine step_pure rfl (pure_load (i := 2) rfl rfl rfl rfl rfl rfl) ?_ | refine step_pure rfl (pure_load (i := 3) rfl rfl rfl rfl rfl rfl) ?_ | refine step_pure rfl (pure_load (i := 4) rfl rfl rfl rfl rfl rfl) ?_ | refine step_pure rfl (pure_load (i := 5) rfl rfl rfl rfl rfl rfl) ?_
        refine step_pure rfl (pure_move rfl) ?_
        refine step_pure rfl (pure_move rfl) ?_
        refine step_gives rfl fun27 rfl (fun w _ _ => within_any _ _ _ w) ?_
        refine step_pure rfl (pure_not rfl) ?_
        refine step_pure rfl (pure_pick_no rfl rfl) ?_
        refine step_nil ?_
        exact less_sub ⟨by refine congrArg some (congrArg Value.bool ?_); clear hrg hfk; simp_all, trivial⟩ (List.nil_sublist _)
    repeat refine c_seq ?_
    refine c_cond rfl (fun h => ?_) (fun h => ?_)
    · rw [show fok f = false by simpa using h]
      repeat refine c_seq ?_
      refine c_region ?_
      refine step_pure rfl (pure_assign rfl) ?_
      refine step_nil ?_
      exact c_ret ⟨_, res_tmp Try.results15 rfl, rfl⟩
    · rw [show fok f = true by simpa using h]
      refine c_skip ?_
      repeat refine c_seq ?_
      refine c_region ?_
      refine step_pure rfl (pure_assign rfl) ?_
      refine step_nil ?_
      exact c_ret ⟨_, res_tmp Try.results15 rfl, rfl⟩
end Go.Proofs.Ytphpmallnlajjaa
