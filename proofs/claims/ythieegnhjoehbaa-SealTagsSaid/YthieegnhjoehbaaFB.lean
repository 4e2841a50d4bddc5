/- Whether a frame may be: Check and Eliciting, walked. -/
import Derived.Test.YthieegnhjoehbaaFA
namespace Go.Proofs.Ythieegnhjoehbaa
open Go.RowKit Go.Vc
set_option linter.unusedVariables false
structure Fr where
 kind : Int
 a : Int
 b : Int
 rs : List (Int × Int)
 data : List Int
/-- A frame's cells. -/
def FrC (C : Addr → Value → Prop) (f : Fr) (cs : List Value) : Prop :=
 ∃ rv dv, cs = [.int .i64 f.kind, .int .i64 f.a, .int .i64 f.b, rv, dv] ∧ SlC C 2 rv f.rs.length (rgCells f.rs) ∧ SlC C 1 dv f.data.length (row f.data)
theorem FrC.mono {C C' : Addr → Value → Prop} {f : Fr} {cs : List Value} (h : FrC C f cs) (hC : ∀ p x, C p x → C' p x) : FrC C' f cs := by
 obtain ⟨rv, dv, h1, h2, h3⟩ := h
 exact ⟨rv, dv, h1, h2.mono hC, h3.mono hC⟩
def wrong0 (f : Fr) : Bool := (!wantB f.kind && f.b != 0) || ((wantR f.kind != decide ((f.rs.length : Int) > 0)) || ((!wantD f.kind && decide ((f.data.length : Int) > 0)) || decide ((f.data.length : Int) > 2048)))
def wrong (f : Fr) : Bool :=
 if f.kind = 0 then wrong0 f else if f.kind = 1 then wrong0 f else if f.kind = 2 then wrong0 f || !rgOk f.rs else if f.kind = 3 then wrong0 f || (!inB f.b 0 M62 || decide (f.a ≥ f.b))
 else if f.kind = 4 then wrong0 f || ((f.data.length : Int) == 0) else if f.kind = 5 then wrong0 f || !inB f.b 1 64 else if f.kind = 6 then wrong0 f else if f.kind = 7 then wrong0 f else true
def least (f : Fr) : Int := if f.kind = 0 then 1 else if f.kind = 5 then 1 else 0
def most (f : Fr) : Int := if f.kind = 0 then 2048 else if f.kind = 1 then 0 else if f.kind = 4 then M62 - f.data.length else if f.kind = 5 then 64 else M62
def fok (f : Fr) : Bool := !(wrong f || !inB f.a (least f) (most f))
set_option maxHeartbeats 4000000 in
theorem check_any (f : Fr) (cs : List Value) (w : World) (hf : FrC (fun p x => w.cell? p = some x) f cs) (hbig : f.data.length ≤ 9223372036854775807) : Gives tb 43 [.agg cs.toArray] w (.int .i64 (if fok f = true then 0 else 20)) := by
 obtain ⟨rv, dv, rfl, hr0, hd⟩ := hf
 obtain ⟨rb, rc, rfl, -, -, -⟩ := id hr0
 obtain ⟨db, dc, rfl, -, -, -⟩ := hd
 have hrg := fun w' (kp : Keep w w' []) => ranges_any f.rs _ w' (slc_keep hr0 kp)
 clear hr0
 refine gives_of (fn := Try.f43) Try.func43 rfl Try.ntmps43 rfl ?_
 repeat refine c_seq ?_
 refine c_region ?_
 refine step_box_agg rfl rfl (fun b1 => ?_)
 refine qa rfl rfl ?_
 refine step_nil ?_
 repeat refine c_seq ?_
 refine c_region ?_
 refine step_pure rfl (pure_fieldAddr rfl rfl rfl rfl rfl (by decide)) ?_
 refine step_pure rfl (pure_load (i := 0) rfl rfl rfl rfl rfl rfl) ?_
 refine step_gives rfl fun61 rfl (fun w _ _ => wants_any _ w) ?_
 refine qm rfl rfl ?_
 refine qx rfl rfl rfl ?_
 refine qx rfl rfl rfl ?_
 refine qx rfl rfl rfl ?_
 refine qa rfl rfl ?_
 refine qa rfl rfl ?_
 refine qa rfl rfl ?_
 refine step_nil ?_
 have h0 : wrong0 f = ((!wantB f.kind && f.b != 0) || ((wantR f.kind != decide ((f.rs.length : Int) > 0)) || ((!wantD f.kind && decide ((f.data.length : Int) > 0)) || decide ((f.data.length : Int) > 2048)))) := rfl
 repeat refine c_seq ?_
 refine c_meet [(1, .pointer (some ⟨b1, 0, none⟩)), (6, .bool (wrong0 f))] [⟨b1, [.int .i64 f.kind, .int .i64 f.a, .int .i64 f.b, .slice rb f.rs.length rc, .slice db f.data.length dc], 59⟩] ?_ ?_
 ·rw [h0]
  generalize wantB f.kind = wb
  generalize wantR f.kind = wr
  generalize wantD f.kind = wd
  repeat refine c_seq ?_
  refine c_region ?_
  refine qm rfl rfl ?_
  refine step_pure rfl (pure_not rfl) ?_
  refine qm rfl rfl ?_
  refine step_split (t := 18) rfl (fun h18 => ?_) (fun h18 => ?_)
  ·refine step_pure rfl (pure_fieldAddr rfl rfl rfl rfl rfl (by decide)) ?_
   refine step_pure rfl (pure_load (i := 0) rfl rfl rfl rfl rfl rfl) ?_
   refine step_pure rfl (pure_neq rfl rfl) ?_
   refine step_pure rfl (pure_pick_yes rfl rfl) ?_
   refine qm rfl rfl ?_
   refine step_split (t := 23) rfl (fun h23 => ?_) (fun h23 => ?_)
   ·refine qp rfl rfl rfl ?_
    refine qp rfl rfl rfl ?_
    refine qp rfl rfl rfl ?_
    refine qp rfl rfl rfl ?_
    refine qp rfl rfl rfl ?_
    refine qp rfl rfl rfl ?_
    refine step_pure rfl (pure_pick_yes rfl rfl) ?_
    refine qm rfl rfl ?_
    refine qp rfl rfl rfl ?_
    refine qp rfl rfl rfl ?_
    refine qp rfl rfl rfl ?_
    refine qp rfl rfl rfl ?_
    refine qp rfl rfl rfl ?_
    refine qp rfl rfl rfl ?_
    refine qp rfl rfl rfl ?_
    refine qp rfl rfl rfl ?_
    refine step_pure rfl (pure_pick_yes rfl rfl) ?_
    refine qm rfl rfl ?_
    refine qp rfl rfl rfl ?_
    refine qp rfl rfl rfl ?_
    refine qp rfl rfl rfl ?_
    refine qp rfl rfl rfl ?_
    refine step_pure rfl (pure_pick_yes rfl rfl) ?_
    refine qa rfl rfl ?_
    refine step_nil ?_
    refine less_of ⟨rfl, ?_, trivial⟩ rfl
    refine congrArg some (congrArg Value.bool ?_)
    clear hrg h0 hbig
    simp_all
   ·refine qm rfl rfl ?_
    refine step_pure rfl (pure_fieldAddr rfl rfl rfl rfl rfl (by decide)) ?_
    refine step_pure rfl (pure_load (i := 0) rfl rfl rfl rfl rfl rfl) ?_
    refine step_pure rfl (pure_len_slice rfl rfl rfl) ?_
    refine step_pure rfl (pure_gtr rfl rfl) ?_
    refine step_pure rfl (pure_bneq rfl rfl rfl rfl) ?_
    refine step_pure rfl (pure_pick_no rfl rfl) ?_
    refine qm rfl rfl ?_
    refine step_split (t := 31) rfl (fun h31 => ?_) (fun h31 => ?_)
    ·refine qp rfl rfl rfl ?_
     refine qp rfl rfl rfl ?_
     refine qp rfl rfl rfl ?_
     refine qp rfl rfl rfl ?_
     refine qp rfl rfl rfl ?_
     refine qp rfl rfl rfl ?_
     refine qp rfl rfl rfl ?_
     refine qp rfl rfl rfl ?_
     refine step_pure rfl (pure_pick_yes rfl rfl) ?_
     refine qm rfl rfl ?_
     refine qp rfl rfl rfl ?_
     refine qp rfl rfl rfl ?_
     refine qp rfl rfl rfl ?_
     refine qp rfl rfl rfl ?_
     refine step_pure rfl (pure_pick_yes rfl rfl) ?_
     refine qa rfl rfl ?_
     refine step_nil ?_
     refine less_of ⟨rfl, ?_, trivial⟩ rfl
     refine congrArg some (congrArg Value.bool ?_)
     clear hrg h0 hbig
     simp_all
    ·refine qm rfl rfl ?_
     refine step_pure rfl (pure_not rfl) ?_
     refine qm rfl rfl ?_
     refine step_split (t := 34) rfl (fun h34 => ?_) (fun h34 => ?_)
     ·refine step_pure rfl (pure_fieldAddr rfl rfl rfl rfl rfl (by decide)) ?_
      refine step_pure rfl (pure_load (i := 0) rfl rfl rfl rfl rfl rfl) ?_
      refine step_pure rfl (pure_len_slice rfl rfl rfl) ?_
      refine step_pure rfl (pure_gtr rfl rfl) ?_
      refine step_pure rfl (pure_pick_yes rfl rfl) ?_
      refine step_pure rfl (pure_pick_no rfl rfl) ?_
      refine qm rfl rfl ?_
      refine step_split (t := 41) rfl (fun h41 => ?_) (fun h41 => ?_)
      ·refine qp rfl rfl rfl ?_
       refine qp rfl rfl rfl ?_
       refine qp rfl rfl rfl ?_
       refine qp rfl rfl rfl ?_
       refine step_pure rfl (pure_pick_yes rfl rfl) ?_
       refine qa rfl rfl ?_
       refine step_nil ?_
       refine less_of ⟨rfl, ?_, trivial⟩ rfl
       refine congrArg some (congrArg Value.bool ?_)
       clear hrg h0 hbig
       simp_all
      ·refine step_pure rfl (pure_fieldAddr rfl rfl rfl rfl rfl (by decide)) ?_
       refine step_pure rfl (pure_load (i := 0) rfl rfl rfl rfl rfl rfl) ?_
       refine step_pure rfl (pure_len_slice rfl rfl rfl) ?_
       refine step_pure rfl (pure_gtr rfl rfl) ?_
       refine step_pure rfl (pure_pick_no rfl rfl) ?_
       refine qa rfl rfl ?_
       refine step_nil ?_
       refine less_of ⟨rfl, ?_, trivial⟩ rfl
       refine congrArg some (congrArg Value.bool ?_)
       clear hrg h0 hbig
       simp_all
     ·refine qp rfl rfl rfl ?_
      refine qp rfl rfl rfl ?_
      refine qp rfl rfl rfl ?_
      refine qp rfl rfl rfl ?_
      refine step_pure rfl (pure_pick_no rfl rfl) ?_
      refine step_pure rfl (pure_pick_no rfl rfl) ?_
      refine qm rfl rfl ?_
      refine step_pure rfl (pure_fieldAddr rfl rfl rfl rfl rfl (by decide)) ?_
      refine step_pure rfl (pure_load (i := 0) rfl rfl rfl rfl rfl rfl) ?_
      refine step_pure rfl (pure_len_slice rfl rfl rfl) ?_
      refine step_pure rfl (pure_gtr rfl rfl) ?_
      refine step_pure rfl (pure_pick_no rfl rfl) ?_
      refine qa rfl rfl ?_
      refine step_nil ?_
      refine less_of ⟨rfl, ?_, trivial⟩ rfl
      refine congrArg some (congrArg Value.bool ?_)
      clear hrg h0 hbig
      simp_all
  ·refine qp rfl rfl rfl ?_
   refine qp rfl rfl rfl ?_
   refine qp rfl rfl rfl ?_
   refine step_pure rfl (pure_pick_no rfl rfl) ?_
   refine qm rfl rfl ?_
   refine qm rfl rfl ?_
   refine step_pure rfl (pure_fieldAddr rfl rfl rfl rfl rfl (by decide)) ?_
   refine step_pure rfl (pure_load (i := 0) rfl rfl rfl rfl rfl rfl) ?_
   refine step_pure rfl (pure_len_slice rfl rfl rfl) ?_
   refine step_pure rfl (pure_gtr rfl rfl) ?_
   refine step_pure rfl (pure_bneq rfl rfl rfl rfl) ?_
   refine step_pure rfl (pure_pick_no rfl rfl) ?_
   refine qm rfl rfl ?_
   refine step_split (t := 31) rfl (fun h31 => ?_) (fun h31 => ?_)
   ·refine qp rfl rfl rfl ?_
    refine qp rfl rfl rfl ?_
    refine qp rfl rfl rfl ?_
    refine qp rfl rfl rfl ?_
    refine qp rfl rfl rfl ?_
    refine qp rfl rfl rfl ?_
    refine qp rfl rfl rfl ?_
    refine qp rfl rfl rfl ?_
    refine step_pure rfl (pure_pick_yes rfl rfl) ?_
    refine qm rfl rfl ?_
    refine qp rfl rfl rfl ?_
    refine qp rfl rfl rfl ?_
    refine qp rfl rfl rfl ?_
    refine qp rfl rfl rfl ?_
    refine step_pure rfl (pure_pick_yes rfl rfl) ?_
    refine qa rfl rfl ?_
    refine step_nil ?_
    refine less_of ⟨rfl, ?_, trivial⟩ rfl
    refine congrArg some (congrArg Value.bool ?_)
    clear hrg h0 hbig
    simp_all
   ·refine qm rfl rfl ?_
    refine step_pure rfl (pure_not rfl) ?_
    refine qm rfl rfl ?_
    refine step_split (t := 34) rfl (fun h34 => ?_) (fun h34 => ?_)
    ·refine step_pure rfl (pure_fieldAddr rfl rfl rfl rfl rfl (by decide)) ?_
     refine step_pure rfl (pure_load (i := 0) rfl rfl rfl rfl rfl rfl) ?_
     refine step_pure rfl (pure_len_slice rfl rfl rfl) ?_
     refine step_pure rfl (pure_gtr rfl rfl) ?_
     refine step_pure rfl (pure_pick_yes rfl rfl) ?_
     refine step_pure rfl (pure_pick_no rfl rfl) ?_
     refine qm rfl rfl ?_
     refine step_split (t := 41) rfl (fun h41 => ?_) (fun h41 => ?_)
     ·refine qp rfl rfl rfl ?_
      refine qp rfl rfl rfl ?_
      refine qp rfl rfl rfl ?_
      refine qp rfl rfl rfl ?_
      refine step_pure rfl (pure_pick_yes rfl rfl) ?_
      refine qa rfl rfl ?_
      refine step_nil ?_
      refine less_of ⟨rfl, ?_, trivial⟩ rfl
      refine congrArg some (congrArg Value.bool ?_)
      clear hrg h0 hbig
      simp_all
     ·refine step_pure rfl (pure_fieldAddr rfl rfl rfl rfl rfl (by decide)) ?_
      refine step_pure rfl (pure_load (i := 0) rfl rfl rfl rfl rfl rfl) ?_
      refine step_pure rfl (pure_len_slice rfl rfl rfl) ?_
      refine step_pure rfl (pure_gtr rfl rfl) ?_
      refine step_pure rfl (pure_pick_no rfl rfl) ?_
      refine qa rfl rfl ?_
      refine step_nil ?_
      refine less_of ⟨rfl, ?_, trivial⟩ rfl
      refine congrArg some (congrArg Value.bool ?_)
      clear hrg h0 hbig
      simp_all
    ·refine qp rfl rfl rfl ?_
     refine qp rfl rfl rfl ?_
     refine qp rfl rfl rfl ?_
     refine qp rfl rfl rfl ?_
     refine step_pure rfl (pure_pick_no rfl rfl) ?_
     refine step_pure rfl (pure_pick_no rfl rfl) ?_
     refine qm rfl rfl ?_
     refine step_pure rfl (pure_fieldAddr rfl rfl rfl rfl rfl (by decide)) ?_
     refine step_pure rfl (pure_load (i := 0) rfl rfl rfl rfl rfl rfl) ?_
     refine step_pure rfl (pure_len_slice rfl rfl rfl) ?_
     refine step_pure rfl (pure_gtr rfl rfl) ?_
     refine step_pure rfl (pure_pick_no rfl rfl) ?_
     refine qa rfl rfl ?_
     refine step_nil ?_
     refine less_of ⟨rfl, ?_, trivial⟩ rfl
     refine congrArg some (congrArg Value.bool ?_)
     clear hrg h0 hbig
     simp_all
 clear h0
 have hw : wrong f = if f.kind = 0 then wrong0 f else if f.kind = 1 then wrong0 f else if f.kind = 2 then wrong0 f || !rgOk f.rs else if f.kind = 3 then wrong0 f || (!inB f.b 0 M62 || decide (f.a ≥ f.b))
  else if f.kind = 4 then wrong0 f || ((f.data.length : Int) == 0) else if f.kind = 5 then wrong0 f || !inB f.b 1 64 else if f.kind = 6 then wrong0 f else if f.kind = 7 then wrong0 f else true := rfl
 have hle : least f = if f.kind = 0 then 1 else if f.kind = 5 then 1 else 0 := rfl
 have hmo : most f = if f.kind = 0 then 2048 else if f.kind = 1 then 0 else if f.kind = 4 then M62 - f.data.length else if f.kind = 5 then 64 else M62 := rfl
 generalize wrong0 f = W0 at *
 repeat refine c_seq ?_
 refine c_region ?_
 refine qa rfl rfl ?_
 refine qa rfl rfl ?_
 refine step_nil ?_
 repeat refine c_seq ?_
 refine c_region ?_
 refine step_pure rfl (pure_fieldAddr rfl rfl rfl rfl rfl (by decide)) ?_
 refine step_pure rfl (pure_load (i := 0) rfl rfl rfl rfl rfl rfl) ?_
 refine step_nil ?_
 repeat refine c_seq ?_
 refine c_meet [(1, .pointer (some ⟨b1, 0, none⟩)), (6, .bool (wrong f)), (7, .int .i64 (least f)), (8, .int .i64 (most f))] [⟨b1, [.int .i64 f.kind, .int .i64 f.a, .int .i64 f.b, .slice rb f.rs.length rc, .slice db f.data.length dc], 59⟩] ?_ ?_
 ·rw [hw, hle, hmo]
  clear hw hle hmo
  repeat refine c_seq ?_
  refine c_block ?_
  repeat refine c_seq ?_
  refine c_region ?_
  refine step_pure rfl (pure_eql rfl rfl) ?_
  refine qa rfl rfl ?_
  refine step_nil ?_
  repeat refine c_seq ?_
  refine c_cond rfl (fun h => ?_) (fun h => ?_)
  ·rw [if_pos (eq_of_beq h), if_pos (eq_of_beq h), if_pos (eq_of_beq h)]
   repeat refine c_seq ?_
   refine c_region ?_
   refine qa rfl rfl ?_
   refine qa rfl rfl ?_
   refine step_nil ?_
   exact less_of ⟨rfl, rfl, rfl, rfl, trivial⟩ rfl
  ·have h := ne_of_beq_false h
   rw [if_neg h, if_neg h, if_neg h]
   clear h
   repeat refine c_seq ?_
   refine c_region ?_
   refine step_pure rfl (pure_eql rfl rfl) ?_
   refine qa rfl rfl ?_
   refine step_nil ?_
   repeat refine c_seq ?_
   refine c_cond rfl (fun h => ?_) (fun h => ?_)
   ·have h := eq_of_beq h
    rw [if_pos h, if_pos h, if_neg (by omega)]
    repeat refine c_seq ?_
    refine c_region ?_
    refine qa rfl rfl ?_
    refine step_nil ?_
    exact less_of ⟨rfl, rfl, rfl, rfl, trivial⟩ rfl
   ·have h := ne_of_beq_false h
    rw [if_neg h, if_neg h]
    clear h
    repeat refine c_seq ?_
    refine c_region ?_
    refine step_pure rfl (pure_eql rfl rfl) ?_
    refine qa rfl rfl ?_
    refine step_nil ?_
    repeat refine c_seq ?_
    refine c_cond rfl (fun h => ?_) (fun h => ?_)
    ·have h := eq_of_beq h
     rw [if_pos h, if_neg (by omega), if_neg (by omega), if_neg (by omega)]
     clear h
     repeat refine c_seq ?_
     refine c_region ?_
     refine qm rfl rfl ?_
     refine qm rfl rfl ?_
     refine step_split (t := 56) rfl (fun h56 => ?_) (fun h56 => ?_)
     ·refine qp rfl rfl rfl ?_
      refine qp rfl rfl rfl ?_
      refine qp rfl rfl rfl ?_
      refine qp rfl rfl rfl ?_
      refine step_pure rfl (pure_pick_yes rfl rfl) ?_
      refine qa rfl rfl ?_
      refine step_nil ?_
      exact less_of ⟨rfl, by refine congrArg some (congrArg Value.bool ?_); clear hrg; simp_all, rfl, rfl, trivial⟩ rfl
     ·refine step_pure rfl (pure_fieldAddr rfl rfl rfl rfl rfl (by decide)) ?_
      refine step_pure rfl (pure_load (i := 0) rfl rfl rfl rfl rfl rfl) ?_
      refine step_gives rfl fun62 rfl (fun w' _ kp => hrg w' kp) ?_
      refine step_pure rfl (pure_not rfl) ?_
      refine step_pure rfl (pure_pick_no rfl rfl) ?_
      refine qa rfl rfl ?_
      refine step_nil ?_
      exact less_of ⟨rfl, by refine congrArg some (congrArg Value.bool ?_); clear hrg; simp_all, rfl, rfl, trivial⟩ rfl
    ·have h := ne_of_beq_false h
     rw [if_neg h]
     clear h
     repeat refine c_seq ?_
     refine c_region ?_
     refine step_pure rfl (pure_eql rfl rfl) ?_
     refine qa rfl rfl ?_
     refine step_nil ?_
     repeat refine c_seq ?_
     refine c_cond rfl (fun h => ?_) (fun h => ?_)
     ·have h := eq_of_beq h
      rw [if_pos h, if_neg (by omega), if_neg (by omega), if_neg (by omega)]
      clear h
      repeat refine c_seq ?_
      refine c_region ?_
      refine qm rfl rfl ?_
      refine qm rfl rfl ?_
      refine step_split (t := 65) rfl (fun h65 => ?_) (fun h65 => ?_)
      ·refine qp rfl rfl rfl ?_
       refine qp rfl rfl rfl ?_
       refine qp rfl rfl rfl ?_
       refine qp rfl rfl rfl ?_
       refine step_pure rfl (pure_pick_yes rfl rfl) ?_
       refine qm rfl rfl ?_
       refine qp rfl rfl rfl ?_
       refine qp rfl rfl rfl ?_
       refine qp rfl rfl rfl ?_
       refine qp rfl rfl rfl ?_
       refine qp rfl rfl rfl ?_
       refine step_pure rfl (pure_pick_yes rfl rfl) ?_
       refine qa rfl rfl ?_
       refine step_nil ?_
       refine less_of ⟨rfl, ?_, rfl, rfl, trivial⟩ rfl
       refine congrArg some (congrArg Value.bool ?_)
       clear hrg hbig
       unfold M62
       simp_all
      ·refine step_pure rfl (pure_fieldAddr rfl rfl rfl rfl rfl (by decide)) ?_
       refine step_pure rfl (pure_load (i := 0) rfl rfl rfl rfl rfl rfl) ?_
       refine step_gives rfl fun63 rfl (fun w _ _ => within_any _ _ _ w) ?_
       refine step_pure rfl (pure_not rfl) ?_
       refine step_pure rfl (pure_pick_no rfl rfl) ?_
       refine qm rfl rfl ?_
       refine step_split (t := 71) rfl (fun h71 => ?_) (fun h71 => ?_)
       ·refine qp rfl rfl rfl ?_
        refine qp rfl rfl rfl ?_
        refine qp rfl rfl rfl ?_
        refine qp rfl rfl rfl ?_
        refine qp rfl rfl rfl ?_
        refine step_pure rfl (pure_pick_yes rfl rfl) ?_
        refine qa rfl rfl ?_
        refine step_nil ?_
        refine less_of ⟨rfl, ?_, rfl, rfl, trivial⟩ rfl
        refine congrArg some (congrArg Value.bool ?_)
        clear hrg hbig
        unfold M62
        simp_all
       ·refine step_pure rfl (pure_fieldAddr rfl rfl rfl rfl rfl (by decide)) ?_
        refine step_pure rfl (pure_load (i := 0) rfl rfl rfl rfl rfl rfl) ?_
        refine step_pure rfl (pure_fieldAddr rfl rfl rfl rfl rfl (by decide)) ?_
        refine step_pure rfl (pure_load (i := 0) rfl rfl rfl rfl rfl rfl) ?_
        refine step_pure rfl (pure_geq rfl rfl) ?_
        refine step_pure rfl (pure_pick_no rfl rfl) ?_
        refine qa rfl rfl ?_
        refine step_nil ?_
        refine less_of ⟨rfl, ?_, rfl, rfl, trivial⟩ rfl
        refine congrArg some (congrArg Value.bool ?_)
        clear hrg hbig
        unfold M62
        simp_all
     ·have h := ne_of_beq_false h
      rw [if_neg h]
      clear h
      repeat refine c_seq ?_
      refine c_region ?_
      refine step_pure rfl (pure_eql rfl rfl) ?_
      refine qa rfl rfl ?_
      refine step_nil ?_
      repeat refine c_seq ?_
      refine c_cond rfl (fun h => ?_) (fun h => ?_)
      ·have h := eq_of_beq h
       rw [if_pos h, if_neg (by omega), if_pos h]
       clear h
       repeat refine c_seq ?_
       repeat refine c_seq ?_
       refine c_meet [(1, .pointer (some ⟨b1, 0, none⟩)), (6, .bool (W0 || ((f.data.length : Int) == 0))), (7, .int .i64 0), (8, .int .i64 4611686018427387903)] [⟨b1, [.int .i64 f.kind, .int .i64 f.a, .int .i64 f.b, .slice rb f.rs.length rc, .slice db f.data.length dc], 59⟩] ?_ ?_
       ·repeat refine c_seq ?_
        refine c_region ?_
        refine qm rfl rfl ?_
        refine qm rfl rfl ?_
        refine step_split (t := 81) rfl (fun h81 => ?_) (fun h81 => ?_)
        ·refine qp rfl rfl rfl ?_
         refine qp rfl rfl rfl ?_
         refine qp rfl rfl rfl ?_
         refine qp rfl rfl rfl ?_
         refine step_pure rfl (pure_pick_yes rfl rfl) ?_
         refine qa rfl rfl ?_
         refine step_nil ?_
         exact less_of ⟨rfl, by refine congrArg some (congrArg Value.bool ?_); clear hrg; simp_all, rfl, rfl, trivial⟩ rfl
        ·refine step_pure rfl (pure_fieldAddr rfl rfl rfl rfl rfl (by decide)) ?_
         refine step_pure rfl (pure_load (i := 0) rfl rfl rfl rfl rfl rfl) ?_
         refine step_pure rfl (pure_len_slice rfl rfl rfl) ?_
         refine step_pure rfl (pure_eql rfl rfl) ?_
         refine step_pure rfl (pure_pick_no rfl rfl) ?_
         refine qa rfl rfl ?_
         refine step_nil ?_
         exact less_of ⟨rfl, by refine congrArg some (congrArg Value.bool ?_); clear hrg; simp_all, rfl, rfl, trivial⟩ rfl
       repeat refine c_seq ?_
       refine c_region ?_
       refine qm rfl rfl ?_
       refine step_pure rfl (pure_fieldAddr rfl rfl rfl rfl rfl (by decide)) ?_
       refine step_pure rfl (pure_load (i := 0) rfl rfl rfl rfl rfl rfl) ?_
       refine step_pure rfl (pure_len_slice rfl rfl rfl) ?_
       refine step_pure rfl (pure_sub64 rfl rfl (by omega) (by omega)) ?_
       refine qa rfl rfl ?_
       refine step_nil ?_
       exact less_of ⟨rfl, rfl, rfl, rfl, trivial⟩ rfl
      ·have h4 := ne_of_beq_false h
       rw [if_neg h4, if_neg h4]
       repeat refine c_seq ?_
       refine c_region ?_
       refine step_pure rfl (pure_eql rfl rfl) ?_
       refine qa rfl rfl ?_
       refine step_nil ?_
       repeat refine c_seq ?_
       refine c_cond rfl (fun h => ?_) (fun h => ?_)
       ·have h := eq_of_beq h
        rw [if_pos h, if_pos h, if_pos h]
        clear h h4
        repeat refine c_seq ?_
        refine c_region ?_
        refine qa rfl rfl ?_
        refine qa rfl rfl ?_
        refine step_nil ?_
        repeat refine c_seq ?_
        refine c_region ?_
        refine qm rfl rfl ?_
        refine qm rfl rfl ?_
        refine step_split (t := 95) rfl (fun h95 => ?_) (fun h95 => ?_)
        ·refine qp rfl rfl rfl ?_
         refine qp rfl rfl rfl ?_
         refine qp rfl rfl rfl ?_
         refine qp rfl rfl rfl ?_
         refine qp rfl rfl rfl ?_
         refine qp rfl rfl rfl ?_
         refine step_pure rfl (pure_pick_yes rfl rfl) ?_
         refine qa rfl rfl ?_
         refine step_nil ?_
         exact less_of ⟨rfl, by refine congrArg some (congrArg Value.bool ?_); clear hrg; simp_all, rfl, rfl, trivial⟩ rfl
        ·refine step_pure rfl (pure_fieldAddr rfl rfl rfl rfl rfl (by decide)) ?_
         refine step_pure rfl (pure_load (i := 0) rfl rfl rfl rfl rfl rfl) ?_
         refine qm rfl rfl ?_
         refine qm rfl rfl ?_
         refine step_gives rfl fun63 rfl (fun w _ _ => within_any _ _ _ w) ?_
         refine step_pure rfl (pure_not rfl) ?_
         refine step_pure rfl (pure_pick_no rfl rfl) ?_
         refine qa rfl rfl ?_
         refine step_nil ?_
         exact less_of ⟨rfl, by refine congrArg some (congrArg Value.bool ?_); clear hrg; simp_all, rfl, rfl, trivial⟩ rfl
       ·have h5 := ne_of_beq_false h
        rw [if_neg h5, if_neg h5, if_neg h5]
        clear h h4 h5
        repeat refine c_seq ?_
        refine c_region ?_
        refine step_pure rfl (pure_eql rfl rfl) ?_
        refine qa rfl rfl ?_
        refine step_nil ?_
        repeat refine c_seq ?_
        repeat refine c_seq ?_
        refine c_meet [(1, .pointer (some ⟨b1, 0, none⟩)), (6, .bool W0), (7, .int .i64 0), (8, .int .i64 4611686018427387903), (103, .bool (f.kind == 6 || f.kind == 7))] [⟨b1, [.int .i64 f.kind, .int .i64 f.a, .int .i64 f.b, .slice rb f.rs.length rc, .slice db f.data.length dc], 59⟩] ?_ ?_
        ·repeat refine c_seq ?_
         refine c_cond rfl (fun h => ?_) (fun h => ?_)
         ·exact c_skip (less_of ⟨rfl, rfl, rfl, rfl, by rw [h]; rfl, trivial⟩ rfl)
         ·repeat refine c_seq ?_
          refine c_region ?_
          refine step_pure rfl (pure_eql rfl rfl) ?_
          refine qa rfl rfl ?_
          refine step_nil ?_
          exact less_of ⟨rfl, rfl, rfl, rfl, by rw [h]; rfl, trivial⟩ rfl
        repeat refine c_seq ?_
        refine c_cond rfl (fun h => ?_) (fun h => ?_)
        ·refine c_skip (less_of ⟨rfl, ?_, rfl, rfl, trivial⟩ rfl)
         refine congrArg some (congrArg Value.bool ?_)
         by_cases h6 : f.kind = 6
         ·rw [if_pos h6]
         ·rw [if_neg h6, if_pos (by simpa [h6] using h)]
        ·have h6 : f.kind ≠ 6 ∧ f.kind ≠ 7 := by simpa using h
         rw [if_neg h6.1, if_neg h6.2]
         repeat refine c_seq ?_
         refine c_region ?_
         refine qa rfl rfl ?_
         refine step_nil ?_
         exact less_of ⟨rfl, rfl, rfl, rfl, trivial⟩ rfl
 ·have hfk : fok f = !(wrong f || !inB f.a (least f) (most f)) := rfl
  clear hw hle hmo
  generalize wrong f = W at *
  generalize least f = lo at *
  generalize most f = hi at *
  repeat refine c_seq ?_
  repeat refine c_seq ?_
  refine c_meet [(114, .bool (!fok f))] [] ?_ ?_
  ·rw [hfk]
   repeat refine c_seq ?_
   refine c_region ?_
   refine qm rfl rfl ?_
   refine qm rfl rfl ?_
   refine step_split (t := 107) rfl (fun h107 => ?_) (fun h107 => ?_)
   ·refine qp rfl rfl rfl ?_
    refine qp rfl rfl rfl ?_
    refine qp rfl rfl rfl ?_
    refine qp rfl rfl rfl ?_
    refine qp rfl rfl rfl ?_
    refine qp rfl rfl rfl ?_
    refine step_pure rfl (pure_pick_yes rfl rfl) ?_
    refine step_nil ?_
    exact less_sub ⟨by refine congrArg some (congrArg Value.bool ?_); clear hrg hfk; simp_all, trivial⟩ (List.nil_sublist _)
   ·refine step_pure rfl (pure_fieldAddr rfl rfl rfl rfl rfl (by decide)) ?_
    refine step_pure rfl (pure_load (i := 0) rfl rfl rfl rfl rfl rfl) ?_
    refine qm rfl rfl ?_
    refine qm rfl rfl ?_
    refine step_gives rfl fun63 rfl (fun w _ _ => within_any _ _ _ w) ?_
    refine step_pure rfl (pure_not rfl) ?_
    refine step_pure rfl (pure_pick_no rfl rfl) ?_
    refine step_nil ?_
    exact less_sub ⟨by refine congrArg some (congrArg Value.bool ?_); clear hrg hfk; simp_all, trivial⟩ (List.nil_sublist _)
  repeat refine c_seq ?_
  refine c_cond rfl (fun h => ?_) (fun h => ?_)
  ·rw [show fok f = false by simpa using h]
   repeat refine c_seq ?_
   refine c_region ?_
   refine qa rfl rfl ?_
   refine step_nil ?_
   exact c_ret ⟨_, res_tmp Try.results43 rfl, rfl⟩
  ·rw [show fok f = true by simpa using h]
   refine c_skip ?_
   repeat refine c_seq ?_
   refine c_region ?_
   refine qa rfl rfl ?_
   refine step_nil ?_
   exact c_ret ⟨_, res_tmp Try.results43 rfl, rfl⟩
end Go.Proofs.Ythieegnhjoehbaa
/- Whether a frame may be: the document's Check, Eliciting: walked. -/
namespace Go.Proofs.Ythieegnhjoehbaa
open Go.RowKit Go.Vc
set_option linter.unusedVariables false
/-! plain: when a frame may be, kind by kind -/
theorem fok0 {f : Fr} (h : f.kind = 0) : fok f = true ↔ 1 ≤ f.a ∧ f.a ≤ 2048 ∧ f.b = 0 ∧ f.rs = [] ∧ f.data = [] := by
 unfold fok wrong least most
 rw [if_pos h, if_pos h, if_pos h]
 unfold wrong0 inB wantB wantR wantD
 rw [h]
 simp
 grind
theorem fok1 {f : Fr} (h : f.kind = 1) : fok f = true ↔ f.a = 0 ∧ f.b = 0 ∧ f.rs = [] ∧ f.data = [] := by
 unfold fok wrong least most
 simp only [h]
 unfold wrong0 inB wantB wantR wantD
 rw [h]
 simp
 grind
theorem fok2 {f : Fr} (h : f.kind = 2) : fok f = true ↔ 0 ≤ f.a ∧ f.a ≤ 4611686018427387903 ∧ f.b = 0 ∧ rgOk f.rs = true ∧ f.data = [] := by
 have hr : rgOk f.rs = true → f.rs ≠ [] := by
  intro h1 h2
  rw [h2] at h1
  cases h1
 unfold fok wrong least most
 simp only [h]
 unfold wrong0 inB wantB wantR wantD M62
 rw [h]
 simp
 grind
theorem fok3 {f : Fr} (h : f.kind = 3) : fok f = true ↔ 0 ≤ f.a ∧ f.a < f.b ∧ f.b ≤ 4611686018427387903 ∧ f.rs = [] ∧ f.data.length ≤ 2048 := by
 unfold fok wrong least most
 simp only [h]
 unfold wrong0 inB wantB wantR wantD M62
 rw [h]
 simp
 grind
theorem fok4 {f : Fr} (h : f.kind = 4) : fok f = true ↔ 0 ≤ f.a ∧ f.a ≤ 4611686018427387903 - f.data.length ∧ f.b = 0 ∧ f.rs = [] ∧ f.data ≠ [] ∧ f.data.length ≤ 2048 := by
 unfold fok wrong least most
 simp only [h]
 unfold wrong0 inB wantB wantR wantD M62
 rw [h]
 simp
 grind
theorem fok5 {f : Fr} (h : f.kind = 5) : fok f = true ↔ 1 ≤ f.a ∧ f.a ≤ 64 ∧ 1 ≤ f.b ∧ f.b ≤ 64 ∧ f.rs = [] ∧ f.data = [] := by
 unfold fok wrong least most
 simp only [h]
 unfold wrong0 inB wantB wantR wantD
 rw [h]
 simp
 grind
theorem fok67 {f : Fr} (h : f.kind = 6 ∨ f.kind = 7) : fok f = true ↔ 0 ≤ f.a ∧ f.a ≤ 4611686018427387903 ∧ f.b = 0 ∧ f.rs = [] ∧ f.data = [] := by
 unfold fok wrong least most
 rcases h with h | h
 all_goals
  simp only [h]
  unfold wrong0 inB wantB wantR wantD M62
  rw [h]
  simp
  grind
theorem fok_no {f : Fr} (h : f.kind ≠ 0 ∧ f.kind ≠ 1 ∧ f.kind ≠ 2 ∧ f.kind ≠ 3 ∧ f.kind ≠ 4 ∧ f.kind ≠ 5 ∧ f.kind ≠ 6 ∧ f.kind ≠ 7) : fok f = false := by
 unfold fok wrong
 simp [h]
end Go.Proofs.Ythieegnhjoehbaa
/- Whether a frame may be: the document's Check, Eliciting: walked. -/
namespace Go.Proofs.Ythieegnhjoehbaa
open Go.RowKit Go.Vc
set_option linter.unusedVariables false
theorem rwithin_any (n : Int) (w : World) : Gives tb 71 [.int .i64 n] w (.bool (inB n 0 M62)) := by
 refine gives_of (fn := Try.f71) Try.func71 rfl Try.ntmps71 rfl ?_
 repeat refine c_seq ?_
 refine c_region ?_
 refine qa rfl rfl ?_
 refine step_nil ?_
 repeat refine c_seq ?_
 refine c_region ?_
 refine qm rfl rfl ?_
 refine step_pure rfl (pure_geq rfl rfl) ?_
 refine qm rfl rfl ?_
 refine step_split (t := 5) rfl (fun h5 => ?_) (fun h5 => ?_)
 ·refine qm rfl rfl ?_
  refine step_pure rfl (pure_lss rfl rfl) ?_
  refine step_pure rfl (pure_pick_yes rfl rfl) ?_
  refine qa rfl rfl ?_
  refine step_nil ?_
  refine c_ret ⟨_, res_tmp Try.results71 rfl, congrArg Value.bool ?_⟩
  rw [Bool.eq_iff_iff]
  unfold inB M62
  simp_all <;> omega
 ·refine qp rfl rfl rfl ?_
  refine qp rfl rfl rfl ?_
  refine step_pure rfl (pure_pick_no rfl rfl) ?_
  refine qa rfl rfl ?_
  refine step_nil ?_
  refine c_ret ⟨_, res_tmp Try.results71 rfl, congrArg Value.bool ?_⟩
  rw [Bool.eq_iff_iff]
  unfold inB M62
  simp_all <;> omega
set_option maxHeartbeats 1000000 in
theorem rranges_any (l : List (Int × Int)) (v : Value) (w : World) (hv : SlC (fun p x => w.cell? p = some x) 2 v l.length (rgCells l)) : Gives tb 72 [v] w (.bool (rgOk l)) := by
 have hv0 := hv
 obtain ⟨base0, cap0, rfl, hcap, -, -⟩ := hv
 refine gives_of (fn := Try.f72) Try.func72 rfl Try.ntmps72 rfl ?_
 have h0 : inB l.length 1 16 = (decide (1 ≤ (l.length : Int)) && decide ((l.length : Int) ≤ 16)) := rfl
 repeat refine c_seq ?_
 refine c_region ?_
 refine qa rfl rfl ?_
 refine step_nil ?_
 repeat refine c_seq ?_
 refine c_meet [(0, .slice base0 l.length cap0), (11, .bool (!inB l.length 1 16))] [] ?_ ?_
 ·repeat refine c_seq ?_
  refine c_region ?_
  refine qm rfl rfl ?_
  refine step_pure rfl (pure_len_slice rfl rfl rfl) ?_
  refine step_pure rfl (pure_lss rfl rfl) ?_
  refine qm rfl rfl ?_
  refine step_split (t := 7) rfl (fun h7 => ?_) (fun h7 => ?_)
  ·refine qp rfl rfl rfl ?_
   refine qp rfl rfl rfl ?_
   refine qp rfl rfl rfl ?_
   refine step_pure rfl (pure_pick_yes rfl rfl) ?_
   refine step_nil ?_
   refine less_of ⟨rfl, congrArg some (congrArg Value.bool ?_), trivial⟩ rfl
   rw [h0, Bool.eq_iff_iff]
   clear h0 hv0
   simp_all <;> omega
  ·refine qm rfl rfl ?_
   refine step_pure rfl (pure_len_slice rfl rfl rfl) ?_
   refine step_pure rfl (pure_gtr rfl rfl) ?_
   refine step_pure rfl (pure_pick_no rfl rfl) ?_
   refine step_nil ?_
   refine less_of ⟨rfl, congrArg some (congrArg Value.bool ?_), trivial⟩ rfl
   rw [h0, Bool.eq_iff_iff]
   clear h0 hv0
   simp_all <;> omega
 clear h0
 repeat refine c_seq ?_
 refine c_cond rfl (fun h => ?_) (fun h => ?_)
 ·have h0 : inB l.length 1 16 = false := by simpa using h
  have hno : rgOk l = false := by unfold rgOk; rw [h0, Bool.false_and]
  rw [hno]
  repeat refine c_seq ?_
  refine c_region ?_
  refine qa rfl rfl ?_
  refine step_nil ?_
  exact c_ret ⟨_, res_tmp Try.results72 rfl, rfl⟩
 ·have h0 : inB l.length 1 16 = true := by simpa using h
  clear h
  have hl16 : l.length ≤ 16 := by unfold inB at h0; simp at h0; omega
  refine c_skip ?_
  repeat refine c_seq ?_
  refine c_region ?_
  refine qa rfl rfl ?_
  refine step_nil ?_
  repeat refine c_seq ?_
  refine c_block ?_
  repeat refine c_seq ?_
  refine c_loop (α := Nat) (fun i => [(0, .slice base0 l.length cap0), (3, .int .i64 i)]) (fun _ => []) (fun i => i ≤ l.length ∧ ∀ j, j < i → rgAt l j = true) (fun i => l.length - i) 0
   ⟨Nat.zero_le _, fun j h => absurd h (Nat.not_lt_zero j)⟩ (less_of ⟨rfl, rfl, trivial⟩ rfl) ?_
  rintro i ⟨hi, hall⟩
  repeat refine c_seq ?_
  refine c_region ?_
  refine qm rfl rfl ?_
  refine qm rfl rfl ?_
  refine step_pure rfl (pure_len_slice rfl rfl rfl) ?_
  refine step_pure rfl (pure_lss rfl rfl) ?_
  refine step_nil ?_
  repeat refine c_seq ?_
  refine c_cond rfl (fun h => ?_) (fun h => ?_)
  ·have hlt : i < l.length := by have := of_decide_eq_true h; omega
   clear h
   obtain ⟨p, cap', hq, hp⟩ := hv0.at (i := i) (by decide) hlt
   cases hq
   obtain ⟨hlo, hhi⟩ := rgCells_at l i hlt
   have clo := hp 0 _ hlo
   have chi := hp 1 _ hhi
   have cpr : 0 < i → w.cell? ((p.add ((i - 1) * 2)).add 0) = some (.int .i64 (l.getD (i - 1) (0, 0)).1) := fun hpos => by
    obtain ⟨p', cap'', hq', hp'⟩ := hv0.at (i := i - 1) (by decide) (by omega)
    cases hq'
    exact hp' 0 _ (rgCells_at l (i - 1) (by omega)).1
   have hno := fun hz => rgOk_not hlt hz
   have hrg : rgAt l i = (decide (0 ≤ (l.getD i (0, 0)).1) && (inB (l.getD i (0, 0)).2 (l.getD i (0, 0)).1 M62 && (decide (i = 0) || decide ((l.getD i (0, 0)).2 < (l.getD (i - 1) (0, 0)).1 - 1)))) := rfl
   have hpr : 0 < i → 0 ≤ (l.getD (i - 1) (0, 0)).1 ∧ (l.getD (i - 1) (0, 0)).1 ≤ 4611686018427387903 := fun hpos => by
    have := hall (i - 1) (by omega)
    unfold rgAt inB M62 at this
    simp at this
    simp
    omega
   generalize (l.getD i (0, 0)).1 = lo at *
   generalize (l.getD i (0, 0)).2 = hi' at *
   generalize (l.getD (i - 1) (0, 0)).1 = pr at *
   refine c_skip ?_
   repeat refine c_seq ?_
   refine c_block ?_
   repeat refine c_seq ?_
   refine c_meet [(0, .slice (some p) l.length cap0), (3, .int .i64 i), (63, .bool (!rgAt l i))] [] ?_ ?_
   ·repeat refine c_seq ?_
    refine d_region [1, 9, 17, 25, 35, 41, 49, 57, 65, 73, 81, 91, 97, 105, 113, 121, 131, 137, 145, 153, 161, 169, 177, 185, 195, 201, 209, 217, 225, 233, 241, 249, 257, 265, 273, 283, 289, 297, 305, 313, 321, 331, 337, 345, 353, 361] follows (by kernel_rfl) ?_
    refine qd rfl rfl rfl rfl ?_
    refine qd rfl rfl rfl rfl ?_
    refine d_as0 rfl rfl rfl (pure_indexAddr_at rfl rfl rfl rfl rfl (by omega) (by omega)) (show _ = Value.pointer (some (p.add (i * 2))) from by show Value.pointer (some (p.add ((i : Int).toNat * 2))) = _; rw [Int.toNat_natCast]) ?_
    refine d_pure0 rfl rfl rfl (pure_fieldAddr_at rfl rfl rfl rfl rfl (by decide)) ?_
    refine d_pure1 rfl rfl rfl (pure_view_at rfl rfl rfl clo List.not_mem_nil) (by exact SubMem.refl _) ?_
    refine d_pure0 rfl rfl rfl (pure_lss rfl rfl) ?_
    refine qd rfl rfl rfl rfl ?_
    refine d_split (t := 24) rfl (fun h24 => ?_) (fun h24 => ?_)
    ·refine d_pass rfl rfl rfl (fun h => by cases h) rfl rfl rfl ?_
     refine d_pass rfl rfl rfl (fun h => by cases h) rfl rfl rfl ?_
     refine d_pass rfl rfl rfl (fun h => by cases h) rfl rfl rfl ?_
     refine d_pass rfl rfl rfl (fun h => by cases h) rfl rfl rfl ?_
     refine d_pass rfl rfl rfl (fun _ => (by exact SubMem.refl _)) rfl rfl rfl ?_
     refine d_pass rfl rfl rfl (fun h => by cases h) rfl rfl rfl ?_
     refine d_pass rfl rfl rfl (fun h => by cases h) rfl rfl rfl ?_
     refine d_pass rfl rfl rfl (fun h => by cases h) rfl rfl rfl ?_
     refine d_pass rfl rfl rfl (fun h => by cases h) rfl rfl rfl ?_
     refine d_pass rfl rfl rfl (fun _ => (by exact SubMem.refl _)) rfl rfl rfl ?_
     refine d_pass rfl rfl rfl (fun h => by cases h) rfl rfl rfl ?_
     refine d_pure0 rfl rfl rfl (pure_pick_yes rfl rfl) ?_
     refine qd rfl rfl rfl rfl ?_
     refine d_pass rfl rfl rfl (fun h => by cases h) rfl rfl rfl ?_
     refine d_pass rfl rfl rfl (fun h => by cases h) rfl rfl rfl ?_
     refine d_pass rfl rfl rfl (fun h => by cases h) rfl rfl rfl ?_
     refine d_pass rfl rfl rfl (fun h => by cases h) rfl rfl rfl ?_
     refine d_pass rfl rfl rfl (fun _ => (by exact SubMem.refl _)) rfl rfl rfl ?_
     refine d_pass rfl rfl rfl (fun h => by cases h) rfl rfl rfl ?_
     refine d_pure0 rfl rfl rfl (pure_pick_yes rfl rfl) ?_
     refine qd rfl rfl rfl rfl ?_
     refine d_pass rfl rfl rfl (fun h => by cases h) rfl rfl rfl ?_
     refine d_pass rfl rfl rfl (fun h => by cases h) rfl rfl rfl ?_
     refine d_pass rfl rfl rfl (fun h => by cases h) rfl rfl rfl ?_
     refine d_pass rfl rfl rfl (fun h => by cases h) rfl rfl rfl ?_
     refine d_pass rfl rfl rfl (fun h => by cases h) rfl rfl rfl ?_
     refine d_pass rfl rfl rfl (fun h => by cases h) rfl rfl rfl ?_
     refine d_pass rfl rfl rfl (fun h => by cases h) rfl rfl rfl ?_
     refine d_pass rfl rfl rfl (fun _ => (by exact SubMem.refl _)) rfl rfl rfl ?_
     refine d_pass rfl rfl rfl (fun h => by cases h) rfl rfl rfl ?_
     refine d_pass rfl rfl rfl (fun h => by cases h) rfl rfl rfl ?_
     refine d_pass rfl rfl rfl (fun h => by cases h) rfl rfl rfl ?_
     refine d_pass rfl rfl rfl (fun h => by cases h) rfl rfl rfl ?_
     refine d_pass rfl rfl rfl (fun h => by cases h) rfl rfl rfl ?_
     refine d_pass rfl rfl rfl (fun _ => (by exact SubMem.refl _)) rfl rfl rfl ?_
     refine d_pass rfl rfl rfl (fun h => by cases h) rfl rfl rfl ?_
     refine d_pass rfl rfl rfl (fun h => by cases h) rfl rfl rfl ?_
     refine d_pass rfl rfl rfl (fun h => by cases h) rfl rfl rfl ?_
     refine d_pure0 rfl rfl rfl (pure_pick_yes rfl rfl) ?_
     refine d_nil ?_
     refine less_sub ⟨rfl, rfl, ?_, trivial⟩ (List.nil_sublist _)
     refine congrArg some (congrArg Value.bool ?_)
     rw [hrg, Bool.eq_iff_iff]
     unfold M62 inB
     clear hno hrg hall hv0 h0
     simp_all <;> omega
    ·refine qd rfl rfl rfl rfl ?_
     refine qd rfl rfl rfl rfl ?_
     refine d_as0 rfl rfl rfl (pure_indexAddr_at rfl rfl rfl rfl rfl (by omega) (by omega)) (show _ = Value.pointer (some (p.add (i * 2))) from by show Value.pointer (some (p.add ((i : Int).toNat * 2))) = _; rw [Int.toNat_natCast]) ?_
     refine d_pure0 rfl rfl rfl (pure_fieldAddr_at rfl rfl rfl rfl rfl (by decide)) ?_
     refine d_pure1 rfl rfl rfl (pure_view_at rfl rfl rfl chi List.not_mem_nil) (by exact SubMem.refl _) ?_
     refine qd rfl rfl rfl rfl ?_
     refine qd rfl rfl rfl rfl ?_
     refine d_as0 rfl rfl rfl (pure_indexAddr_at rfl rfl rfl rfl rfl (by omega) (by omega)) (show _ = Value.pointer (some (p.add (i * 2))) from by show Value.pointer (some (p.add ((i : Int).toNat * 2))) = _; rw [Int.toNat_natCast]) ?_
     refine d_pure0 rfl rfl rfl (pure_fieldAddr_at rfl rfl rfl rfl rfl (by decide)) ?_
     refine d_pure1 rfl rfl rfl (pure_view_at rfl rfl rfl clo List.not_mem_nil) (by exact SubMem.refl _) ?_
     refine d_pure0 rfl rfl rfl (pure_lss rfl rfl) ?_
     refine d_pure0 rfl rfl rfl (pure_pick_no rfl rfl) ?_
     refine qd rfl rfl rfl rfl ?_
     refine d_split (t := 37) rfl (fun h37 => ?_) (fun h37 => ?_)
     ·refine d_pass rfl rfl rfl (fun h => by cases h) rfl rfl rfl ?_
      refine d_pass rfl rfl rfl (fun h => by cases h) rfl rfl rfl ?_
      refine d_pass rfl rfl rfl (fun h => by cases h) rfl rfl rfl ?_
      refine d_pass rfl rfl rfl (fun h => by cases h) rfl rfl rfl ?_
      refine d_pass rfl rfl rfl (fun _ => (by exact SubMem.refl _)) rfl rfl rfl ?_
      refine d_pass rfl rfl rfl (fun h => by cases h) rfl rfl rfl ?_
      refine d_pure0 rfl rfl rfl (pure_pick_yes rfl rfl) ?_
      refine qd rfl rfl rfl rfl ?_
      refine d_pass rfl rfl rfl (fun h => by cases h) rfl rfl rfl ?_
      refine d_pass rfl rfl rfl (fun h => by cases h) rfl rfl rfl ?_
      refine d_pass rfl rfl rfl (fun h => by cases h) rfl rfl rfl ?_
      refine d_pass rfl rfl rfl (fun h => by cases h) rfl rfl rfl ?_
      refine d_pass rfl rfl rfl (fun h => by cases h) rfl rfl rfl ?_
      refine d_pass rfl rfl rfl (fun h => by cases h) rfl rfl rfl ?_
      refine d_pass rfl rfl rfl (fun h => by cases h) rfl rfl rfl ?_
      refine d_pass rfl rfl rfl (fun _ => (by exact SubMem.refl _)) rfl rfl rfl ?_
      refine d_pass rfl rfl rfl (fun h => by cases h) rfl rfl rfl ?_
      refine d_pass rfl rfl rfl (fun h => by cases h) rfl rfl rfl ?_
      refine d_pass rfl rfl rfl (fun h => by cases h) rfl rfl rfl ?_
      refine d_pass rfl rfl rfl (fun h => by cases h) rfl rfl rfl ?_
      refine d_pass rfl rfl rfl (fun h => by cases h) rfl rfl rfl ?_
      refine d_pass rfl rfl rfl (fun _ => (by exact SubMem.refl _)) rfl rfl rfl ?_
      refine d_pass rfl rfl rfl (fun h => by cases h) rfl rfl rfl ?_
      refine d_pass rfl rfl rfl (fun h => by cases h) rfl rfl rfl ?_
      refine d_pass rfl rfl rfl (fun h => by cases h) rfl rfl rfl ?_
      refine d_pure0 rfl rfl rfl (pure_pick_yes rfl rfl) ?_
      refine d_nil ?_
      refine less_sub ⟨rfl, rfl, ?_, trivial⟩ (List.nil_sublist _)
      refine congrArg some (congrArg Value.bool ?_)
      rw [hrg, Bool.eq_iff_iff]
      unfold M62 inB
      clear hno hrg hall hv0 h0
      simp_all <;> omega
     ·refine qd rfl rfl rfl rfl ?_
      refine qd rfl rfl rfl rfl ?_
      refine d_as0 rfl rfl rfl (pure_indexAddr_at rfl rfl rfl rfl rfl (by omega) (by omega)) (show _ = Value.pointer (some (p.add (i * 2))) from by show Value.pointer (some (p.add ((i : Int).toNat * 2))) = _; rw [Int.toNat_natCast]) ?_
      refine d_pure0 rfl rfl rfl (pure_fieldAddr_at rfl rfl rfl rfl rfl (by decide)) ?_
      refine d_pure1 rfl rfl rfl (pure_view_at rfl rfl rfl chi List.not_mem_nil) (by exact SubMem.refl _) ?_
      refine d_pure0 rfl rfl rfl (pure_geq rfl rfl) ?_
      refine d_pure0 rfl rfl rfl (pure_pick_no rfl rfl) ?_
      refine qd rfl rfl rfl rfl ?_
      refine d_split (t := 45) rfl (fun h45 => ?_) (fun h45 => ?_)
      ·refine d_pass rfl rfl rfl (fun h => by cases h) rfl rfl rfl ?_
       refine d_pass rfl rfl rfl (fun h => by cases h) rfl rfl rfl ?_
       refine d_pass rfl rfl rfl (fun h => by cases h) rfl rfl rfl ?_
       refine d_pass rfl rfl rfl (fun h => by cases h) rfl rfl rfl ?_
       refine d_pass rfl rfl rfl (fun h => by cases h) rfl rfl rfl ?_
       refine d_pass rfl rfl rfl (fun h => by cases h) rfl rfl rfl ?_
       refine d_pass rfl rfl rfl (fun h => by cases h) rfl rfl rfl ?_
       refine d_pass rfl rfl rfl (fun _ => (by exact SubMem.refl _)) rfl rfl rfl ?_
       refine d_pass rfl rfl rfl (fun h => by cases h) rfl rfl rfl ?_
       refine d_pass rfl rfl rfl (fun h => by cases h) rfl rfl rfl ?_
       refine d_pass rfl rfl rfl (fun h => by cases h) rfl rfl rfl ?_
       refine d_pass rfl rfl rfl (fun h => by cases h) rfl rfl rfl ?_
       refine d_pass rfl rfl rfl (fun h => by cases h) rfl rfl rfl ?_
       refine d_pass rfl rfl rfl (fun _ => (by exact SubMem.refl _)) rfl rfl rfl ?_
       refine d_pass rfl rfl rfl (fun h => by cases h) rfl rfl rfl ?_
       refine d_pass rfl rfl rfl (fun h => by cases h) rfl rfl rfl ?_
       refine d_pass rfl rfl rfl (fun h => by cases h) rfl rfl rfl ?_
       refine d_pure0 rfl rfl rfl (pure_pick_yes rfl rfl) ?_
       refine d_nil ?_
       refine less_sub ⟨rfl, rfl, ?_, trivial⟩ (List.nil_sublist _)
       refine congrArg some (congrArg Value.bool ?_)
       rw [hrg, Bool.eq_iff_iff]
       unfold M62 inB
       clear hno hrg hall hv0 h0
       simp_all <;> omega
      ·refine qd rfl rfl rfl rfl ?_
       refine d_as0 rfl rfl rfl (pure_gtr rfl rfl) (show _ = Value.bool (decide (0 < i)) from by congr 1; simp) ?_
       refine qd rfl rfl rfl rfl ?_
       refine d_split (t := 48) rfl (fun h48 => ?_) (fun h48 => ?_)
       ·refine qd rfl rfl rfl rfl ?_
        refine qd rfl rfl rfl rfl ?_
        refine d_as0 rfl rfl rfl (pure_indexAddr_at rfl rfl rfl rfl rfl (by omega) (by omega)) (show _ = Value.pointer (some (p.add (i * 2))) from by show Value.pointer (some (p.add ((i : Int).toNat * 2))) = _; rw [Int.toNat_natCast]) ?_
        refine d_pure0 rfl rfl rfl (pure_fieldAddr_at rfl rfl rfl rfl rfl (by decide)) ?_
        refine d_pure1 rfl rfl rfl (pure_view_at rfl rfl rfl chi List.not_mem_nil) (by exact SubMem.refl _) ?_
        refine qd rfl rfl rfl rfl ?_
        refine qd rfl rfl rfl rfl ?_
        refine d_pure0 rfl rfl rfl (pure_sub64 rfl rfl (by omega) (by omega)) ?_
        refine d_as0 rfl rfl rfl (pure_indexAddr_at rfl rfl rfl rfl rfl (by have := of_decide_eq_true h48; omega) (by omega)) (show _ = Value.pointer (some (p.add ((i - 1) * 2))) from by have := of_decide_eq_true h48; show Value.pointer (some (p.add (((i : Int) - 1).toNat * 2))) = _; rw [show ((i : Int) - 1).toNat = i - 1 by omega]) ?_
        refine d_pure0 rfl rfl rfl (pure_fieldAddr_at rfl rfl rfl rfl rfl (by decide)) ?_
        refine d_pure1 rfl rfl rfl (pure_view_at rfl rfl rfl (cpr (of_decide_eq_true h48)) List.not_mem_nil) (by exact SubMem.refl _) ?_
        refine d_pure0 rfl rfl rfl (pure_sub64 rfl rfl (by have := hpr (of_decide_eq_true h48); omega) (by have := hpr (of_decide_eq_true h48); omega)) ?_
        refine d_pure0 rfl rfl rfl (pure_geq rfl rfl) ?_
        refine d_pure0 rfl rfl rfl (pure_pick_yes rfl rfl) ?_
        refine d_pure0 rfl rfl rfl (pure_pick_no rfl rfl) ?_
        refine d_nil ?_
        refine less_sub ⟨rfl, rfl, ?_, trivial⟩ (List.nil_sublist _)
        refine congrArg some (congrArg Value.bool ?_)
        rw [hrg, Bool.eq_iff_iff]
        unfold M62 inB
        clear hno hrg hall hv0 h0
        simp_all <;> omega
       ·refine d_pass rfl rfl rfl (fun h => by cases h) rfl rfl rfl ?_
        refine d_pass rfl rfl rfl (fun h => by cases h) rfl rfl rfl ?_
        refine d_pass rfl rfl rfl (fun h => by cases h) rfl rfl rfl ?_
        refine d_pass rfl rfl rfl (fun h => by cases h) rfl rfl rfl ?_
        refine d_pass rfl rfl rfl (fun _ => (by exact SubMem.refl _)) rfl rfl rfl ?_
        refine d_pass rfl rfl rfl (fun h => by cases h) rfl rfl rfl ?_
        refine d_pass rfl rfl rfl (fun h => by cases h) rfl rfl rfl ?_
        refine d_pass rfl rfl rfl (fun h => by cases h) rfl rfl rfl ?_
        refine d_pass rfl rfl rfl (fun h => by cases h) rfl rfl rfl ?_
        refine d_pass rfl rfl rfl (fun h => by cases h) rfl rfl rfl ?_
        refine d_pass rfl rfl rfl (fun _ => (by exact SubMem.refl _)) rfl rfl rfl ?_
        refine d_pass rfl rfl rfl (fun h => by cases h) rfl rfl rfl ?_
        refine d_pass rfl rfl rfl (fun h => by cases h) rfl rfl rfl ?_
        refine d_pure0 rfl rfl rfl (pure_pick_no rfl rfl) ?_
        refine d_pure0 rfl rfl rfl (pure_pick_no rfl rfl) ?_
        refine d_nil ?_
        refine less_sub ⟨rfl, rfl, ?_, trivial⟩ (List.nil_sublist _)
        refine congrArg some (congrArg Value.bool ?_)
        rw [hrg, Bool.eq_iff_iff]
        unfold M62 inB
        clear hno hrg hall hv0 h0
        simp_all <;> omega
   repeat refine c_seq ?_
   refine c_cond rfl (fun h => ?_) (fun h => ?_)
   ·have hz : rgAt l i = false := by simpa using h
    rw [hno hz]
    repeat refine c_seq ?_
    refine c_region ?_
    refine qa rfl rfl ?_
    refine step_nil ?_
    exact c_ret ⟨_, res_tmp Try.results72 rfl, rfl⟩
   ·have hz : rgAt l i = true := by simpa using h
    refine c_skip ?_
    repeat refine c_seq ?_
    refine c_region ?_
    refine qm rfl rfl ?_
    refine step_pure rfl (pure_add64 rfl rfl (by omega) (by omega)) ?_
    refine qa rfl rfl ?_
    refine step_nil ?_
    refine ⟨i + 1, ⟨hlt, fun j hj => ?_⟩, by omega, less_of ⟨rfl, rfl, trivial⟩ rfl⟩
    by_cases hji : j = i
    ·rw [hji]; exact hz
    ·exact hall j (by omega)
  ·have hie : i = l.length := by have := of_decide_eq_false h; omega
   clear h
   subst hie
   rw [rgOk_yes h0 hall]
   refine c_exit ?_
   repeat refine c_seq ?_
   refine c_region ?_
   refine qa rfl rfl ?_
   refine step_nil ?_
   exact c_ret ⟨_, res_tmp Try.results72 rfl, rfl⟩
set_option maxHeartbeats 4000000 in
theorem rcheck_any (f : Fr) (cs : List Value) (w : World) (hf : FrC (fun p x => w.cell? p = some x) f cs) (hbig : f.data.length ≤ 9223372036854775807) : Gives tb 51 [.agg cs.toArray] w (.int .i64 (if fok f = true then 0 else 20)) := by
 obtain ⟨rv, dv, rfl, hr0, hd⟩ := hf
 obtain ⟨rb, rc, rfl, -, -, -⟩ := id hr0
 obtain ⟨db, dc, rfl, -, -, -⟩ := hd
 have hrg := fun w' (kp : Keep w w' []) => rranges_any f.rs _ w' (slc_keep hr0 kp)
 clear hr0
 refine gives_of (fn := Try.f51) Try.func51 rfl Try.ntmps51 rfl ?_
 repeat refine c_seq ?_
 refine c_region ?_
 refine step_box_agg rfl rfl (fun b1 => ?_)
 refine qa rfl rfl ?_
 refine step_nil ?_
 repeat refine c_seq ?_
 refine c_region ?_
 refine step_pure rfl (pure_fieldAddr rfl rfl rfl rfl rfl (by decide)) ?_
 refine step_pure rfl (pure_load (i := 0) rfl rfl rfl rfl rfl rfl) ?_
 refine step_gives rfl fun71 rfl (fun w _ _ => rwithin_any _ w) ?_
 refine qa rfl rfl ?_
 refine step_nil ?_
 repeat refine c_seq ?_
 refine c_region ?_
 refine qa rfl rfl ?_
 refine step_nil ?_
 repeat refine c_seq ?_
 refine c_region ?_
 refine step_pure rfl (pure_fieldAddr rfl rfl rfl rfl rfl (by decide)) ?_
 refine step_pure rfl (pure_load (i := 0) rfl rfl rfl rfl rfl rfl) ?_
 refine step_nil ?_
 have hA : inB f.a 0 M62 = (decide (0 ≤ f.a) && decide (f.a ≤ 4611686018427387903)) := rfl
 rw [hA]
 clear hA
 repeat refine c_seq ?_
 refine c_meet [(4, .bool (fok f))] [] ?_ ?_
 ·repeat refine c_seq ?_
  refine c_block ?_
  repeat refine c_seq ?_
  refine c_region ?_
  refine step_pure rfl (pure_eql rfl rfl) ?_
  refine qa rfl rfl ?_
  refine step_nil ?_
  repeat refine c_seq ?_
  refine c_cond rfl (fun h => ?_) (fun h => ?_)
  ·have K := fok0 (eq_of_beq h)
   clear h
   repeat refine c_seq ?_
   refine c_region ?_
   refine step_pure rfl (pure_fieldAddr rfl rfl rfl rfl rfl (by decide)) ?_
   refine step_pure rfl (pure_load (i := 0) rfl rfl rfl rfl rfl rfl) ?_
   refine step_pure rfl (pure_geq rfl rfl) ?_
   refine qm rfl rfl ?_
   refine step_split (t := 16) rfl (fun h16 => ?_) (fun h16 => ?_)
   ·refine step_pure rfl (pure_fieldAddr rfl rfl rfl rfl rfl (by decide)) ?_
    refine step_pure rfl (pure_load (i := 0) rfl rfl rfl rfl rfl rfl) ?_
    refine step_pure rfl (pure_leq rfl rfl) ?_
    refine step_pure rfl (pure_pick_yes rfl rfl) ?_
    refine qm rfl rfl ?_
    refine step_split (t := 21) rfl (fun h21 => ?_) (fun h21 => ?_)
    ·refine step_pure rfl (pure_fieldAddr rfl rfl rfl rfl rfl (by decide)) ?_
     refine step_pure rfl (pure_load (i := 0) rfl rfl rfl rfl rfl rfl) ?_
     refine step_pure rfl (pure_eql rfl rfl) ?_
     refine step_pure rfl (pure_pick_yes rfl rfl) ?_
     refine qm rfl rfl ?_
     refine step_split (t := 26) rfl (fun h26 => ?_) (fun h26 => ?_)
     ·refine step_pure rfl (pure_fieldAddr rfl rfl rfl rfl rfl (by decide)) ?_
      refine step_pure rfl (pure_load (i := 0) rfl rfl rfl rfl rfl rfl) ?_
      refine step_pure rfl (pure_len_slice rfl rfl rfl) ?_
      refine step_pure rfl (pure_eql rfl rfl) ?_
      refine step_pure rfl (pure_pick_yes rfl rfl) ?_
      refine qm rfl rfl ?_
      refine step_split (t := 32) rfl (fun h32 => ?_) (fun h32 => ?_)
      ·refine step_pure rfl (pure_fieldAddr rfl rfl rfl rfl rfl (by decide)) ?_
       refine step_pure rfl (pure_load (i := 0) rfl rfl rfl rfl rfl rfl) ?_
       refine step_pure rfl (pure_len_slice rfl rfl rfl) ?_
       refine step_pure rfl (pure_eql rfl rfl) ?_
       refine step_pure rfl (pure_pick_yes rfl rfl) ?_
       refine qa rfl rfl ?_
       refine step_nil ?_
       refine less_sub ⟨congrArg some (congrArg Value.bool ?_), trivial⟩ (List.nil_sublist _)
       clear hrg
       rw [Bool.eq_iff_iff, K]
       clear K
       simp_all <;> omega
      ·refine qp rfl rfl rfl ?_
       refine qp rfl rfl rfl ?_
       refine qp rfl rfl rfl ?_
       refine qp rfl rfl rfl ?_
       refine step_pure rfl (pure_pick_no rfl rfl) ?_
       refine qa rfl rfl ?_
       refine step_nil ?_
       refine less_sub ⟨congrArg some (congrArg Value.bool ?_), trivial⟩ (List.nil_sublist _)
       clear hrg
       rw [Bool.eq_iff_iff, K]
       clear K
       simp_all <;> omega
     ·refine qp rfl rfl rfl ?_
      refine qp rfl rfl rfl ?_
      refine qp rfl rfl rfl ?_
      refine qp rfl rfl rfl ?_
      refine step_pure rfl (pure_pick_no rfl rfl) ?_
      refine qm rfl rfl ?_
      refine qp rfl rfl rfl ?_
      refine qp rfl rfl rfl ?_
      refine qp rfl rfl rfl ?_
      refine qp rfl rfl rfl ?_
      refine step_pure rfl (pure_pick_no rfl rfl) ?_
      refine qa rfl rfl ?_
      refine step_nil ?_
      refine less_sub ⟨congrArg some (congrArg Value.bool ?_), trivial⟩ (List.nil_sublist _)
      clear hrg
      rw [Bool.eq_iff_iff, K]
      clear K
      simp_all <;> omega
    ·refine qp rfl rfl rfl ?_
     refine qp rfl rfl rfl ?_
     refine qp rfl rfl rfl ?_
     refine step_pure rfl (pure_pick_no rfl rfl) ?_
     refine qm rfl rfl ?_
     refine qp rfl rfl rfl ?_
     refine qp rfl rfl rfl ?_
     refine qp rfl rfl rfl ?_
     refine qp rfl rfl rfl ?_
     refine step_pure rfl (pure_pick_no rfl rfl) ?_
     refine qm rfl rfl ?_
     refine qp rfl rfl rfl ?_
     refine qp rfl rfl rfl ?_
     refine qp rfl rfl rfl ?_
     refine qp rfl rfl rfl ?_
     refine step_pure rfl (pure_pick_no rfl rfl) ?_
     refine qa rfl rfl ?_
     refine step_nil ?_
     refine less_sub ⟨congrArg some (congrArg Value.bool ?_), trivial⟩ (List.nil_sublist _)
     clear hrg
     rw [Bool.eq_iff_iff, K]
     clear K
     simp_all <;> omega
   ·refine qp rfl rfl rfl ?_
    refine qp rfl rfl rfl ?_
    refine qp rfl rfl rfl ?_
    refine step_pure rfl (pure_pick_no rfl rfl) ?_
    refine qm rfl rfl ?_
    refine qp rfl rfl rfl ?_
    refine qp rfl rfl rfl ?_
    refine qp rfl rfl rfl ?_
    refine step_pure rfl (pure_pick_no rfl rfl) ?_
    refine qm rfl rfl ?_
    refine qp rfl rfl rfl ?_
    refine qp rfl rfl rfl ?_
    refine qp rfl rfl rfl ?_
    refine qp rfl rfl rfl ?_
    refine step_pure rfl (pure_pick_no rfl rfl) ?_
    refine qm rfl rfl ?_
    refine qp rfl rfl rfl ?_
    refine qp rfl rfl rfl ?_
    refine qp rfl rfl rfl ?_
    refine qp rfl rfl rfl ?_
    refine step_pure rfl (pure_pick_no rfl rfl) ?_
    refine qa rfl rfl ?_
    refine step_nil ?_
    refine less_sub ⟨congrArg some (congrArg Value.bool ?_), trivial⟩ (List.nil_sublist _)
    clear hrg
    rw [Bool.eq_iff_iff, K]
    clear K
    simp_all <;> omega
  ·have h0 := ne_of_beq_false h
   clear h
   repeat refine c_seq ?_
   refine c_region ?_
   refine step_pure rfl (pure_eql rfl rfl) ?_
   refine qa rfl rfl ?_
   refine step_nil ?_
   repeat refine c_seq ?_
   refine c_cond rfl (fun h => ?_) (fun h => ?_)
   ·have K := fok1 (eq_of_beq h)
    clear h
    repeat refine c_seq ?_
    refine c_region ?_
    refine step_pure rfl (pure_fieldAddr rfl rfl rfl rfl rfl (by decide)) ?_
    refine step_pure rfl (pure_load (i := 0) rfl rfl rfl rfl rfl rfl) ?_
    refine step_pure rfl (pure_eql rfl rfl) ?_
    refine qm rfl rfl ?_
    refine step_split (t := 43) rfl (fun h43 => ?_) (fun h43 => ?_)
    ·refine step_pure rfl (pure_fieldAddr rfl rfl rfl rfl rfl (by decide)) ?_
     refine step_pure rfl (pure_load (i := 0) rfl rfl rfl rfl rfl rfl) ?_
     refine step_pure rfl (pure_eql rfl rfl) ?_
     refine step_pure rfl (pure_pick_yes rfl rfl) ?_
     refine qm rfl rfl ?_
     refine step_split (t := 48) rfl (fun h48 => ?_) (fun h48 => ?_)
     ·refine step_pure rfl (pure_fieldAddr rfl rfl rfl rfl rfl (by decide)) ?_
      refine step_pure rfl (pure_load (i := 0) rfl rfl rfl rfl rfl rfl) ?_
      refine step_pure rfl (pure_len_slice rfl rfl rfl) ?_
      refine step_pure rfl (pure_eql rfl rfl) ?_
      refine step_pure rfl (pure_pick_yes rfl rfl) ?_
      refine qm rfl rfl ?_
      refine step_split (t := 54) rfl (fun h54 => ?_) (fun h54 => ?_)
      ·refine step_pure rfl (pure_fieldAddr rfl rfl rfl rfl rfl (by decide)) ?_
       refine step_pure rfl (pure_load (i := 0) rfl rfl rfl rfl rfl rfl) ?_
       refine step_pure rfl (pure_len_slice rfl rfl rfl) ?_
       refine step_pure rfl (pure_eql rfl rfl) ?_
       refine step_pure rfl (pure_pick_yes rfl rfl) ?_
       refine qa rfl rfl ?_
       refine step_nil ?_
       refine less_sub ⟨congrArg some (congrArg Value.bool ?_), trivial⟩ (List.nil_sublist _)
       clear hrg
       rw [Bool.eq_iff_iff, K]
       clear K
       simp_all
      ·refine qp rfl rfl rfl ?_
       refine qp rfl rfl rfl ?_
       refine qp rfl rfl rfl ?_
       refine qp rfl rfl rfl ?_
       refine step_pure rfl (pure_pick_no rfl rfl) ?_
       refine qa rfl rfl ?_
       refine step_nil ?_
       refine less_sub ⟨congrArg some (congrArg Value.bool ?_), trivial⟩ (List.nil_sublist _)
       clear hrg
       rw [Bool.eq_iff_iff, K]
       clear K
       simp_all
     ·refine qp rfl rfl rfl ?_
      refine qp rfl rfl rfl ?_
      refine qp rfl rfl rfl ?_
      refine qp rfl rfl rfl ?_
      refine step_pure rfl (pure_pick_no rfl rfl) ?_
      refine qm rfl rfl ?_
      refine qp rfl rfl rfl ?_
      refine qp rfl rfl rfl ?_
      refine qp rfl rfl rfl ?_
      refine qp rfl rfl rfl ?_
      refine step_pure rfl (pure_pick_no rfl rfl) ?_
      refine qa rfl rfl ?_
      refine step_nil ?_
      refine less_sub ⟨congrArg some (congrArg Value.bool ?_), trivial⟩ (List.nil_sublist _)
      clear hrg
      rw [Bool.eq_iff_iff, K]
      clear K
      simp_all
    ·refine qp rfl rfl rfl ?_
     refine qp rfl rfl rfl ?_
     refine qp rfl rfl rfl ?_
     refine step_pure rfl (pure_pick_no rfl rfl) ?_
     refine qm rfl rfl ?_
     refine qp rfl rfl rfl ?_
     refine qp rfl rfl rfl ?_
     refine qp rfl rfl rfl ?_
     refine qp rfl rfl rfl ?_
     refine step_pure rfl (pure_pick_no rfl rfl) ?_
     refine qm rfl rfl ?_
     refine qp rfl rfl rfl ?_
     refine qp rfl rfl rfl ?_
     refine qp rfl rfl rfl ?_
     refine qp rfl rfl rfl ?_
     refine step_pure rfl (pure_pick_no rfl rfl) ?_
     refine qa rfl rfl ?_
     refine step_nil ?_
     refine less_sub ⟨congrArg some (congrArg Value.bool ?_), trivial⟩ (List.nil_sublist _)
     clear hrg
     rw [Bool.eq_iff_iff, K]
     clear K
     simp_all
   ·have h1 := ne_of_beq_false h
    clear h
    repeat refine c_seq ?_
    refine c_region ?_
    refine step_pure rfl (pure_eql rfl rfl) ?_
    refine qa rfl rfl ?_
    refine step_nil ?_
    repeat refine c_seq ?_
    refine c_cond rfl (fun h => ?_) (fun h => ?_)
    ·have K := fok2 (eq_of_beq h)
     clear h
     repeat refine c_seq ?_
     refine c_region ?_
     refine step_pure rfl (pure_fieldAddr rfl rfl rfl rfl rfl (by decide)) ?_
     refine step_pure rfl (pure_load (i := 0) rfl rfl rfl rfl rfl rfl) ?_
     refine step_gives rfl fun72 rfl (fun w' _ kp => hrg w' kp) ?_
     refine qa rfl rfl ?_
     refine step_nil ?_
     clear hrg
     generalize rgOk f.rs = ro at K ⊢
     repeat refine c_seq ?_
     refine c_region ?_
     refine qm rfl rfl ?_
     refine qm rfl rfl ?_
     refine step_split (t := 66) rfl (fun h66 => ?_) (fun h66 => ?_)
     ·refine step_pure rfl (pure_fieldAddr rfl rfl rfl rfl rfl (by decide)) ?_
      refine step_pure rfl (pure_load (i := 0) rfl rfl rfl rfl rfl rfl) ?_
      refine step_pure rfl (pure_eql rfl rfl) ?_
      refine step_pure rfl (pure_pick_yes rfl rfl) ?_
      refine qm rfl rfl ?_
      refine step_split (t := 71) rfl (fun h71 => ?_) (fun h71 => ?_)
      ·refine qm rfl rfl ?_
       refine step_pure rfl (pure_pick_yes rfl rfl) ?_
       refine qm rfl rfl ?_
       refine step_split (t := 74) rfl (fun h74 => ?_) (fun h74 => ?_)
       ·refine step_pure rfl (pure_fieldAddr rfl rfl rfl rfl rfl (by decide)) ?_
        refine step_pure rfl (pure_load (i := 0) rfl rfl rfl rfl rfl rfl) ?_
        refine step_pure rfl (pure_len_slice rfl rfl rfl) ?_
        refine step_pure rfl (pure_eql rfl rfl) ?_
        refine step_pure rfl (pure_pick_yes rfl rfl) ?_
        refine qa rfl rfl ?_
        refine step_nil ?_
        refine less_sub ⟨congrArg some (congrArg Value.bool ?_), trivial⟩ (List.nil_sublist _)
        rw [Bool.eq_iff_iff, K]
        clear K
        simp_all <;> omega
       ·refine qp rfl rfl rfl ?_
        refine qp rfl rfl rfl ?_
        refine qp rfl rfl rfl ?_
        refine qp rfl rfl rfl ?_
        refine step_pure rfl (pure_pick_no rfl rfl) ?_
        refine qa rfl rfl ?_
        refine step_nil ?_
        refine less_sub ⟨congrArg some (congrArg Value.bool ?_), trivial⟩ (List.nil_sublist _)
        rw [Bool.eq_iff_iff, K]
        clear K
        simp_all <;> omega
      ·refine qp rfl rfl rfl ?_
       refine step_pure rfl (pure_pick_no rfl rfl) ?_
       refine qm rfl rfl ?_
       refine qp rfl rfl rfl ?_
       refine qp rfl rfl rfl ?_
       refine qp rfl rfl rfl ?_
       refine qp rfl rfl rfl ?_
       refine step_pure rfl (pure_pick_no rfl rfl) ?_
       refine qa rfl rfl ?_
       refine step_nil ?_
       refine less_sub ⟨congrArg some (congrArg Value.bool ?_), trivial⟩ (List.nil_sublist _)
       rw [Bool.eq_iff_iff, K]
       clear K
       simp_all <;> omega
     ·refine qp rfl rfl rfl ?_
      refine qp rfl rfl rfl ?_
      refine qp rfl rfl rfl ?_
      refine step_pure rfl (pure_pick_no rfl rfl) ?_
      refine qm rfl rfl ?_
      refine qp rfl rfl rfl ?_
      refine step_pure rfl (pure_pick_no rfl rfl) ?_
      refine qm rfl rfl ?_
      refine qp rfl rfl rfl ?_
      refine qp rfl rfl rfl ?_
      refine qp rfl rfl rfl ?_
      refine qp rfl rfl rfl ?_
      refine step_pure rfl (pure_pick_no rfl rfl) ?_
      refine qa rfl rfl ?_
      refine step_nil ?_
      refine less_sub ⟨congrArg some (congrArg Value.bool ?_), trivial⟩ (List.nil_sublist _)
      rw [Bool.eq_iff_iff, K]
      clear K
      simp_all <;> omega
    ·have h2 := ne_of_beq_false h
     clear h
     repeat refine c_seq ?_
     refine c_region ?_
     refine step_pure rfl (pure_eql rfl rfl) ?_
     refine qa rfl rfl ?_
     refine step_nil ?_
     repeat refine c_seq ?_
     refine c_cond rfl (fun h => ?_) (fun h => ?_)
     ·have K := fok3 (eq_of_beq h)
      clear h
      repeat refine c_seq ?_
      refine c_region ?_
      refine qm rfl rfl ?_
      refine qm rfl rfl ?_
      refine step_split (t := 83) rfl (fun h83 => ?_) (fun h83 => ?_)
      ·refine step_pure rfl (pure_fieldAddr rfl rfl rfl rfl rfl (by decide)) ?_
       refine step_pure rfl (pure_load (i := 0) rfl rfl rfl rfl rfl rfl) ?_
       refine step_pure rfl (pure_fieldAddr rfl rfl rfl rfl rfl (by decide)) ?_
       refine step_pure rfl (pure_load (i := 0) rfl rfl rfl rfl rfl rfl) ?_
       refine step_pure rfl (pure_lss rfl rfl) ?_
       refine step_pure rfl (pure_pick_yes rfl rfl) ?_
       refine qm rfl rfl ?_
       refine step_split (t := 90) rfl (fun h90 => ?_) (fun h90 => ?_)
       ·refine step_pure rfl (pure_fieldAddr rfl rfl rfl rfl rfl (by decide)) ?_
        refine step_pure rfl (pure_load (i := 0) rfl rfl rfl rfl rfl rfl) ?_
        refine step_pure rfl (pure_lss rfl rfl) ?_
        refine step_pure rfl (pure_pick_yes rfl rfl) ?_
        refine qm rfl rfl ?_
        refine step_split (t := 95) rfl (fun h95 => ?_) (fun h95 => ?_)
        ·refine step_pure rfl (pure_fieldAddr rfl rfl rfl rfl rfl (by decide)) ?_
         refine step_pure rfl (pure_load (i := 0) rfl rfl rfl rfl rfl rfl) ?_
         refine step_pure rfl (pure_len_slice rfl rfl rfl) ?_
         refine step_pure rfl (pure_eql rfl rfl) ?_
         refine step_pure rfl (pure_pick_yes rfl rfl) ?_
         refine qm rfl rfl ?_
         refine step_split (t := 101) rfl (fun h101 => ?_) (fun h101 => ?_)
         ·refine step_pure rfl (pure_fieldAddr rfl rfl rfl rfl rfl (by decide)) ?_
          refine step_pure rfl (pure_load (i := 0) rfl rfl rfl rfl rfl rfl) ?_
          refine step_pure rfl (pure_len_slice rfl rfl rfl) ?_
          refine step_pure rfl (pure_leq rfl rfl) ?_
          refine step_pure rfl (pure_pick_yes rfl rfl) ?_
          refine qa rfl rfl ?_
          refine step_nil ?_
          refine less_sub ⟨congrArg some (congrArg Value.bool ?_), trivial⟩ (List.nil_sublist _)
          clear hrg
          rw [Bool.eq_iff_iff, K]
          clear K
          simp_all <;> omega
         ·refine qp rfl rfl rfl ?_
          refine qp rfl rfl rfl ?_
          refine qp rfl rfl rfl ?_
          refine qp rfl rfl rfl ?_
          refine step_pure rfl (pure_pick_no rfl rfl) ?_
          refine qa rfl rfl ?_
          refine step_nil ?_
          refine less_sub ⟨congrArg some (congrArg Value.bool ?_), trivial⟩ (List.nil_sublist _)
          clear hrg
          rw [Bool.eq_iff_iff, K]
          clear K
          simp_all <;> omega
        ·refine qp rfl rfl rfl ?_
         refine qp rfl rfl rfl ?_
         refine qp rfl rfl rfl ?_
         refine qp rfl rfl rfl ?_
         refine step_pure rfl (pure_pick_no rfl rfl) ?_
         refine qm rfl rfl ?_
         refine qp rfl rfl rfl ?_
         refine qp rfl rfl rfl ?_
         refine qp rfl rfl rfl ?_
         refine qp rfl rfl rfl ?_
         refine step_pure rfl (pure_pick_no rfl rfl) ?_
         refine qa rfl rfl ?_
         refine step_nil ?_
         refine less_sub ⟨congrArg some (congrArg Value.bool ?_), trivial⟩ (List.nil_sublist _)
         clear hrg
         rw [Bool.eq_iff_iff, K]
         clear K
         simp_all <;> omega
       ·refine qp rfl rfl rfl ?_
        refine qp rfl rfl rfl ?_
        refine qp rfl rfl rfl ?_
        refine step_pure rfl (pure_pick_no rfl rfl) ?_
        refine qm rfl rfl ?_
        refine qp rfl rfl rfl ?_
        refine qp rfl rfl rfl ?_
        refine qp rfl rfl rfl ?_
        refine qp rfl rfl rfl ?_
        refine step_pure rfl (pure_pick_no rfl rfl) ?_
        refine qm rfl rfl ?_
        refine qp rfl rfl rfl ?_
        refine qp rfl rfl rfl ?_
        refine qp rfl rfl rfl ?_
        refine qp rfl rfl rfl ?_
        refine step_pure rfl (pure_pick_no rfl rfl) ?_
        refine qa rfl rfl ?_
        refine step_nil ?_
        refine less_sub ⟨congrArg some (congrArg Value.bool ?_), trivial⟩ (List.nil_sublist _)
        clear hrg
        rw [Bool.eq_iff_iff, K]
        clear K
        simp_all <;> omega
      ·refine qp rfl rfl rfl ?_
       refine qp rfl rfl rfl ?_
       refine qp rfl rfl rfl ?_
       refine qp rfl rfl rfl ?_
       refine qp rfl rfl rfl ?_
       refine step_pure rfl (pure_pick_no rfl rfl) ?_
       refine qm rfl rfl ?_
       refine qp rfl rfl rfl ?_
       refine qp rfl rfl rfl ?_
       refine qp rfl rfl rfl ?_
       refine step_pure rfl (pure_pick_no rfl rfl) ?_
       refine qm rfl rfl ?_
       refine qp rfl rfl rfl ?_
       refine qp rfl rfl rfl ?_
       refine qp rfl rfl rfl ?_
       refine qp rfl rfl rfl ?_
       refine step_pure rfl (pure_pick_no rfl rfl) ?_
       refine qm rfl rfl ?_
       refine qp rfl rfl rfl ?_
       refine qp rfl rfl rfl ?_
       refine qp rfl rfl rfl ?_
       refine qp rfl rfl rfl ?_
       refine step_pure rfl (pure_pick_no rfl rfl) ?_
       refine qa rfl rfl ?_
       refine step_nil ?_
       refine less_sub ⟨congrArg some (congrArg Value.bool ?_), trivial⟩ (List.nil_sublist _)
       clear hrg
       rw [Bool.eq_iff_iff, K]
       clear K
       simp_all <;> omega
     ·have h3 := ne_of_beq_false h
      clear h
      repeat refine c_seq ?_
      refine c_region ?_
      refine step_pure rfl (pure_eql rfl rfl) ?_
      refine qa rfl rfl ?_
      refine step_nil ?_
      repeat refine c_seq ?_
      refine c_cond rfl (fun h => ?_) (fun h => ?_)
      ·have K := fok4 (eq_of_beq h)
       clear h
       have hdl : f.data ≠ [] ↔ 0 < f.data.length := by rw [List.length_pos_iff]
       rw [hdl] at K
       clear hdl
       repeat refine c_seq ?_
       refine c_region ?_
       refine qm rfl rfl ?_
       refine qm rfl rfl ?_
       refine step_split (t := 110) rfl (fun h110 => ?_) (fun h110 => ?_)
       ·refine step_pure rfl (pure_fieldAddr rfl rfl rfl rfl rfl (by decide)) ?_
        refine step_pure rfl (pure_load (i := 0) rfl rfl rfl rfl rfl rfl) ?_
        refine step_pure rfl (pure_eql rfl rfl) ?_
        refine step_pure rfl (pure_pick_yes rfl rfl) ?_
        refine qm rfl rfl ?_
        refine step_split (t := 115) rfl (fun h115 => ?_) (fun h115 => ?_)
        ·refine step_pure rfl (pure_fieldAddr rfl rfl rfl rfl rfl (by decide)) ?_
         refine step_pure rfl (pure_load (i := 0) rfl rfl rfl rfl rfl rfl) ?_
         refine step_pure rfl (pure_len_slice rfl rfl rfl) ?_
         refine step_pure rfl (pure_eql rfl rfl) ?_
         refine step_pure rfl (pure_pick_yes rfl rfl) ?_
         refine qm rfl rfl ?_
         refine step_split (t := 121) rfl (fun h121 => ?_) (fun h121 => ?_)
         ·refine step_pure rfl (pure_fieldAddr rfl rfl rfl rfl rfl (by decide)) ?_
          refine step_pure rfl (pure_load (i := 0) rfl rfl rfl rfl rfl rfl) ?_
          refine step_pure rfl (pure_len_slice rfl rfl rfl) ?_
          refine step_pure rfl (pure_geq rfl rfl) ?_
          refine step_pure rfl (pure_pick_yes rfl rfl) ?_
          refine qm rfl rfl ?_
          refine step_split (t := 127) rfl (fun h127 => ?_) (fun h127 => ?_)
          ·refine step_pure rfl (pure_fieldAddr rfl rfl rfl rfl rfl (by decide)) ?_
           refine step_pure rfl (pure_load (i := 0) rfl rfl rfl rfl rfl rfl) ?_
           refine step_pure rfl (pure_len_slice rfl rfl rfl) ?_
           refine step_pure rfl (pure_leq rfl rfl) ?_
           refine step_pure rfl (pure_pick_yes rfl rfl) ?_
           refine qm rfl rfl ?_
           refine step_split (t := 133) rfl (fun h133 => ?_) (fun h133 => ?_)
           ·refine step_pure rfl (pure_fieldAddr rfl rfl rfl rfl rfl (by decide)) ?_
            refine step_pure rfl (pure_load (i := 0) rfl rfl rfl rfl rfl rfl) ?_
            refine step_pure rfl (pure_fieldAddr rfl rfl rfl rfl rfl (by decide)) ?_
            refine step_pure rfl (pure_load (i := 0) rfl rfl rfl rfl rfl rfl) ?_
            refine step_pure rfl (pure_len_slice rfl rfl rfl) ?_
            refine step_pure rfl (pure_sub64 rfl rfl (by omega) (by omega)) ?_
            refine step_pure rfl (pure_leq rfl rfl) ?_
            refine step_pure rfl (pure_pick_yes rfl rfl) ?_
            refine qa rfl rfl ?_
            refine step_nil ?_
            refine less_sub ⟨congrArg some (congrArg Value.bool ?_), trivial⟩ (List.nil_sublist _)
            clear hrg
            rw [Bool.eq_iff_iff, K]
            clear K
            generalize f.data.length = dl at *
            simp_all <;> omega
           ·refine qp rfl rfl rfl ?_
            refine qp rfl rfl rfl ?_
            refine qp rfl rfl rfl ?_
            refine qp rfl rfl rfl ?_
            refine qp rfl rfl rfl ?_
            refine qp rfl rfl rfl ?_
            refine qp rfl rfl rfl ?_
            refine step_pure rfl (pure_pick_no rfl rfl) ?_
            refine qa rfl rfl ?_
            refine step_nil ?_
            refine less_sub ⟨congrArg some (congrArg Value.bool ?_), trivial⟩ (List.nil_sublist _)
            clear hrg
            rw [Bool.eq_iff_iff, K]
            clear K
            generalize f.data.length = dl at *
            simp_all <;> omega
          ·refine qp rfl rfl rfl ?_
           refine qp rfl rfl rfl ?_
           refine qp rfl rfl rfl ?_
           refine qp rfl rfl rfl ?_
           refine step_pure rfl (pure_pick_no rfl rfl) ?_
           refine qm rfl rfl ?_
           refine qp rfl rfl rfl ?_
           refine qp rfl rfl rfl ?_
           refine qp rfl rfl rfl ?_
           refine qp rfl rfl rfl ?_
           refine qp rfl rfl rfl ?_
           refine qp rfl rfl rfl ?_
           refine qp rfl rfl rfl ?_
           refine step_pure rfl (pure_pick_no rfl rfl) ?_
           refine qa rfl rfl ?_
           refine step_nil ?_
           refine less_sub ⟨congrArg some (congrArg Value.bool ?_), trivial⟩ (List.nil_sublist _)
           clear hrg
           rw [Bool.eq_iff_iff, K]
           clear K
           generalize f.data.length = dl at *
           simp_all <;> omega
         ·refine qp rfl rfl rfl ?_
          refine qp rfl rfl rfl ?_
          refine qp rfl rfl rfl ?_
          refine qp rfl rfl rfl ?_
          refine step_pure rfl (pure_pick_no rfl rfl) ?_
          refine qm rfl rfl ?_
          refine qp rfl rfl rfl ?_
          refine qp rfl rfl rfl ?_
          refine qp rfl rfl rfl ?_
          refine qp rfl rfl rfl ?_
          refine step_pure rfl (pure_pick_no rfl rfl) ?_
          refine qm rfl rfl ?_
          refine qp rfl rfl rfl ?_
          refine qp rfl rfl rfl ?_
          refine qp rfl rfl rfl ?_
          refine qp rfl rfl rfl ?_
          refine qp rfl rfl rfl ?_
          refine qp rfl rfl rfl ?_
          refine qp rfl rfl rfl ?_
          refine step_pure rfl (pure_pick_no rfl rfl) ?_
          refine qa rfl rfl ?_
          refine step_nil ?_
          refine less_sub ⟨congrArg some (congrArg Value.bool ?_), trivial⟩ (List.nil_sublist _)
          clear hrg
          rw [Bool.eq_iff_iff, K]
          clear K
          generalize f.data.length = dl at *
          simp_all <;> omega
        ·refine qp rfl rfl rfl ?_
         refine qp rfl rfl rfl ?_
         refine qp rfl rfl rfl ?_
         refine qp rfl rfl rfl ?_
         refine step_pure rfl (pure_pick_no rfl rfl) ?_
         refine qm rfl rfl ?_
         refine qp rfl rfl rfl ?_
         refine qp rfl rfl rfl ?_
         refine qp rfl rfl rfl ?_
         refine qp rfl rfl rfl ?_
         refine step_pure rfl (pure_pick_no rfl rfl) ?_
         refine qm rfl rfl ?_
         refine qp rfl rfl rfl ?_
         refine qp rfl rfl rfl ?_
         refine qp rfl rfl rfl ?_
         refine qp rfl rfl rfl ?_
         refine step_pure rfl (pure_pick_no rfl rfl) ?_
         refine qm rfl rfl ?_
         refine qp rfl rfl rfl ?_
         refine qp rfl rfl rfl ?_
         refine qp rfl rfl rfl ?_
         refine qp rfl rfl rfl ?_
         refine qp rfl rfl rfl ?_
         refine qp rfl rfl rfl ?_
         refine qp rfl rfl rfl ?_
         refine step_pure rfl (pure_pick_no rfl rfl) ?_
         refine qa rfl rfl ?_
         refine step_nil ?_
         refine less_sub ⟨congrArg some (congrArg Value.bool ?_), trivial⟩ (List.nil_sublist _)
         clear hrg
         rw [Bool.eq_iff_iff, K]
         clear K
         generalize f.data.length = dl at *
         simp_all <;> omega
       ·refine qp rfl rfl rfl ?_
        refine qp rfl rfl rfl ?_
        refine qp rfl rfl rfl ?_
        refine step_pure rfl (pure_pick_no rfl rfl) ?_
        refine qm rfl rfl ?_
        refine qp rfl rfl rfl ?_
        refine qp rfl rfl rfl ?_
        refine qp rfl rfl rfl ?_
        refine qp rfl rfl rfl ?_
        refine step_pure rfl (pure_pick_no rfl rfl) ?_
        refine qm rfl rfl ?_
        refine qp rfl rfl rfl ?_
        refine qp rfl rfl rfl ?_
        refine qp rfl rfl rfl ?_
        refine qp rfl rfl rfl ?_
        refine step_pure rfl (pure_pick_no rfl rfl) ?_
        refine qm rfl rfl ?_
        refine qp rfl rfl rfl ?_
        refine qp rfl rfl rfl ?_
        refine qp rfl rfl rfl ?_
        refine qp rfl rfl rfl ?_
        refine step_pure rfl (pure_pick_no rfl rfl) ?_
        refine qm rfl rfl ?_
        refine qp rfl rfl rfl ?_
        refine qp rfl rfl rfl ?_
        refine qp rfl rfl rfl ?_
        refine qp rfl rfl rfl ?_
        refine qp rfl rfl rfl ?_
        refine qp rfl rfl rfl ?_
        refine qp rfl rfl rfl ?_
        refine step_pure rfl (pure_pick_no rfl rfl) ?_
        refine qa rfl rfl ?_
        refine step_nil ?_
        refine less_sub ⟨congrArg some (congrArg Value.bool ?_), trivial⟩ (List.nil_sublist _)
        clear hrg
        rw [Bool.eq_iff_iff, K]
        clear K
        generalize f.data.length = dl at *
        simp_all <;> omega
      ·have h4 := ne_of_beq_false h
       clear h
       repeat refine c_seq ?_
       refine c_region ?_
       refine step_pure rfl (pure_eql rfl rfl) ?_
       refine qa rfl rfl ?_
       refine step_nil ?_
       repeat refine c_seq ?_
       refine c_cond rfl (fun h => ?_) (fun h => ?_)
       ·have K := fok5 (eq_of_beq h)
        clear h
        repeat refine c_seq ?_
        refine c_region ?_
        refine step_pure rfl (pure_fieldAddr rfl rfl rfl rfl rfl (by decide)) ?_
        refine step_pure rfl (pure_load (i := 0) rfl rfl rfl rfl rfl rfl) ?_
        refine step_pure rfl (pure_geq rfl rfl) ?_
        refine qm rfl rfl ?_
        refine step_split (t := 147) rfl (fun h147 => ?_) (fun h147 => ?_)
        ·refine step_pure rfl (pure_fieldAddr rfl rfl rfl rfl rfl (by decide)) ?_
         refine step_pure rfl (pure_load (i := 0) rfl rfl rfl rfl rfl rfl) ?_
         refine step_pure rfl (pure_leq rfl rfl) ?_
         refine step_pure rfl (pure_pick_yes rfl rfl) ?_
         refine qm rfl rfl ?_
         refine step_split (t := 152) rfl (fun h152 => ?_) (fun h152 => ?_)
         ·refine step_pure rfl (pure_fieldAddr rfl rfl rfl rfl rfl (by decide)) ?_
          refine step_pure rfl (pure_load (i := 0) rfl rfl rfl rfl rfl rfl) ?_
          refine step_pure rfl (pure_geq rfl rfl) ?_
          refine step_pure rfl (pure_pick_yes rfl rfl) ?_
          refine qm rfl rfl ?_
          refine step_split (t := 157) rfl (fun h157 => ?_) (fun h157 => ?_)
          ·refine step_pure rfl (pure_fieldAddr rfl rfl rfl rfl rfl (by decide)) ?_
           refine step_pure rfl (pure_load (i := 0) rfl rfl rfl rfl rfl rfl) ?_
           refine step_pure rfl (pure_leq rfl rfl) ?_
           refine step_pure rfl (pure_pick_yes rfl rfl) ?_
           refine qm rfl rfl ?_
           refine step_split (t := 162) rfl (fun h162 => ?_) (fun h162 => ?_)
           ·refine step_pure rfl (pure_fieldAddr rfl rfl rfl rfl rfl (by decide)) ?_
            refine step_pure rfl (pure_load (i := 0) rfl rfl rfl rfl rfl rfl) ?_
            refine step_pure rfl (pure_len_slice rfl rfl rfl) ?_
            refine step_pure rfl (pure_eql rfl rfl) ?_
            refine step_pure rfl (pure_pick_yes rfl rfl) ?_
            refine qm rfl rfl ?_
            refine step_split (t := 168) rfl (fun h168 => ?_) (fun h168 => ?_)
            ·refine step_pure rfl (pure_fieldAddr rfl rfl rfl rfl rfl (by decide)) ?_
             refine step_pure rfl (pure_load (i := 0) rfl rfl rfl rfl rfl rfl) ?_
             refine step_pure rfl (pure_len_slice rfl rfl rfl) ?_
             refine step_pure rfl (pure_eql rfl rfl) ?_
             refine step_pure rfl (pure_pick_yes rfl rfl) ?_
             refine qa rfl rfl ?_
             refine step_nil ?_
             refine less_sub ⟨congrArg some (congrArg Value.bool ?_), trivial⟩ (List.nil_sublist _)
             clear hrg
             rw [Bool.eq_iff_iff, K]
             clear K
             simp_all <;> omega
            ·refine qp rfl rfl rfl ?_
             refine qp rfl rfl rfl ?_
             refine qp rfl rfl rfl ?_
             refine qp rfl rfl rfl ?_
             refine step_pure rfl (pure_pick_no rfl rfl) ?_
             refine qa rfl rfl ?_
             refine step_nil ?_
             refine less_sub ⟨congrArg some (congrArg Value.bool ?_), trivial⟩ (List.nil_sublist _)
             clear hrg
             rw [Bool.eq_iff_iff, K]
             clear K
             simp_all <;> omega
           ·refine qp rfl rfl rfl ?_
            refine qp rfl rfl rfl ?_
            refine qp rfl rfl rfl ?_
            refine qp rfl rfl rfl ?_
            refine step_pure rfl (pure_pick_no rfl rfl) ?_
            refine qm rfl rfl ?_
            refine qp rfl rfl rfl ?_
            refine qp rfl rfl rfl ?_
            refine qp rfl rfl rfl ?_
            refine qp rfl rfl rfl ?_
            refine step_pure rfl (pure_pick_no rfl rfl) ?_
            refine qa rfl rfl ?_
            refine step_nil ?_
            refine less_sub ⟨congrArg some (congrArg Value.bool ?_), trivial⟩ (List.nil_sublist _)
            clear hrg
            rw [Bool.eq_iff_iff, K]
            clear K
            simp_all <;> omega
          ·refine qp rfl rfl rfl ?_
           refine qp rfl rfl rfl ?_
           refine qp rfl rfl rfl ?_
           refine step_pure rfl (pure_pick_no rfl rfl) ?_
           refine qm rfl rfl ?_
           refine qp rfl rfl rfl ?_
           refine qp rfl rfl rfl ?_
           refine qp rfl rfl rfl ?_
           refine qp rfl rfl rfl ?_
           refine step_pure rfl (pure_pick_no rfl rfl) ?_
           refine qm rfl rfl ?_
           refine qp rfl rfl rfl ?_
           refine qp rfl rfl rfl ?_
           refine qp rfl rfl rfl ?_
           refine qp rfl rfl rfl ?_
           refine step_pure rfl (pure_pick_no rfl rfl) ?_
           refine qa rfl rfl ?_
           refine step_nil ?_
           refine less_sub ⟨congrArg some (congrArg Value.bool ?_), trivial⟩ (List.nil_sublist _)
           clear hrg
           rw [Bool.eq_iff_iff, K]
           clear K
           simp_all <;> omega
         ·refine qp rfl rfl rfl ?_
          refine qp rfl rfl rfl ?_
          refine qp rfl rfl rfl ?_
          refine step_pure rfl (pure_pick_no rfl rfl) ?_
          refine qm rfl rfl ?_
          refine qp rfl rfl rfl ?_
          refine qp rfl rfl rfl ?_
          refine qp rfl rfl rfl ?_
          refine step_pure rfl (pure_pick_no rfl rfl) ?_
          refine qm rfl rfl ?_
          refine qp rfl rfl rfl ?_
          refine qp rfl rfl rfl ?_
          refine qp rfl rfl rfl ?_
          refine qp rfl rfl rfl ?_
          refine step_pure rfl (pure_pick_no rfl rfl) ?_
          refine qm rfl rfl ?_
          refine qp rfl rfl rfl ?_
          refine qp rfl rfl rfl ?_
          refine qp rfl rfl rfl ?_
          refine qp rfl rfl rfl ?_
          refine step_pure rfl (pure_pick_no rfl rfl) ?_
          refine qa rfl rfl ?_
          refine step_nil ?_
          refine less_sub ⟨congrArg some (congrArg Value.bool ?_), trivial⟩ (List.nil_sublist _)
          clear hrg
          rw [Bool.eq_iff_iff, K]
          clear K
          simp_all <;> omega
        ·refine qp rfl rfl rfl ?_
         refine qp rfl rfl rfl ?_
         refine qp rfl rfl rfl ?_
         refine step_pure rfl (pure_pick_no rfl rfl) ?_
         refine qm rfl rfl ?_
         refine qp rfl rfl rfl ?_
         refine qp rfl rfl rfl ?_
         refine qp rfl rfl rfl ?_
         refine step_pure rfl (pure_pick_no rfl rfl) ?_
         refine qm rfl rfl ?_
         refine qp rfl rfl rfl ?_
         refine qp rfl rfl rfl ?_
         refine qp rfl rfl rfl ?_
         refine step_pure rfl (pure_pick_no rfl rfl) ?_
         refine qm rfl rfl ?_
         refine qp rfl rfl rfl ?_
         refine qp rfl rfl rfl ?_
         refine qp rfl rfl rfl ?_
         refine qp rfl rfl rfl ?_
         refine step_pure rfl (pure_pick_no rfl rfl) ?_
         refine qm rfl rfl ?_
         refine qp rfl rfl rfl ?_
         refine qp rfl rfl rfl ?_
         refine qp rfl rfl rfl ?_
         refine qp rfl rfl rfl ?_
         refine step_pure rfl (pure_pick_no rfl rfl) ?_
         refine qa rfl rfl ?_
         refine step_nil ?_
         refine less_sub ⟨congrArg some (congrArg Value.bool ?_), trivial⟩ (List.nil_sublist _)
         clear hrg
         rw [Bool.eq_iff_iff, K]
         clear K
         simp_all <;> omega
       ·have h5 := ne_of_beq_false h
        clear h
        repeat refine c_seq ?_
        refine c_region ?_
        refine step_pure rfl (pure_eql rfl rfl) ?_
        refine qa rfl rfl ?_
        refine step_nil ?_
        repeat refine c_seq ?_
        refine c_meet [(1, .pointer (some ⟨b1, 0, none⟩)), (3, .bool (decide (0 ≤ f.a) && decide (f.a ≤ 4611686018427387903))), (4, .bool false), (174, .bool (f.kind == 6 || f.kind == 7))] [⟨b1, [.int .i64 f.kind, .int .i64 f.a, .int .i64 f.b, .slice rb f.rs.length rc, .slice db f.data.length dc], 59⟩] ?_ ?_
        ·repeat refine c_seq ?_
         refine c_cond rfl (fun h => ?_) (fun h => ?_)
         ·exact c_skip (less_of ⟨rfl, rfl, rfl, by rw [h]; rfl, trivial⟩ rfl)
         ·repeat refine c_seq ?_
          refine c_region ?_
          refine step_pure rfl (pure_eql rfl rfl) ?_
          refine qa rfl rfl ?_
          refine step_nil ?_
          exact less_of ⟨rfl, rfl, rfl, by rw [h]; rfl, trivial⟩ rfl
        repeat refine c_seq ?_
        refine c_cond rfl (fun h => ?_) (fun h => ?_)
        ·have K := fok67 (f := f) (by simpa using h)
         clear h
         repeat refine c_seq ?_
         refine c_region ?_
         refine qm rfl rfl ?_
         refine qm rfl rfl ?_
         refine step_split (t := 178) rfl (fun h178 => ?_) (fun h178 => ?_)
         ·refine step_pure rfl (pure_fieldAddr rfl rfl rfl rfl rfl (by decide)) ?_
          refine step_pure rfl (pure_load (i := 0) rfl rfl rfl rfl rfl rfl) ?_
          refine step_pure rfl (pure_eql rfl rfl) ?_
          refine step_pure rfl (pure_pick_yes rfl rfl) ?_
          refine qm rfl rfl ?_
          refine step_split (t := 183) rfl (fun h183 => ?_) (fun h183 => ?_)
          ·refine step_pure rfl (pure_fieldAddr rfl rfl rfl rfl rfl (by decide)) ?_
           refine step_pure rfl (pure_load (i := 0) rfl rfl rfl rfl rfl rfl) ?_
           refine step_pure rfl (pure_len_slice rfl rfl rfl) ?_
           refine step_pure rfl (pure_eql rfl rfl) ?_
           refine step_pure rfl (pure_pick_yes rfl rfl) ?_
           refine qm rfl rfl ?_
           refine step_split (t := 189) rfl (fun h189 => ?_) (fun h189 => ?_)
           ·refine step_pure rfl (pure_fieldAddr rfl rfl rfl rfl rfl (by decide)) ?_
            refine step_pure rfl (pure_load (i := 0) rfl rfl rfl rfl rfl rfl) ?_
            refine step_pure rfl (pure_len_slice rfl rfl rfl) ?_
            refine step_pure rfl (pure_eql rfl rfl) ?_
            refine step_pure rfl (pure_pick_yes rfl rfl) ?_
            refine qa rfl rfl ?_
            refine step_nil ?_
            refine less_sub ⟨congrArg some (congrArg Value.bool ?_), trivial⟩ (List.nil_sublist _)
            clear hrg
            rw [Bool.eq_iff_iff, K]
            clear K
            simp_all <;> omega
           ·refine qp rfl rfl rfl ?_
            refine qp rfl rfl rfl ?_
            refine qp rfl rfl rfl ?_
            refine qp rfl rfl rfl ?_
            refine step_pure rfl (pure_pick_no rfl rfl) ?_
            refine qa rfl rfl ?_
            refine step_nil ?_
            refine less_sub ⟨congrArg some (congrArg Value.bool ?_), trivial⟩ (List.nil_sublist _)
            clear hrg
            rw [Bool.eq_iff_iff, K]
            clear K
            simp_all <;> omega
          ·refine qp rfl rfl rfl ?_
           refine qp rfl rfl rfl ?_
           refine qp rfl rfl rfl ?_
           refine qp rfl rfl rfl ?_
           refine step_pure rfl (pure_pick_no rfl rfl) ?_
           refine qm rfl rfl ?_
           refine qp rfl rfl rfl ?_
           refine qp rfl rfl rfl ?_
           refine qp rfl rfl rfl ?_
           refine qp rfl rfl rfl ?_
           refine step_pure rfl (pure_pick_no rfl rfl) ?_
           refine qa rfl rfl ?_
           refine step_nil ?_
           refine less_sub ⟨congrArg some (congrArg Value.bool ?_), trivial⟩ (List.nil_sublist _)
           clear hrg
           rw [Bool.eq_iff_iff, K]
           clear K
           simp_all <;> omega
         ·refine qp rfl rfl rfl ?_
          refine qp rfl rfl rfl ?_
          refine qp rfl rfl rfl ?_
          refine step_pure rfl (pure_pick_no rfl rfl) ?_
          refine qm rfl rfl ?_
          refine qp rfl rfl rfl ?_
          refine qp rfl rfl rfl ?_
          refine qp rfl rfl rfl ?_
          refine qp rfl rfl rfl ?_
          refine step_pure rfl (pure_pick_no rfl rfl) ?_
          refine qm rfl rfl ?_
          refine qp rfl rfl rfl ?_
          refine qp rfl rfl rfl ?_
          refine qp rfl rfl rfl ?_
          refine qp rfl rfl rfl ?_
          refine step_pure rfl (pure_pick_no rfl rfl) ?_
          refine qa rfl rfl ?_
          refine step_nil ?_
          refine less_sub ⟨congrArg some (congrArg Value.bool ?_), trivial⟩ (List.nil_sublist _)
          clear hrg
          rw [Bool.eq_iff_iff, K]
          clear K
          simp_all <;> omega
        ·have h6 : f.kind ≠ 6 ∧ f.kind ≠ 7 := by simpa using h
         refine c_skip (less_sub ⟨congrArg some (congrArg Value.bool ?_), trivial⟩ (List.nil_sublist _))
         exact (fok_no ⟨h0, h1, h2, h3, h4, h5, h6.1, h6.2⟩).symm
 ·repeat refine c_seq ?_
  refine c_region ?_
  refine qm rfl rfl ?_
  refine step_pure rfl (pure_not rfl) ?_
  refine step_nil ?_
  repeat refine c_seq ?_
  refine c_cond rfl (fun h => ?_) (fun h => ?_)
  ·rw [show fok f = false by simpa using h]
   repeat refine c_seq ?_
   refine c_region ?_
   refine qa rfl rfl ?_
   refine step_nil ?_
   exact c_ret ⟨_, res_tmp Try.results51 rfl, rfl⟩
  ·rw [show fok f = true by simpa using h]
   refine c_skip ?_
   repeat refine c_seq ?_
   refine c_region ?_
   refine qa rfl rfl ?_
   refine step_nil ?_
   exact c_ret ⟨_, res_tmp Try.results51 rfl, rfl⟩
end Go.Proofs.Ythieegnhjoehbaa
/- Which frames ask; a frame's numbers: walked. -/
namespace Go.Proofs.Ythieegnhjoehbaa
open Go.RowKit Go.Vc
set_option linter.unusedVariables false
def ixF (ns : List Int) (x : Int) : Int := if x ∈ ns then (ns.idxOf x : Int) else -1
def asks (f : Fr) : Bool := fok f && !decide (f.kind ∈ [0, 2, 6, 7])
theorem fill_four {u : Ty} (kk : IntKind) (x y z t : Int) (hu : u.size = 1) : fillL (fun i => some (i * u.size, u.size)) (rowOf [.int kk 0] (4 * u.size)) [(0, .int kk x), (1, .int kk y), (2, .int kk z), (3, .int kk t)] = some (ints kk [x, y, z, t]) := by
 rw [hu, show 4 * 1 = 4 from rfl, rowOf_int]
 rfl
end Go.Proofs.Ythieegnhjoehbaa
