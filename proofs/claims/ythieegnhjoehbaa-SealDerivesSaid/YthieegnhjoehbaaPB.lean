/- Which packets ask for an answer: Eliciting, the document's too, walked. -/
import Derived.Test.YthieegnhjoehbaaPA
namespace Go.Proofs.Ythieegnhjoehbaa
open Go.RowKit Go.Vc
set_option linter.unusedVariables false
section
variable {E : Env} {n : Nat} {all rest : List Oper} {rs : Rs} {m : Mem} {K : Act → World → Prop} {dst : Option Tmp} {ty : TypeId} {pos : String} {aft : Array Edge} {gd : Option (Nat × Bool)}
/-- A call of a function value that gives a value. -/
theorem step_givesF {f : FuncId} {fx : Operand} {args : List Operand} {ats : Array TypeId} {vs caps : List Value} {v : Value} {d : Nat}
  (hc : chk all n rs ⟨dst, .call ⟨.value fx, args.toArray, ats⟩, ty, pos, aft, gd⟩ = some d)
  (hfx : ev rs fx = some (.func (.func f) #[] caps.toArray)) (hf : Fun tb f) (hv : evs rs args = some vs) (hg : ∀ w, Has w m → Keep E.w0 w E.ws → Gives tb f (vs ++ caps) w v)
  (h : WPl tb E n all rest ((d, v) :: rs) m K) :
  WPl tb E n all (⟨dst, .call ⟨.value fx, args.toArray, ats⟩, ty, pos, aft, gd⟩ :: rest) rs m K := by
 refine ⟨fun Q hQ a w ok => ?_⟩
 refine (step_callee (m := m) (K := K) hc hfx hf hv (fun w hh hk => (hg w hh hk).calls.mono ?_)).run Q hQ a w ok
 rintro e w' ⟨rfl, hkeep⟩
 exact ⟨v, m, rfl, hkeep.has hh, ok.own, hk.trans hkeep (by simp), h⟩
end
def ixA : List Fr → Nat → Int
 | [], _ => -1
 | f :: l, i => if asks f = true then i else ixA l (i + 1)
theorem ixA_any : ∀ (l : List Fr) (i : Nat), decide (ixA l i ≥ 0) = l.any asks
 | [], i => rfl
 | f :: l, i => by
  unfold ixA
  rw [List.any_cons]
  cases h : asks f with
  | true =>
   rw [if_pos rfl, Bool.true_or]
   exact decide_eq_true (by omega)
  | false => rw [if_neg (by decide), Bool.false_or]; exact ixA_any l (i + 1)
/-- Does a packet ask? -/
def pasks (p : Pk) : Bool := pOk p && p.fs.any asks
end Go.Proofs.Ythieegnhjoehbaa
/- What is padded: Pad, the document's too, walked. -/
namespace Go.Proofs.Ythieegnhjoehbaa
open Go.RowKit Go.Vc
set_option linter.unusedVariables false
def PdR (size : Int) (l : List Fr) (u : Value) (C : Addr → Value → Prop) : Prop := ∃ v, u = .tuple #[v, .int .i64 (if (pPad size l).isSome = true then 0 else 30)] ∧ FrsC C v ((pPad size l).getD [])
theorem pdR_mono (size : Int) (l : List Fr) : ∀ v (C C' : Addr → Value → Prop), (∀ a x, C a x → C' a x) → PdR size l v C → PdR size l v C' := by
 rintro u C C' hC ⟨v, rfl, hs⟩
 exact ⟨v, rfl, hs.mono hC⟩
theorem pdR_no {size : Int} {l : List Fr} {C : Addr → Value → Prop} (h : pPad size l = none) : PdR size l (.tuple #[.slice none 0 0, .int .i64 30]) C := by
 unfold PdR
 rw [h]
 exact ⟨_, rfl, frs_nil⟩
theorem pdR_yes {size : Int} {l k : List Fr} {v : Value} {C : Addr → Value → Prop} (h : pPad size l = some k) (hv : FrsC C v k) : PdR size l (.tuple #[v, .int .i64 0]) C := by
 unfold PdR
 rw [h]
 exact ⟨_, rfl, hv⟩
theorem pPad_bad {size : Int} {l : List Fr} (h : wrOk l = false) : pPad size l = none := by unfold pPad; rw [if_neg (by rw [h]; decide)]
theorem pPad_same {size : Int} {l : List Fr} (h : wrOk l = true) (h1 : ((wBs l).length : Int) = size) : pPad size l = some l := by unfold pPad; rw [if_pos h, if_pos h1]
theorem pPad_full {size : Int} {l : List Fr} (h : wrOk l = true) (h1 : ((wBs l).length : Int) ≠ size) (h2 : l.length = 16) : pPad size l = none := by unfold pPad; rw [if_pos h, if_neg h1, if_pos h2]
theorem pPad_find {size : Int} {l : List Fr} (h : wrOk l = true) (h1 : ((wBs l).length : Int) ≠ size) (h2 : l.length ≠ 16) : pPad size l = (pFind (size - (wBs l).length)).map fun n => l ++ [padN n] := by unfold pPad; rw [if_pos h, if_neg h1, if_neg h2]
theorem pFind_far {more : Int} (h : more < 2 ∨ 2052 < more) : pFind more = none := by
 cases hp : pFind more with
 | none => rfl
 | some n =>
  have := fit_in (pFind_in hp)
  have := vsize_cases n
  omega
/-- The cells of a pad. -/
def padCells (n : Int) : List Value := [.int .i64 0, .int .i64 n, .int .i64 0, .slice none 0 0, .slice none 0 0]
theorem padC {C : Addr → Value → Prop} (n : Int) : FrC C (padN n) (padCells n) := ⟨_, _, rfl, slc_nil, slc_nil⟩
theorem pad_one (n : Int) : ∀ v ∈ padCells n, v.oneCell' = true := by
 intro v hv
 simp [padCells] at hv
 rcases hv with rfl | rfl | rfl | rfl | rfl <;> rfl
theorem frs_padded {C : Addr → Value → Prop} {l : List Fr} {css : List (List Value)} {n : Int} {e : Ent} {base : Option Addr} {len cap : Nat} (h1 : css.length = l.length) (h2 : ∀ (i : Nat) (f : Fr) (cs : List Value), l[i]? = some f → css[i]? = some cs → FrC C f cs)
  (hl : len = l.length + 1) (hs : SlIs ty59 59 e base len cap (css.flatten ++ padCells n)) (hc : ∀ j x, e.cells[j]? = some x → C ⟨e.blk, j, none⟩ x) : FrsC C (.slice base len cap) (l ++ [padN n]) := by
 subst hl
 refine ⟨css ++ [padCells n], by simp [h1], frc_app h1 h2 ?_, ?_⟩
 ·intro i f cs hf hcs
  cases i with
  | zero => cases hf; cases hcs; exact padC n
  | succ i => simp at hf
 ·rw [List.flatten_append, List.flatten_cons, List.flatten_nil, List.append_nil, List.length_append, List.length_singleton]
  exact slis_cz hs hc
theorem frs_cloned {C : Addr → Value → Prop} {l : List Fr} {css : List (List Value)} {e : Ent} {base : Option Addr} {cap : Nat} (h1 : css.length = l.length) (h2 : ∀ (i : Nat) (f : Fr) (cs : List Value), l[i]? = some f → css[i]? = some cs → FrC C f cs)
  (hs : SlIs ty59 59 e base l.length cap css.flatten) (hc : ∀ j x, e.cells[j]? = some x → C ⟨e.blk, j, none⟩ x) : FrsC C (.slice base l.length cap) l :=
 ⟨css, h1, h2, slis_cz hs hc⟩
/-- The two numbers that are tried. -/
def nI (more : Int) (i : Nat) : Int := if i = 0 then more - 2 else more - 3
theorem pFind_two {more : Int} (h0 : fit more (nI more 0) = false) (h1 : fit more (nI more 1) = false) : pFind more = none := by
 have h0 : fit more (more - 2) = false := h0
 have h1 : fit more (more - 3) = false := h1
 unfold pFind
 rw [h0, h1]
 rfl
theorem ix2 {u : Ty} (hu : u.size = 1) {more : Int} {i : Nat} (h : i < 2) : [Value.int .i64 (more - 2), .int .i64 (more - 3)][(i : Int).toNat * u.size]? = some (.int .i64 (nI more i)) := by
 rw [hu, Int.toNat_natCast, Nat.mul_one]
 obtain rfl | rfl : i = 0 ∨ i = 1 := by omega
 ·rfl
 ·rfl
end Go.Proofs.Ythieegnhjoehbaa
/- The document's Pad; few frames: walked. -/
namespace Go.Proofs.Ythieegnhjoehbaa
open Go.RowKit Go.Vc
set_option linter.unusedVariables false
theorem pFind_none {more : Int} (h : ∀ k : Nat, 1 ≤ k → k ≤ 2048 → 1 + (vsize (k : Int) : Int) + k ≠ more) : pFind more = none := by
 cases hp : pFind more with
 | none => rfl
 | some n =>
  obtain ⟨h1, h2, h3⟩ := fit_in (pFind_in hp)
  obtain ⟨k, rfl⟩ : ∃ k : Nat, n = k := ⟨n.toNat, by omega⟩
  exact absurd h3 (h k (by omega) (by omega))
end Go.Proofs.Ythieegnhjoehbaa
/- Few frames; the calls at the head of all laws of packets: walked. -/
namespace Go.Proofs.Ythieegnhjoehbaa
open Go.RowKit Go.Vc
set_option linter.unusedVariables false
theorem few_any (fs : List Fr) (v : Value) (w : World) (hv : FrsC (fun p x => w.cell? p = some x) v fs) : Gives tb 24 [v] w (.bool (fewB fs)) := by
 obtain ⟨base1, cap1, rfl, hcap1⟩ := hv.slice
 refine gives_of (fn := Try.f24) Try.func24 rfl Try.ntmps24 rfl ?_
 repeat refine c_seq ?_
 refine c_region ?_
 refine qa rfl rfl ?_
 refine step_nil ?_
 repeat refine c_seq ?_
 refine c_region ?_
 refine qm rfl rfl ?_
 refine step_pure rfl (pure_len_slice rfl rfl rfl) ?_
 refine step_pure rfl (pure_gtr rfl rfl) ?_
 refine step_nil ?_
 repeat refine c_seq ?_
 refine c_cond rfl (fun h => ?_) (fun h => ?_)
 ·have hno : fewB fs = false := by
   have := of_decide_eq_true h
   unfold fewB
   rw [decide_eq_false (by omega), Bool.false_and]
  rw [hno]
  repeat refine c_seq ?_
  refine c_region ?_
  refine qa rfl rfl ?_
  refine step_nil ?_
  exact c_ret ⟨_, res_tmp Try.results24 rfl, rfl⟩
 ·have h30 : fs.length ≤ 30 := by have := of_decide_eq_false h; omega
  clear h
  refine c_skip ?_
  repeat refine c_seq ?_
  refine c_region ?_
  refine qa rfl rfl ?_
  refine step_nil ?_
  repeat refine c_seq ?_
  refine c_block ?_
  repeat refine c_seq ?_
  refine c_loop (α := Nat) (fun i => [(0, .slice base1 fs.length cap1), (3, .int .i64 i)]) (fun _ => [])
   (fun i => i ≤ fs.length ∧ ∀ j f, j < i → fs[j]? = some f → smallF f = true) (fun i => fs.length - i) 0 ⟨Nat.zero_le _, by omega⟩ (less_sub ⟨rfl, rfl, trivial⟩ (List.nil_sublist _)) ?_
  rintro i ⟨hi, hall⟩
  repeat refine c_seq ?_
  refine c_region ?_
  refine qm rfl rfl ?_
  refine qm rfl rfl ?_
  refine step_pure rfl (pure_len_slice rfl rfl rfl) ?_
  refine step_pure rfl (pure_lss rfl rfl) ?_
  refine step_nil ?_
  repeat refine c_seq ?_
  refine c_cond rfl (fun h => ?_) (fun h => ?_)
  ·have hlt : i < fs.length := by have := of_decide_eq_true h; omega
   clear h
   refine c_skip ?_
   repeat refine c_seq ?_
   refine c_block ?_
   obtain ⟨p1, cp, cs, hq, hfc, hp⟩ := hv.at hlt
   cases hq
   obtain ⟨rv, dv, rfl, hr, hd⟩ := hfc
   obtain ⟨rb, rc, rfl, -, -, -⟩ := hr
   obtain ⟨db, dc, rfl, -, -, -⟩ := hd
   have hc3 := hp 3 _ rfl
   have hc4 := hp 4 _ rfl
   have hsf : smallF fs[i] = !(decide ((fs[i].data.length : Int) > 3000) || decide ((fs[i].rs.length : Int) > 40)) := rfl
   repeat refine c_seq ?_
   repeat refine c_seq ?_
   refine c_meet [(0, .slice (some p1) fs.length cap1), (3, .int .i64 i), (28, .bool (!smallF fs[i]))] [] ?_ ?_
   ·rw [hsf]
    generalize fs[i].data.length = dl at *
    generalize fs[i].rs.length = rl at *
    repeat refine c_seq ?_
    refine c_region ?_
    refine qm rfl rfl ?_
    refine qm rfl rfl ?_
    refine step_as rfl (pure_indexAddr_at rfl rfl rfl rfl rfl (by omega) (by omega)) (show _ = Value.pointer (some (p1.add (i * 5))) from by show Value.pointer (some (p1.add ((i : Int).toNat * 5))) = _; rw [Int.toNat_natCast]) ?_
    refine step_pure rfl (pure_fieldAddr_at rfl rfl rfl rfl rfl (by decide)) ?_
    refine step_pure rfl (pure_view_at rfl rfl rfl hc4 List.not_mem_nil) ?_
    refine step_pure rfl (pure_len_slice rfl rfl rfl) ?_
    refine step_pure rfl (pure_gtr rfl rfl) ?_
    refine qm rfl rfl ?_
    refine step_split (t := 20) rfl (fun h20 => ?_) (fun h20 => ?_)
    ·refine qp rfl rfl rfl ?_
     refine qp rfl rfl rfl ?_
     refine qp rfl rfl rfl ?_
     refine qp rfl rfl rfl ?_
     refine qp rfl rfl rfl ?_
     refine qp rfl rfl rfl ?_
     refine qp rfl rfl rfl ?_
     refine step_pure rfl (pure_pick_yes rfl rfl) ?_
     refine step_nil ?_
     refine less_sub ⟨rfl, rfl, ?_, trivial⟩ (List.nil_sublist _)
     refine congrArg some (congrArg Value.bool ?_)
     clear hc3 hc4 hp hv
     simp_all <;> omega
    ·refine qm rfl rfl ?_
     refine qm rfl rfl ?_
     refine step_as rfl (pure_indexAddr_at rfl rfl rfl rfl rfl (by omega) (by omega)) (show _ = Value.pointer (some (p1.add (i * 5))) from by show Value.pointer (some (p1.add ((i : Int).toNat * 5))) = _; rw [Int.toNat_natCast]) ?_
     refine step_pure rfl (pure_fieldAddr_at rfl rfl rfl rfl rfl (by decide)) ?_
     refine step_pure rfl (pure_view_at rfl rfl rfl hc3 List.not_mem_nil) ?_
     refine step_pure rfl (pure_len_slice rfl rfl rfl) ?_
     refine step_pure rfl (pure_gtr rfl rfl) ?_
     refine step_pure rfl (pure_pick_no rfl rfl) ?_
     refine step_nil ?_
     refine less_sub ⟨rfl, rfl, ?_, trivial⟩ (List.nil_sublist _)
     refine congrArg some (congrArg Value.bool ?_)
     clear hc3 hc4 hp hv
     simp_all <;> omega
   repeat refine c_seq ?_
   refine c_cond rfl (fun h => ?_) (fun h => ?_)
   ·have hz : smallF fs[i] = false := by simpa using h
    rw [show fewB fs = false by
     unfold fewB
     rw [Bool.and_eq_false_iff]
     right
     rw [List.all_eq_false]
     exact ⟨fs[i], List.getElem_mem hlt, by simp [hz]⟩]
    repeat refine c_seq ?_
    refine c_region ?_
    refine qa rfl rfl ?_
    refine step_nil ?_
    exact c_ret ⟨_, res_tmp Try.results24 rfl, rfl⟩
   ·have hz : smallF fs[i] = true := by simpa using h
    refine c_skip ?_
    repeat refine c_seq ?_
    refine c_region ?_
    refine qm rfl rfl ?_
    first | refine step_pure rfl (pure_add64 rfl rfl (by omega) (by omega)) ?_ | refine step_pure rfl (pure_add rfl rfl) ?_
    refine qa rfl rfl ?_
    refine step_nil ?_
    refine ⟨i + 1, ⟨hlt, fun j f hj hf => ?_⟩, by omega, less_sub ⟨rfl, rfl, trivial⟩ (List.nil_sublist _)⟩
    by_cases hji : j = i
    ·subst hji
     rw [List.getElem?_eq_getElem hlt] at hf
     cases hf
     exact hz
    ·exact hall j f (by omega) hf
  ·have hie : i = fs.length := by have := of_decide_eq_false h; omega
   rw [show fewB fs = true by
    unfold fewB
    rw [Bool.and_eq_true, List.all_eq_true]
    refine ⟨by simpa using h30, fun f hf => ?_⟩
    obtain ⟨j, hj, rfl⟩ := List.mem_iff_getElem.1 hf
    exact hall j _ (by omega) (List.getElem?_eq_getElem hj)]
   refine c_exit ?_
   repeat refine c_seq ?_
   refine c_region ?_
   refine qa rfl rfl ?_
   refine step_nil ?_
   exact c_ret ⟨_, res_tmp Try.results24 rfl, rfl⟩
theorem frs_one {C : Addr → Value → Prop} {f : Fr} {cs : List Value} {v : Value} (h : FrC C f cs) (hs : SlC C 5 v 1 cs) : FrsC C v [f] := by
 refine ⟨[cs], rfl, fun i f' cs' h1 h2 => ?_, by simpa using hs⟩
 cases i with
 | zero => cases h1; cases h2; exact h
 | succ i => simp at h1
def pingCells : List Value := [.int .i64 1, .int .i64 0, .int .i64 0, .slice none 0 0, .slice none 0 0]
theorem pingC {C : Addr → Value → Prop} : FrC C pingF pingCells := ⟨_, _, rfl, slc_nil, slc_nil⟩
theorem ping_sl {C : Addr → Value → Prop} {b : Nat} (hc : ∀ j x, pingCells[j]? = some x → C ⟨b, j, none⟩ x) : FrsC C (.slice (some ⟨b, 0, none⟩) 1 1) [pingF] :=
 frs_one pingC (slis_cz (sl_built ty59 59 b pingCells 1 rfl) hc)
def pingP : Pk := ⟨1, 5, [pingF]⟩
theorem pB_ping : pB pingP = [1, 5, 1] := by decide
theorem pE_ping : pE pingP = 0 := by decide
theorem pG_ping : pG [1, 5, 1] = pingP := by rfl
theorem pX_ping : pX [1, 5, 1] = 0 := by decide
theorem pad5 : pPad 5 [pingF] = some [pingF, padN 2] := by rfl
theorem pad2 : pPad 2 [pingF] = none := by rfl
theorem hd_ping : HdV [1, 5, 1] = .tuple #[.int .i64 1, .int .i64 5, .int .i64 2, .int .i64 0] := by rfl
theorem ps_ping : psB pingP pingP = true := (psB_iff (by intro f hf; simp [pingP] at hf; subst hf; intro x hx; cases hx) (by intro f hf; simp [pingP] at hf; subst hf; intro x hx; cases hx)).2 rfl
theorem pa_ping : pasks pingP = true := by decide
theorem pE_zero : pE ⟨0, 0, []⟩ = 30 := by decide
theorem all_ping : allB [pingF, padN 2] [pingF, padF] = true := (allB_iff (by intro f hf; simp at hf; rcases hf with rfl | rfl <;> (intro x hx; cases hx)) (by intro f hf; simp at hf; rcases hf with rfl | rfl <;> (intro x hx; cases hx))).2 rfl
theorem fill151 : fillL (fun i => some (i * ty5.size, ty5.size)) (rowOf [Value.int .u8 0] (3 * ty5.size)) [(0, .int .u8 1), (1, .int .u8 5), (2, .int .u8 1)] = some (row [1, 5, 1]) := by kernel_rfl
theorem ping_big : ∀ f ∈ [pingF], f.data.length ≤ maxLen := by intro f hf; simp at hf; subst hf; exact Nat.zero_le _
end Go.Proofs.Ythieegnhjoehbaa
