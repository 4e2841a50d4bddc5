/- Places in memory; which screens may be: Check, walked. -/
import Derived.Test.YtadginombcjbeaaG0
import Derived.Test.YtadginombcjbeaaVh
import Derived.Test.YtadginombcjbeaaTy
import Derived.Test.YtadginombcjbeaaTz
namespace Go.Proofs.Ytadginombcjbeaa
open Go.RowKit Go.Vc
set_option linter.unusedVariables false
abbrev At (w : World) : Addr → Value → Prop := fun p x => w.cell? p = some x
theorem at_keep {w w' : World} (k : Keep w w' []) : ∀ p x, At w p x → At w' p x := fun p x h => cell_keep h k (by simp)
/-! places in memory -/
def ceR (l : List Ce) : List Value := l.flatMap fun c => [Value.int .i64 c.1, .int .i64 c.2]
theorem ceR_cons (c : Ce) (l : List Ce) : ceR (c :: l) = .int .i64 c.1 :: .int .i64 c.2 :: ceR l := rfl
theorem ceR_app (a b : List Ce) : ceR a ++ ceR b = ceR (a ++ b) := by unfold ceR; rw [List.flatMap_append]
theorem ceR_len : ∀ l : List Ce, (ceR l).length = l.length * 2
 | [] => rfl
 | c :: l => by rw [ceR_cons, List.length_cons, List.length_cons, ceR_len l, List.length_cons]; omega
theorem ceR_drop : ∀ (l : List Ce) (k : Nat), (ceR l).drop (k * 2) = ceR (l.drop k)
 | l, 0 => by rw [Nat.zero_mul, List.drop_zero, List.drop_zero]
 | [], k + 1 => by show List.drop _ [] = ceR (List.drop _ []); rw [List.drop_nil, List.drop_nil]; rfl
 | c :: l, k + 1 => by rw [ceR_cons, show (k + 1) * 2 = k * 2 + 2 by omega, List.drop_succ_cons, List.drop_succ_cons, List.drop_succ_cons]; exact ceR_drop l k
theorem ceR_take : ∀ (l : List Ce) (k : Nat), (ceR l).take (k * 2) = ceR (l.take k)
 | l, 0 => by rw [Nat.zero_mul, List.take_zero, List.take_zero]; rfl
 | [], k + 1 => by show List.take _ [] = ceR (List.take _ []); rw [List.take_nil, List.take_nil]; rfl
 | c :: l, k + 1 => by rw [ceR_cons, show (k + 1) * 2 = k * 2 + 2 by omega, List.take_succ_cons, List.take_succ_cons, List.take_succ_cons, ceR_take l k]; rfl
theorem ceR_get (l : List Ce) {i : Nat} (h : i < l.length) : (ceR l)[i * 2]? = some (.int .i64 (l.getD i blC).1) ∧ (ceR l)[i * 2 + 1]? = some (.int .i64 (l.getD i blC).2) := by
 have h1 := ceR_drop l i
 rw [List.drop_eq_getElem_cons h, ceR_cons] at h1
 have h2 : l.getD i blC = l[i] := by rw [List.getD_eq_getElem?_getD, List.getElem?_eq_getElem h]; rfl
 constructor
 ·have := congrArg (fun x => x[0]?) h1
  simp only [List.getElem?_drop] at this
  rw [Nat.add_zero] at this
  rw [this, h2]
  rfl
 ·have := congrArg (fun x => x[1]?) h1
  simp only [List.getElem?_drop] at this
  rw [this, h2]
  rfl
theorem ceR_one (l : List Ce) : ∀ v ∈ ceR l, v.oneCell' = true := by
 intro v hv
 obtain ⟨c, _, hv⟩ := List.mem_flatMap.1 hv
 simp at hv
 rcases hv with rfl | rfl <;> rfl
theorem ceR_splice (l x : List Ce) (o : Nat) : splice (ceR l) (o * 2) (ceR x) = ceR (splice l o x) := by
 unfold splice
 rw [ceR_take, ceR_len, ← Nat.add_mul, ceR_drop, ceR_app, ceR_app]
theorem ceR_set (l : List Ce) {i : Nat} (h : i < l.length) (c : Ce) : splice (ceR l) (i * 2) [.int .i64 c.1, .int .i64 c.2] = ceR (l.set i c) := by
 have h1 := ceR_splice l [c] i
 rw [show splice l i [c] = l.set i c from splice_one h] at h1
 exact h1
abbrev uC : Ty := ty48
abbrev tC : TypeId := 48
/-- A screen's cells. -/
def scC (s : Scr) (v1 v2 : Value) : List Value := [.int .i64 s.W, .int .i64 s.H, v1, .int .i64 s.X, .int .i64 s.Y, .int .i64 s.A, .int .i64 s.top, .int .i64 s.bot, .bool s.wrap, .bool s.auto, .bool s.hid, .bool s.alt, .int .i64 s.s0, .int .i64 s.s1, .int .i64 s.s2, v2]
def ScV (C : Addr → Value → Prop) (s : Scr) (cs : List Value) : Prop := ∃ v1 v2, cs = scC s v1 v2 ∧ SlC C 2 v1 s.cells.length (ceR s.cells) ∧ SlC C 2 v2 s.main.length (ceR s.main)
theorem ScV.mono {C C' : Addr → Value → Prop} {s : Scr} {cs : List Value} (h : ScV C s cs) (hC : ∀ p x, C p x → C' p x) : ScV C' s cs := by
 obtain ⟨v1, v2, rfl, h1, h2⟩ := h
 exact ⟨v1, v2, rfl, h1.mono hC, h2.mono hC⟩
theorem slc_sl {C : Addr → Value → Prop} {sz n : Nat} {v : Value} {xs : List Value} (h : SlC C sz v n xs) : ∃ base cap, v = .slice base n cap ∧ n ≤ cap := by
 obtain ⟨base, cap, rfl, h1, _⟩ := h
 exact ⟨base, cap, rfl, h1⟩
/-! small ones -/
theorem within_any (n lo hi : Int) (w : World) : Gives tb 16 [.int .i64 n, .int .i64 lo, .int .i64 hi] w (.bool (decide (lo ≤ n ∧ n ≤ hi))) := by
 refine gives_of (fn := Try.f16) Try.func16 rfl Try.ntmps16 rfl ?_
 repeat refine c_seq ?_
 refine c_region ?_
 refine qa rfl rfl ?_
 refine step_nil ?_
 repeat refine c_seq ?_
 refine c_region ?_
 refine qm rfl rfl ?_
 refine qm rfl rfl ?_
 refine step_pure rfl (pure_geq rfl rfl) ?_
 refine qm rfl rfl ?_
 refine step_split (t := 10) rfl (fun h10 => ?_) (fun h10 => ?_)
 ·refine qm rfl rfl ?_
  refine qm rfl rfl ?_
  refine step_pure rfl (pure_leq rfl rfl) ?_
  refine step_pure rfl (pure_pick_yes rfl rfl) ?_
  refine qa rfl rfl ?_
  refine step_nil ?_
  refine c_ret ⟨_, res_tmp Try.results16 rfl, congrArg Value.bool ?_⟩
  simp_all <;> omega
 ·refine qp rfl rfl rfl ?_
  refine qp rfl rfl rfl ?_
  refine qp rfl rfl rfl ?_
  refine step_pure rfl (pure_pick_no rfl rfl) ?_
  refine qa rfl rfl ?_
  refine step_nil ?_
  refine c_ret ⟨_, res_tmp Try.results16 rfl, congrArg Value.bool ?_⟩
  simp_all <;> omega
theorem clamp_any (n lo hi : Int) (w : World) : Gives tb 30 [.int .i64 n, .int .i64 lo, .int .i64 hi] w (.int .i64 (clampI n lo hi)) := by
 refine gives_of (fn := Try.f30) Try.func30 rfl Try.ntmps30 rfl ?_
 repeat refine c_seq ?_
 refine c_region ?_
 refine qa rfl rfl ?_
 refine step_nil ?_
 repeat refine c_seq ?_
 refine c_region ?_
 refine qm rfl rfl ?_
 refine qm rfl rfl ?_
 refine step_pure rfl (pure_max rfl rfl) ?_
 refine qm rfl rfl ?_
 refine step_pure rfl (pure_min rfl rfl) ?_
 refine qa rfl rfl ?_
 refine step_nil ?_
 exact c_ret ⟨_, res_tmp Try.results30 rfl, rfl⟩
theorem empty_any (w : World) : Gives tb 63 [] w (.agg [Value.int .i64 32, .int .i64 0].toArray) := by
 refine gives_of (fn := Try.f63) Try.func63 rfl Try.ntmps63 rfl ?_
 repeat refine c_seq ?_
 refine c_region ?_
 refine step_alloc rfl zero48 (fun b0 => ?_)
 refine step_nil ?_
 repeat refine c_seq ?_
 refine c_region ?_
 refine step_pure rfl (pure_build_struct (pl := [(0, 1), (1, 1)]) rfl zero48 rfl rfl rfl rfl) ?_
 first | refine step_store_agg 0 rfl rfl rfl (by decide) rfl rfl rfl rfl (by decide) rfl ?_ | refine step_store_agg 1 rfl rfl rfl (by decide) rfl rfl rfl rfl (by decide) rfl ?_ | refine step_store_agg 2 rfl rfl rfl (by decide) rfl rfl rfl rfl (by decide) rfl ?_ | refine step_store_agg 3 rfl rfl rfl (by decide) rfl rfl rfl rfl (by decide) rfl ?_ | refine step_store_agg 4 rfl rfl rfl (by decide) rfl rfl rfl rfl (by decide) rfl ?_ | refine step_store_agg 5 rfl rfl rfl (by decide) rfl rfl rfl rfl (by decide) rfl ?_ | refine step_store_agg 0 rfl rfl rfl (of_one rfl) rfl rfl rfl rfl (Nat.le_of_ble_eq_true rfl) rfl ?_ | refine step_store_agg 1 rfl rfl rfl (of_one rfl) rfl rfl rfl rfl (Nat.le_of_ble_eq_true rfl) rfl ?_ | refine step_store_agg 2 rfl rfl rfl (of_one rfl) rfl rfl rfl rfl (Nat.le_of_ble_eq_true rfl) rfl ?_ | refine step_store_agg 3 rfl rfl rfl (of_one rfl) rfl rfl rfl rfl (Nat.le_of_ble_eq_true rfl) rfl ?_ | refine step_store_agg 4 rfl rfl rfl (of_one rfl) rfl rfl rfl rfl (Nat.le_of_ble_eq_true rfl) rfl ?_ | refine step_store_agg 5 rfl rfl rfl (of_one rfl) rfl rfl rfl rfl (Nat.le_of_ble_eq_true rfl) rfl ?_
 refine step_nil ?_
 exact c_ret ⟨_, res_cell_agg (i := 0) Try.results63 rfl rfl rfl rfl rfl (Nat.le_of_ble_eq_true rfl) rfl, rfl⟩
theorem bad_any (c : Ce) (w : World) : Gives tb 33 [.agg [Value.int .i64 c.1, .int .i64 c.2].toArray] w (.bool (!okCell c)) := by
 refine gives_of (fn := Try.f33) Try.func33 rfl Try.ntmps33 rfl ?_
 unfold okCell
 repeat refine c_seq ?_
 refine c_region ?_
 refine step_box_agg rfl rfl (fun b1 => ?_)
 refine qa rfl rfl ?_
 refine step_nil ?_
 repeat refine c_seq ?_
 refine c_region ?_
 refine step_pure rfl (pure_fieldAddr rfl rfl rfl rfl rfl (by decide)) ?_
 first | refine step_pure rfl (pure_load (i := 0) rfl rfl rfl rfl rfl rfl) ?_ | refine step_pure rfl (pure_load (i := 1) rfl rfl rfl rfl rfl rfl) ?_ | refine step_pure rfl (pure_load (i := 2) rfl rfl rfl rfl rfl rfl) ?_ | refine step_pure rfl (pure_load (i := 3) rfl rfl rfl rfl rfl rfl) ?_ | refine step_pure rfl (pure_load (i := 4) rfl rfl rfl rfl rfl rfl) ?_ | refine step_pure rfl (pure_load (i := 5) rfl rfl rfl rfl rfl rfl) ?_
 refine step_gives rfl fun16 rfl (fun w _ _ => within_any _ _ _ w) ?_
 refine step_pure rfl (pure_not rfl) ?_
 refine qm rfl rfl ?_
 refine step_split (t := 7) rfl (fun h7 => ?_) (fun h7 => ?_)
 ·refine qp rfl rfl rfl ?_
  refine qp rfl rfl rfl ?_
  refine qp rfl rfl rfl ?_
  refine qp rfl rfl rfl ?_
  refine step_pure rfl (pure_pick_yes rfl rfl) ?_
  refine qa rfl rfl ?_
  refine step_nil ?_
  refine c_ret ⟨_, res_tmp Try.results33 rfl, congrArg Value.bool ?_⟩
  simp_all
  try omega
 ·refine step_pure rfl (pure_fieldAddr rfl rfl rfl rfl rfl (by decide)) ?_
  first | refine step_pure rfl (pure_load (i := 0) rfl rfl rfl rfl rfl rfl) ?_ | refine step_pure rfl (pure_load (i := 1) rfl rfl rfl rfl rfl rfl) ?_ | refine step_pure rfl (pure_load (i := 2) rfl rfl rfl rfl rfl rfl) ?_ | refine step_pure rfl (pure_load (i := 3) rfl rfl rfl rfl rfl rfl) ?_ | refine step_pure rfl (pure_load (i := 4) rfl rfl rfl rfl rfl rfl) ?_ | refine step_pure rfl (pure_load (i := 5) rfl rfl rfl rfl rfl rfl) ?_
  refine step_gives rfl fun16 rfl (fun w _ _ => within_any _ _ _ w) ?_
  refine step_pure rfl (pure_not rfl) ?_
  refine step_pure rfl (pure_pick_no rfl rfl) ?_
  refine qa rfl rfl ?_
  refine step_nil ?_
  refine c_ret ⟨_, res_tmp Try.results33 rfl, congrArg Value.bool ?_⟩
  simp_all
  try omega
def ixB : List Ce → Nat → Int
 | [], _ => -1
 | c :: l, i => if okCell c = true then ixB l (i + 1) else i
theorem ixB_all : ∀ (l : List Ce) (i : Nat), decide (ixB l i ≥ 0) = !l.all okCell
 | [], _ => rfl
 | c :: l, i => by
  show decide ((if okCell c = true then ixB l (i + 1) else (i : Int)) ≥ 0) = !(okCell c && l.all okCell)
  cases okCell c with
  | true => rw [if_pos rfl, ixB_all l (i + 1), Bool.true_and]
  | false => rw [if_neg (by decide), decide_eq_true (by omega)]; rfl
theorem indexBad_any (l : List Ce) (v : Value) (w : World) (hv : SlC (At w) 2 v l.length (ceR l)) (hle : l.length ≤ maxLen) :
  Gives tb 64 [v, .func (.func 33) #[] #[]] w (.int .i64 (ixB l 0)) := by
 have hm : maxLen ≤ 9223372036854775807 := by decide
 obtain ⟨base, cap, rfl, hcap⟩ := slc_sl hv
 refine gives_of (fn := Try.f64) Try.func64 rfl Try.ntmps64 rfl ?_
 repeat refine c_seq ?_
 refine c_region ?_
 refine qa rfl rfl ?_
 refine step_nil ?_
 repeat refine c_seq ?_
 refine c_region ?_
 refine qm rfl rfl ?_
 refine step_pure rfl (pure_len_slice rfl rfl rfl) ?_
 refine qm rfl rfl ?_
 refine step_nil ?_
 repeat refine c_seq ?_
 refine c_block ?_
 repeat refine c_seq ?_
 refine c_loop (α := Nat) (fun i => [(0, .slice base l.length cap), (1, .func (.func 33) #[] #[]), (7, .int .i64 l.length), (8, .int .i64 i)]) (fun _ => []) (fun i => i ≤ l.length ∧ ixB l 0 = ixB (l.drop i) i) (fun i => l.length - i) 0 ⟨Nat.zero_le _, by rw [List.drop_zero]⟩ (less_of ⟨rfl, rfl, rfl, rfl, trivial⟩ rfl) ?_
 rintro i ⟨hi, hix⟩
 repeat refine c_seq ?_
 refine c_region ?_
 refine step_pure rfl (pure_lss rfl rfl) ?_
 refine step_nil ?_
 repeat refine c_seq ?_
 refine c_cond rfl (fun h => ?_) (fun h => ?_)
 ·have hlt : i < l.length := by have := of_decide_eq_true h; omega
  clear h
  refine c_skip ?_
  obtain ⟨p, cap', he, hp⟩ := hv.at (by decide) hlt
  cases he
  obtain ⟨g0, g1⟩ := ceR_get l hlt
  have q0 := hp 0 _ g0
  have q1 := hp 1 _ g1
  have hcell : ∀ j x, [Value.int .i64 (l.getD i blC).1, .int .i64 (l.getD i blC).2][j]? = some x → Cel ⟨w, [], []⟩ ((p.add (i * 2)).add j) x := fun j x hx => by
   match j, hx with
   | 0, hx => cases hx; exact ⟨q0, by simp⟩
   | 1, hx => cases hx; exact ⟨q1, by simp⟩
  rw [List.drop_eq_getElem_cons hlt] at hix
  have hgd : l[i] = l.getD i blC := by rw [List.getD_eq_getElem?_getD, List.getElem?_eq_getElem hlt]; rfl
  rw [hgd] at hix
  generalize l.getD i blC = c at *
  repeat refine c_seq ?_
  refine c_block ?_
  repeat refine c_seq ?_
  refine c_region ?_
  refine qm rfl rfl ?_
  refine qa rfl rfl ?_
  refine step_nil ?_
  repeat refine c_seq ?_
  refine c_region ?_
  refine qm rfl rfl ?_
  refine qm rfl rfl ?_
  refine qm rfl rfl ?_
  refine step_as rfl (pure_indexAddr_at rfl rfl rfl rfl rfl (by omega) (by omega)) (show _ = Value.pointer (some (p.add (i * 2))) from by show Value.pointer (some (p.add ((i : Int).toNat * 2))) = _; rw [Int.toNat_natCast]) ?_
  refine step_pure rfl (pure_cel_agg rfl rfl rfl rfl hcell) ?_
  refine step_givesc (caps := []) rfl rfl fun33 rfl rfl (fun w' _ _ => bad_any c w') ?_
  refine step_nil ?_
  repeat refine c_seq ?_
  refine c_cond rfl (fun h => ?_) (fun h => ?_)
  ·have hb : okCell c = false := by simpa using h
   rw [show ixB (c :: l.drop (i + 1)) i = (i : Int) from by show (if okCell c = true then _ else (i : Int)) = _; rw [hb]; rfl] at hix
   rw [hix]
   repeat refine c_seq ?_
   refine c_region ?_
   refine qm rfl rfl ?_
   refine qa rfl rfl ?_
   refine step_nil ?_
   exact c_ret ⟨_, res_tmp Try.results64 rfl, rfl⟩
  ·have hb : okCell c = true := by simpa using h
   refine c_skip ?_
   repeat refine c_seq ?_
   refine c_region ?_
   first | refine step_pure rfl (pure_add64 rfl rfl (by omega) (by omega)) ?_ | refine step_pure rfl (pure_add rfl rfl) ?_
   refine qm rfl rfl ?_
   refine step_nil ?_
   refine ⟨i + 1, ⟨hlt, ?_⟩, by omega, less_of ⟨rfl, rfl, rfl, rfl, trivial⟩ rfl⟩
   rw [hix]
   show (if okCell c = true then _ else (i : Int)) = _
   rw [if_pos hb]
 ·have hie : i = l.length := by have := of_decide_eq_false h; omega
  rw [hix, hie, List.drop_length]
  refine c_exit ?_
  repeat refine c_seq ?_
  refine c_region ?_
  refine qa rfl rfl ?_
  refine step_nil ?_
  exact c_ret ⟨_, res_tmp Try.results64 rfl, rfl⟩
theorem may_any (l : List Ce) (v : Value) (n : Int) (w : World) (hv : SlC (At w) 2 v l.length (ceR l)) (hle : l.length ≤ maxLen) : Gives tb 17 [v, .int .i64 n] w (.bool (okCells l n)) := by
 obtain ⟨base, cap, rfl, hcap⟩ := slc_sl hv
 have hix := ixB_all l 0
 have hc : ∀ w', Keep w w' [] → Gives tb 32 [.slice base l.length cap, .func (.func 33) #[] #[]] w' (.bool (!l.all okCell)) := by
  intro w' kp
  refine gives_of (fn := Try.f32) Try.func32 rfl Try.ntmps32 rfl ?_
  repeat refine c_seq ?_
  refine c_region ?_
  refine qa rfl rfl ?_
  refine step_nil ?_
  repeat refine c_seq ?_
  refine c_region ?_
  refine qm rfl rfl ?_
  refine qm rfl rfl ?_
  refine step_gives rfl fun64 rfl (fun w2 hh kp2 => indexBad_any l _ w2 ((hv.mono (at_keep kp)).mono (at_keep kp2)) hle) ?_
  refine step_pure rfl (pure_geq rfl rfl) ?_
  refine qa rfl rfl ?_
  refine step_nil ?_
  exact c_ret ⟨_, res_tmp Try.results32 rfl, by rw [hix]⟩
 refine gives_of (fn := Try.f17) Try.func17 rfl Try.ntmps17 rfl ?_
 unfold okCells
 generalize l.all okCell = al at *
 repeat refine c_seq ?_
 refine c_region ?_
 refine qa rfl rfl ?_
 refine step_nil ?_
 repeat refine c_seq ?_
 refine c_region ?_
 refine qm rfl rfl ?_
 refine step_pure rfl (pure_len_slice rfl rfl rfl) ?_
 refine qm rfl rfl ?_
 refine step_pure rfl (pure_eql rfl rfl) ?_
 refine qm rfl rfl ?_
 refine step_split (t := 9) rfl (fun h9 => ?_) (fun h9 => ?_)
 ·refine qm rfl rfl ?_
  refine step_gives rfl fun32 rfl (fun w2 hh kp2 => hc w2 kp2) ?_
  refine step_pure rfl (pure_not rfl) ?_
  refine step_pure rfl (pure_pick_yes rfl rfl) ?_
  refine qa rfl rfl ?_
  refine step_nil ?_
  refine c_ret ⟨_, res_tmp Try.results17 rfl, congrArg Value.bool ?_⟩
  clear hc hv hix
  simp_all
 ·refine qp rfl rfl rfl ?_
  refine qp rfl rfl rfl ?_
  refine qp rfl rfl rfl ?_
  refine step_pure rfl (pure_pick_no rfl rfl) ?_
  refine qa rfl rfl ?_
  refine step_nil ?_
  refine c_ret ⟨_, res_tmp Try.results17 rfl, congrArg Value.bool ?_⟩
  clear hc hv hix
  simp_all
/-! Check -/
def ckE (s : Scr) : Int := if scOk s = true then 0 else 170
theorem wrapWH {s : Scr} (h : 1 ≤ s.W ∧ s.W ≤ 64 ∧ 1 ≤ s.H ∧ s.H ≤ 64) : IntKind.i64.wrap (s.W * s.H) = s.W * s.H := by
 have h1 : s.W * s.H ≤ 64 * 64 := Int.mul_le_mul h.2.1 h.2.2.2 (by omega) (by omega)
 have h2 : 0 ≤ s.W * s.H := Int.mul_nonneg (by omega) (by omega)
 exact wrap_i64 (by omega) (by omega)
set_option maxHeartbeats 2000000 in
theorem check_any (s : Scr) (cs : List Value) (w : World) (hs : ScV (At w) s cs) (h1 : s.cells.length ≤ maxLen) (h2 : s.main.length ≤ maxLen) : Gives tb 8 [.agg cs.toArray] w (.int .i64 (ckE s)) := by
 obtain ⟨v1, v2, rfl, hc, hm⟩ := hs
 refine gives_of (fn := Try.f8) Try.func8 rfl Try.ntmps8 rfl ?_
 unfold scC
 repeat refine c_seq ?_
 refine c_region ?_
 refine step_box_agg rfl rfl (fun b1 => ?_)
 refine qa rfl rfl ?_
 refine step_nil ?_
 repeat refine c_seq ?_
 refine c_region ?_
 refine qa rfl rfl ?_
 refine step_nil ?_
 repeat refine c_seq ?_
 refine c_region ?_
 refine step_pure rfl (pure_fieldAddr rfl rfl rfl rfl rfl (by decide)) ?_
 first | refine step_pure rfl (pure_load (i := 0) rfl rfl rfl rfl rfl rfl) ?_ | refine step_pure rfl (pure_load (i := 1) rfl rfl rfl rfl rfl rfl) ?_ | refine step_pure rfl (pure_load (i := 2) rfl rfl rfl rfl rfl rfl) ?_ | refine step_pure rfl (pure_load (i := 3) rfl rfl rfl rfl rfl rfl) ?_ | refine step_pure rfl (pure_load (i := 4) rfl rfl rfl rfl rfl rfl) ?_ | refine step_pure rfl (pure_load (i := 5) rfl rfl rfl rfl rfl rfl) ?_
 refine step_nil ?_
 repeat refine c_seq ?_
 refine c_meet [(1, .pointer (some ⟨b1, 0, none⟩)), (3, .int .i64 (if s.alt = true then IntKind.i64.wrap (s.W * s.H) else 0))] [⟨b1, scC s v1 v2, 32⟩] ?_ ?_
 ·repeat refine c_seq ?_
  refine c_cond rfl (fun h => ?_) (fun h => ?_)
  ·rw [if_pos h]
   repeat refine c_seq ?_
   refine c_region ?_
   refine step_pure rfl (pure_fieldAddr rfl rfl rfl rfl rfl (by decide)) ?_
   first | refine step_pure rfl (pure_load (i := 0) rfl rfl rfl rfl rfl rfl) ?_ | refine step_pure rfl (pure_load (i := 1) rfl rfl rfl rfl rfl rfl) ?_ | refine step_pure rfl (pure_load (i := 2) rfl rfl rfl rfl rfl rfl) ?_ | refine step_pure rfl (pure_load (i := 3) rfl rfl rfl rfl rfl rfl) ?_ | refine step_pure rfl (pure_load (i := 4) rfl rfl rfl rfl rfl rfl) ?_ | refine step_pure rfl (pure_load (i := 5) rfl rfl rfl rfl rfl rfl) ?_
   refine step_pure rfl (pure_fieldAddr rfl rfl rfl rfl rfl (by decide)) ?_
   first | refine step_pure rfl (pure_load (i := 0) rfl rfl rfl rfl rfl rfl) ?_ | refine step_pure rfl (pure_load (i := 1) rfl rfl rfl rfl rfl rfl) ?_ | refine step_pure rfl (pure_load (i := 2) rfl rfl rfl rfl rfl rfl) ?_ | refine step_pure rfl (pure_load (i := 3) rfl rfl rfl rfl rfl rfl) ?_ | refine step_pure rfl (pure_load (i := 4) rfl rfl rfl rfl rfl rfl) ?_ | refine step_pure rfl (pure_load (i := 5) rfl rfl rfl rfl rfl rfl) ?_
   first | refine step_pure rfl (pure_mul64 rfl rfl (by omega) (by omega)) ?_ | refine step_pure rfl (pure_mul rfl rfl) ?_
   refine qa rfl rfl ?_
   refine step_nil ?_
   exact less_of ⟨rfl, rfl, trivial⟩ rfl
  ·rw [if_neg (by rw [h]; decide)]
   exact c_skip (less_of ⟨rfl, rfl, trivial⟩ rfl)
 unfold scC
 repeat refine c_seq ?_
 refine c_meet [(1, .pointer (some ⟨b1, 0, none⟩)), (3, .int .i64 (if s.alt = true then IntKind.i64.wrap (s.W * s.H) else 0)), (4, .bool (decide (1 ≤ s.W ∧ s.W ≤ 64 ∧ 1 ≤ s.H ∧ s.H ≤ 64)))] [⟨b1, scC s v1 v2, 32⟩] ?_ ?_
 ·repeat refine c_seq ?_
  refine c_region ?_
  refine step_pure rfl (pure_fieldAddr rfl rfl rfl rfl rfl (by decide)) ?_
  first | refine step_pure rfl (pure_load (i := 0) rfl rfl rfl rfl rfl rfl) ?_ | refine step_pure rfl (pure_load (i := 1) rfl rfl rfl rfl rfl rfl) ?_ | refine step_pure rfl (pure_load (i := 2) rfl rfl rfl rfl rfl rfl) ?_ | refine step_pure rfl (pure_load (i := 3) rfl rfl rfl rfl rfl rfl) ?_ | refine step_pure rfl (pure_load (i := 4) rfl rfl rfl rfl rfl rfl) ?_ | refine step_pure rfl (pure_load (i := 5) rfl rfl rfl rfl rfl rfl) ?_
  refine step_gives rfl fun16 rfl (fun w _ _ => within_any _ _ _ w) ?_
  refine qm rfl rfl ?_
  refine step_split (t := 17) rfl (fun h17 => ?_) (fun h17 => ?_)
  ·refine step_pure rfl (pure_fieldAddr rfl rfl rfl rfl rfl (by decide)) ?_
   first | refine step_pure rfl (pure_load (i := 0) rfl rfl rfl rfl rfl rfl) ?_ | refine step_pure rfl (pure_load (i := 1) rfl rfl rfl rfl rfl rfl) ?_ | refine step_pure rfl (pure_load (i := 2) rfl rfl rfl rfl rfl rfl) ?_ | refine step_pure rfl (pure_load (i := 3) rfl rfl rfl rfl rfl rfl) ?_ | refine step_pure rfl (pure_load (i := 4) rfl rfl rfl rfl rfl rfl) ?_ | refine step_pure rfl (pure_load (i := 5) rfl rfl rfl rfl rfl rfl) ?_
   refine step_gives rfl fun16 rfl (fun w _ _ => within_any _ _ _ w) ?_
   refine step_pure rfl (pure_pick_yes rfl rfl) ?_
   refine qa rfl rfl ?_
   refine step_nil ?_
   refine less_of ⟨rfl, rfl, ?_, trivial⟩ rfl
   refine congrArg some (congrArg Value.bool ?_)
   clear hc hm
   simp_all
   try omega
  ·refine qp rfl rfl rfl ?_
   refine qp rfl rfl rfl ?_
   refine qp rfl rfl rfl ?_
   refine step_pure rfl (pure_pick_no rfl rfl) ?_
   refine qa rfl rfl ?_
   refine step_nil ?_
   refine less_of ⟨rfl, rfl, ?_, trivial⟩ rfl
   refine congrArg some (congrArg Value.bool ?_)
   clear hc hm
   simp_all
   try omega
 have hmc := fun w' (kp : Keep w w' []) => may_any s.cells v1 (s.W * s.H) w' (hc.mono (at_keep kp)) h1
 have hmm := fun w' (kp : Keep w w' []) => may_any s.main v2 (if s.alt = true then s.W * s.H else 0) w' (hm.mono (at_keep kp)) h2
 have hokd : scOk s = (decide (1 ≤ s.W ∧ s.W ≤ 64 ∧ 1 ≤ s.H ∧ s.H ≤ 64) && (okCells s.cells (s.W * s.H) && (okCells s.main (if s.alt = true then s.W * s.H else 0) &&
  decide ((0 ≤ s.X ∧ s.X < s.W) ∧ (0 ≤ s.Y ∧ s.Y < s.H) ∧ (0 ≤ s.A ∧ s.A ≤ 2047) ∧ (0 ≤ s.top ∧ s.top ≤ s.bot ∧ s.bot < s.H) ∧ (0 ≤ s.s0 ∧ s.s0 < 64) ∧ (0 ≤ s.s1 ∧ s.s1 < 64) ∧ (0 ≤ s.s2 ∧ s.s2 ≤ 2047))))) := rfl
 obtain ⟨s1, hs1⟩ := slc_sl hc
 obtain ⟨s2, hs2⟩ := slc_sl hm
 clear hc hm
 unfold ckE
 by_cases hsd : 1 ≤ s.W ∧ s.W ≤ 64 ∧ 1 ≤ s.H ∧ s.H ≤ 64
 ·have hw := wrapWH hsd
  rw [hw, decide_eq_true hsd]
  rw [decide_eq_true hsd, Bool.true_and] at hokd
  unfold scC
  repeat refine c_seq ?_
  refine c_meet [(1, .pointer (some ⟨b1, 0, none⟩)), (41, .bool (!(okCells s.cells (s.W * s.H) && okCells s.main (if s.alt = true then s.W * s.H else 0))))] [⟨b1, scC s v1 v2, 32⟩] ?_ ?_
  ·generalize okCells s.cells (s.W * s.H) = oc at *
   generalize okCells s.main (if s.alt = true then s.W * s.H else 0) = om at *
   repeat refine c_seq ?_
   refine c_region ?_
   refine qm rfl rfl ?_
   refine step_pure rfl (pure_not rfl) ?_
   refine qm rfl rfl ?_
   refine step_pure rfl (pure_fieldAddr rfl rfl rfl rfl rfl (by decide)) ?_
   first | refine step_pure rfl (pure_load (i := 0) rfl rfl rfl rfl rfl rfl) ?_ | refine step_pure rfl (pure_load (i := 1) rfl rfl rfl rfl rfl rfl) ?_ | refine step_pure rfl (pure_load (i := 2) rfl rfl rfl rfl rfl rfl) ?_ | refine step_pure rfl (pure_load (i := 3) rfl rfl rfl rfl rfl rfl) ?_ | refine step_pure rfl (pure_load (i := 4) rfl rfl rfl rfl rfl rfl) ?_ | refine step_pure rfl (pure_load (i := 5) rfl rfl rfl rfl rfl rfl) ?_
   refine step_pure rfl (pure_fieldAddr rfl rfl rfl rfl rfl (by decide)) ?_
   first | refine step_pure rfl (pure_load (i := 0) rfl rfl rfl rfl rfl rfl) ?_ | refine step_pure rfl (pure_load (i := 1) rfl rfl rfl rfl rfl rfl) ?_ | refine step_pure rfl (pure_load (i := 2) rfl rfl rfl rfl rfl rfl) ?_ | refine step_pure rfl (pure_load (i := 3) rfl rfl rfl rfl rfl rfl) ?_ | refine step_pure rfl (pure_load (i := 4) rfl rfl rfl rfl rfl rfl) ?_ | refine step_pure rfl (pure_load (i := 5) rfl rfl rfl rfl rfl rfl) ?_
   refine step_pure rfl (pure_fieldAddr rfl rfl rfl rfl rfl (by decide)) ?_
   first | refine step_pure rfl (pure_load (i := 0) rfl rfl rfl rfl rfl rfl) ?_ | refine step_pure rfl (pure_load (i := 1) rfl rfl rfl rfl rfl rfl) ?_ | refine step_pure rfl (pure_load (i := 2) rfl rfl rfl rfl rfl rfl) ?_ | refine step_pure rfl (pure_load (i := 3) rfl rfl rfl rfl rfl rfl) ?_ | refine step_pure rfl (pure_load (i := 4) rfl rfl rfl rfl rfl rfl) ?_ | refine step_pure rfl (pure_load (i := 5) rfl rfl rfl rfl rfl rfl) ?_
   refine step_as rfl (pure_mul rfl rfl) (congrArg (Value.int .i64) hw) ?_
   refine step_gives rfl fun17 rfl (fun w' hh kp => hmc w' kp) ?_
   refine step_pure rfl (pure_not rfl) ?_
   refine step_pure rfl (pure_pick_no rfl rfl) ?_
   refine qm rfl rfl ?_
   refine step_split (t := 35) rfl (fun h35 => ?_) (fun h35 => ?_)
   ·refine qp rfl rfl rfl ?_
    refine qp rfl rfl rfl ?_
    refine qp rfl rfl rfl ?_
    refine qp rfl rfl rfl ?_
    refine qp rfl rfl rfl ?_
    refine step_pure rfl (pure_pick_yes rfl rfl) ?_
    refine step_nil ?_
    refine less_of ⟨rfl, ?_, trivial⟩ rfl
    refine congrArg some (congrArg Value.bool ?_)
    clear hmc hmm hokd
    simp_all
   ·refine step_pure rfl (pure_fieldAddr rfl rfl rfl rfl rfl (by decide)) ?_
    first | refine step_pure rfl (pure_load (i := 0) rfl rfl rfl rfl rfl rfl) ?_ | refine step_pure rfl (pure_load (i := 1) rfl rfl rfl rfl rfl rfl) ?_ | refine step_pure rfl (pure_load (i := 2) rfl rfl rfl rfl rfl rfl) ?_ | refine step_pure rfl (pure_load (i := 3) rfl rfl rfl rfl rfl rfl) ?_ | refine step_pure rfl (pure_load (i := 4) rfl rfl rfl rfl rfl rfl) ?_ | refine step_pure rfl (pure_load (i := 5) rfl rfl rfl rfl rfl rfl) ?_
    refine qm rfl rfl ?_
    refine step_gives rfl fun17 rfl (fun w' hh kp => hmm w' kp) ?_
    refine step_pure rfl (pure_not rfl) ?_
    refine step_pure rfl (pure_pick_no rfl rfl) ?_
    refine step_nil ?_
    refine less_of ⟨rfl, ?_, trivial⟩ rfl
    refine congrArg some (congrArg Value.bool ?_)
    clear hmc hmm hokd
    simp_all
  clear hmc hmm
  rw [← Bool.and_assoc] at hokd
  cases hcm : (okCells s.cells (s.W * s.H) && okCells s.main (if s.alt = true then s.W * s.H else 0)) with
  | false =>
   rw [hcm, Bool.false_and] at hokd
   rw [hokd]
   repeat refine c_seq ?_
   refine c_cond_yes rfl rfl ?_
   repeat refine c_seq ?_
   refine c_region ?_
   refine qa rfl rfl ?_
   refine step_nil ?_
   exact c_ret ⟨_, res_tmp Try.results8 rfl, rfl⟩
  | true =>
   rw [hcm, Bool.true_and] at hokd
   repeat refine c_seq ?_
   refine c_cond_no rfl rfl ?_
   refine c_skip ?_
   unfold scC
   repeat refine c_seq ?_
   refine c_meet [(1, .pointer (some ⟨b1, 0, none⟩)), (5, .bool (decide ((0 ≤ s.X ∧ s.X < s.W) ∧ (0 ≤ s.Y ∧ s.Y < s.H) ∧ (0 ≤ s.A ∧ s.A ≤ 2047))))] [⟨b1, scC s v1 v2, 32⟩] ?_ ?_
   ·clear hokd hcm hw
    repeat refine c_seq ?_
    refine c_region ?_
    refine step_pure rfl (pure_fieldAddr rfl rfl rfl rfl rfl (by decide)) ?_
    first | refine step_pure rfl (pure_load (i := 0) rfl rfl rfl rfl rfl rfl) ?_ | refine step_pure rfl (pure_load (i := 1) rfl rfl rfl rfl rfl rfl) ?_ | refine step_pure rfl (pure_load (i := 2) rfl rfl rfl rfl rfl rfl) ?_ | refine step_pure rfl (pure_load (i := 3) rfl rfl rfl rfl rfl rfl) ?_ | refine step_pure rfl (pure_load (i := 4) rfl rfl rfl rfl rfl rfl) ?_ | refine step_pure rfl (pure_load (i := 5) rfl rfl rfl rfl rfl rfl) ?_
    refine step_pure rfl (pure_fieldAddr rfl rfl rfl rfl rfl (by decide)) ?_
    first | refine step_pure rfl (pure_load (i := 0) rfl rfl rfl rfl rfl rfl) ?_ | refine step_pure rfl (pure_load (i := 1) rfl rfl rfl rfl rfl rfl) ?_ | refine step_pure rfl (pure_load (i := 2) rfl rfl rfl rfl rfl rfl) ?_ | refine step_pure rfl (pure_load (i := 3) rfl rfl rfl rfl rfl rfl) ?_ | refine step_pure rfl (pure_load (i := 4) rfl rfl rfl rfl rfl rfl) ?_ | refine step_pure rfl (pure_load (i := 5) rfl rfl rfl rfl rfl rfl) ?_
    first | refine step_pure rfl (pure_sub64 rfl rfl (by omega) (by omega)) ?_ | refine step_pure rfl (pure_sub rfl rfl) ?_
    refine step_gives rfl fun16 rfl (fun w _ _ => within_any _ _ _ w) ?_
    refine qm rfl rfl ?_
    refine step_split (t := 48) rfl (fun h48 => ?_) (fun h48 => ?_)
    ·refine step_pure rfl (pure_fieldAddr rfl rfl rfl rfl rfl (by decide)) ?_
     first | refine step_pure rfl (pure_load (i := 0) rfl rfl rfl rfl rfl rfl) ?_ | refine step_pure rfl (pure_load (i := 1) rfl rfl rfl rfl rfl rfl) ?_ | refine step_pure rfl (pure_load (i := 2) rfl rfl rfl rfl rfl rfl) ?_ | refine step_pure rfl (pure_load (i := 3) rfl rfl rfl rfl rfl rfl) ?_ | refine step_pure rfl (pure_load (i := 4) rfl rfl rfl rfl rfl rfl) ?_ | refine step_pure rfl (pure_load (i := 5) rfl rfl rfl rfl rfl rfl) ?_
     refine step_pure rfl (pure_fieldAddr rfl rfl rfl rfl rfl (by decide)) ?_
     first | refine step_pure rfl (pure_load (i := 0) rfl rfl rfl rfl rfl rfl) ?_ | refine step_pure rfl (pure_load (i := 1) rfl rfl rfl rfl rfl rfl) ?_ | refine step_pure rfl (pure_load (i := 2) rfl rfl rfl rfl rfl rfl) ?_ | refine step_pure rfl (pure_load (i := 3) rfl rfl rfl rfl rfl rfl) ?_ | refine step_pure rfl (pure_load (i := 4) rfl rfl rfl rfl rfl rfl) ?_ | refine step_pure rfl (pure_load (i := 5) rfl rfl rfl rfl rfl rfl) ?_
     first | refine step_pure rfl (pure_sub64 rfl rfl (by omega) (by omega)) ?_ | refine step_pure rfl (pure_sub rfl rfl) ?_
     refine step_gives rfl fun16 rfl (fun w _ _ => within_any _ _ _ w) ?_
     refine step_pure rfl (pure_pick_yes rfl rfl) ?_
     refine qm rfl rfl ?_
     refine step_split (t := 56) rfl (fun h56 => ?_) (fun h56 => ?_)
     ·refine step_pure rfl (pure_fieldAddr rfl rfl rfl rfl rfl (by decide)) ?_
      first | refine step_pure rfl (pure_load (i := 0) rfl rfl rfl rfl rfl rfl) ?_ | refine step_pure rfl (pure_load (i := 1) rfl rfl rfl rfl rfl rfl) ?_ | refine step_pure rfl (pure_load (i := 2) rfl rfl rfl rfl rfl rfl) ?_ | refine step_pure rfl (pure_load (i := 3) rfl rfl rfl rfl rfl rfl) ?_ | refine step_pure rfl (pure_load (i := 4) rfl rfl rfl rfl rfl rfl) ?_ | refine step_pure rfl (pure_load (i := 5) rfl rfl rfl rfl rfl rfl) ?_
      refine step_gives rfl fun16 rfl (fun w _ _ => within_any _ _ _ w) ?_
      refine step_pure rfl (pure_pick_yes rfl rfl) ?_
      refine qa rfl rfl ?_
      refine step_nil ?_
      refine less_of ⟨rfl, ?_, trivial⟩ rfl
      refine congrArg some (congrArg Value.bool ?_)
      rw [Bool.eq_iff_iff]
      simp_all
      try omega
     ·refine qp rfl rfl rfl ?_
      refine qp rfl rfl rfl ?_
      refine qp rfl rfl rfl ?_
      refine step_pure rfl (pure_pick_no rfl rfl) ?_
      refine qa rfl rfl ?_
      refine step_nil ?_
      refine less_of ⟨rfl, ?_, trivial⟩ rfl
      refine congrArg some (congrArg Value.bool ?_)
      rw [Bool.eq_iff_iff]
      simp_all
      try omega
    ·refine qp rfl rfl rfl ?_
     refine qp rfl rfl rfl ?_
     refine qp rfl rfl rfl ?_
     refine qp rfl rfl rfl ?_
     refine qp rfl rfl rfl ?_
     refine qp rfl rfl rfl ?_
     refine step_pure rfl (pure_pick_no rfl rfl) ?_
     refine qm rfl rfl ?_
     refine qp rfl rfl rfl ?_
     refine qp rfl rfl rfl ?_
     refine qp rfl rfl rfl ?_
     refine step_pure rfl (pure_pick_no rfl rfl) ?_
     refine qa rfl rfl ?_
     refine step_nil ?_
     refine less_of ⟨rfl, ?_, trivial⟩ rfl
     refine congrArg some (congrArg Value.bool ?_)
     rw [Bool.eq_iff_iff]
     simp_all
     try omega
   unfold scC
   repeat refine c_seq ?_
   refine c_meet [(1, .pointer (some ⟨b1, 0, none⟩)), (5, .bool (decide ((0 ≤ s.X ∧ s.X < s.W) ∧ (0 ≤ s.Y ∧ s.Y < s.H) ∧ (0 ≤ s.A ∧ s.A ≤ 2047)))), (6, .bool (decide (0 ≤ s.top ∧ s.top ≤ s.bot ∧ s.bot < s.H)))] [⟨b1, scC s v1 v2, 32⟩] ?_ ?_
   ·clear hokd hcm hw
    repeat refine c_seq ?_
    refine c_region ?_
    refine step_pure rfl (pure_fieldAddr rfl rfl rfl rfl rfl (by decide)) ?_
    first | refine step_pure rfl (pure_load (i := 0) rfl rfl rfl rfl rfl rfl) ?_ | refine step_pure rfl (pure_load (i := 1) rfl rfl rfl rfl rfl rfl) ?_ | refine step_pure rfl (pure_load (i := 2) rfl rfl rfl rfl rfl rfl) ?_ | refine step_pure rfl (pure_load (i := 3) rfl rfl rfl rfl rfl rfl) ?_ | refine step_pure rfl (pure_load (i := 4) rfl rfl rfl rfl rfl rfl) ?_ | refine step_pure rfl (pure_load (i := 5) rfl rfl rfl rfl rfl rfl) ?_
    refine step_pure rfl (pure_fieldAddr rfl rfl rfl rfl rfl (by decide)) ?_
    first | refine step_pure rfl (pure_load (i := 0) rfl rfl rfl rfl rfl rfl) ?_ | refine step_pure rfl (pure_load (i := 1) rfl rfl rfl rfl rfl rfl) ?_ | refine step_pure rfl (pure_load (i := 2) rfl rfl rfl rfl rfl rfl) ?_ | refine step_pure rfl (pure_load (i := 3) rfl rfl rfl rfl rfl rfl) ?_ | refine step_pure rfl (pure_load (i := 4) rfl rfl rfl rfl rfl rfl) ?_ | refine step_pure rfl (pure_load (i := 5) rfl rfl rfl rfl rfl rfl) ?_
    refine step_gives rfl fun16 rfl (fun w _ _ => within_any _ _ _ w) ?_
    refine qm rfl rfl ?_
    refine step_split (t := 66) rfl (fun h66 => ?_) (fun h66 => ?_)
    ·refine step_pure rfl (pure_fieldAddr rfl rfl rfl rfl rfl (by decide)) ?_
     first | refine step_pure rfl (pure_load (i := 0) rfl rfl rfl rfl rfl rfl) ?_ | refine step_pure rfl (pure_load (i := 1) rfl rfl rfl rfl rfl rfl) ?_ | refine step_pure rfl (pure_load (i := 2) rfl rfl rfl rfl rfl rfl) ?_ | refine step_pure rfl (pure_load (i := 3) rfl rfl rfl rfl rfl rfl) ?_ | refine step_pure rfl (pure_load (i := 4) rfl rfl rfl rfl rfl rfl) ?_ | refine step_pure rfl (pure_load (i := 5) rfl rfl rfl rfl rfl rfl) ?_
     refine step_pure rfl (pure_fieldAddr rfl rfl rfl rfl rfl (by decide)) ?_
     first | refine step_pure rfl (pure_load (i := 0) rfl rfl rfl rfl rfl rfl) ?_ | refine step_pure rfl (pure_load (i := 1) rfl rfl rfl rfl rfl rfl) ?_ | refine step_pure rfl (pure_load (i := 2) rfl rfl rfl rfl rfl rfl) ?_ | refine step_pure rfl (pure_load (i := 3) rfl rfl rfl rfl rfl rfl) ?_ | refine step_pure rfl (pure_load (i := 4) rfl rfl rfl rfl rfl rfl) ?_ | refine step_pure rfl (pure_load (i := 5) rfl rfl rfl rfl rfl rfl) ?_
     refine step_pure rfl (pure_lss rfl rfl) ?_
     refine step_pure rfl (pure_pick_yes rfl rfl) ?_
     refine qa rfl rfl ?_
     refine step_nil ?_
     refine less_of ⟨rfl, rfl, ?_, trivial⟩ rfl
     refine congrArg some (congrArg Value.bool ?_)
     rw [Bool.eq_iff_iff]
     simp_all
     try omega
    ·refine qp rfl rfl rfl ?_
     refine qp rfl rfl rfl ?_
     refine qp rfl rfl rfl ?_
     refine qp rfl rfl rfl ?_
     refine qp rfl rfl rfl ?_
     refine step_pure rfl (pure_pick_no rfl rfl) ?_
     refine qa rfl rfl ?_
     refine step_nil ?_
     refine less_of ⟨rfl, rfl, ?_, trivial⟩ rfl
     refine congrArg some (congrArg Value.bool ?_)
     rw [Bool.eq_iff_iff]
     simp_all
     try omega
   unfold scC
   repeat refine c_seq ?_
   refine c_meet [(99, .bool (!scOk s))] [] ?_ ?_
   ·rw [hokd]
    have hsp : decide ((0 ≤ s.X ∧ s.X < s.W) ∧ (0 ≤ s.Y ∧ s.Y < s.H) ∧ (0 ≤ s.A ∧ s.A ≤ 2047) ∧ (0 ≤ s.top ∧ s.top ≤ s.bot ∧ s.bot < s.H) ∧ (0 ≤ s.s0 ∧ s.s0 < 64) ∧ (0 ≤ s.s1 ∧ s.s1 < 64) ∧ (0 ≤ s.s2 ∧ s.s2 ≤ 2047)) =
      (decide ((0 ≤ s.X ∧ s.X < s.W) ∧ (0 ≤ s.Y ∧ s.Y < s.H) ∧ (0 ≤ s.A ∧ s.A ≤ 2047)) && (decide (0 ≤ s.top ∧ s.top ≤ s.bot ∧ s.bot < s.H) && (decide (0 ≤ s.s0 ∧ s.s0 ≤ 63) && (decide (0 ≤ s.s1 ∧ s.s1 ≤ 63) && decide (0 ≤ s.s2 ∧ s.s2 ≤ 2047))))) := by
     rw [Bool.eq_iff_iff]
     simp only [Bool.and_eq_true, decide_eq_true_eq]
     omega
    rw [hsp]
    clear hokd hcm hw hsp
    generalize decide ((0 ≤ s.X ∧ s.X < s.W) ∧ (0 ≤ s.Y ∧ s.Y < s.H) ∧ (0 ≤ s.A ∧ s.A ≤ 2047)) = d1
    generalize decide (0 ≤ s.top ∧ s.top ≤ s.bot ∧ s.bot < s.H) = d2
    have hw0 := fun w => within_any s.s0 0 63 w
    have hw1 := fun w => within_any s.s1 0 63 w
    have hw2 := fun w => within_any s.s2 0 2047 w
    generalize decide (0 ≤ s.s0 ∧ s.s0 ≤ 63) = d3 at *
    generalize decide (0 ≤ s.s1 ∧ s.s1 ≤ 63) = d4 at *
    generalize decide (0 ≤ s.s2 ∧ s.s2 ≤ 2047) = d5 at *
    repeat refine c_seq ?_
    refine c_region ?_
    refine qm rfl rfl ?_
    refine step_pure rfl (pure_not rfl) ?_
    refine qm rfl rfl ?_
    refine step_split (t := 75) rfl (fun h75 => ?_) (fun h75 => ?_)
    ·refine qp rfl rfl rfl ?_
     refine qp rfl rfl rfl ?_
     refine step_pure rfl (pure_pick_yes rfl rfl) ?_
     refine qm rfl rfl ?_
     refine qp rfl rfl rfl ?_
     refine qp rfl rfl rfl ?_
     refine qp rfl rfl rfl ?_
     refine qp rfl rfl rfl ?_
     refine qp rfl rfl rfl ?_
     refine step_pure rfl (pure_pick_yes rfl rfl) ?_
     refine qm rfl rfl ?_
     refine qp rfl rfl rfl ?_
     refine qp rfl rfl rfl ?_
     refine qp rfl rfl rfl ?_
     refine qp rfl rfl rfl ?_
     refine qp rfl rfl rfl ?_
     refine step_pure rfl (pure_pick_yes rfl rfl) ?_
     refine qm rfl rfl ?_
     refine qp rfl rfl rfl ?_
     refine qp rfl rfl rfl ?_
     refine qp rfl rfl rfl ?_
     refine qp rfl rfl rfl ?_
     refine qp rfl rfl rfl ?_
     refine step_pure rfl (pure_pick_yes rfl rfl) ?_
     refine step_nil ?_
     refine less_sub ⟨?_, trivial⟩ (by repeat (first | exact List.Sublist.refl _ | exact List.nil_sublist _ | apply List.Sublist.cons_cons | apply List.Sublist.cons))
     refine congrArg some (congrArg Value.bool ?_)
     clear hw0 hw1 hw2
     simp_all
    ·refine qm rfl rfl ?_
     refine step_pure rfl (pure_not rfl) ?_
     refine step_pure rfl (pure_pick_no rfl rfl) ?_
     refine qm rfl rfl ?_
     refine step_split (t := 79) rfl (fun h79 => ?_) (fun h79 => ?_)
     ·refine qp rfl rfl rfl ?_
      refine qp rfl rfl rfl ?_
      refine qp rfl rfl rfl ?_
      refine qp rfl rfl rfl ?_
      refine qp rfl rfl rfl ?_
      refine step_pure rfl (pure_pick_yes rfl rfl) ?_
      refine qm rfl rfl ?_
      refine qp rfl rfl rfl ?_
      refine qp rfl rfl rfl ?_
      refine qp rfl rfl rfl ?_
      refine qp rfl rfl rfl ?_
      refine qp rfl rfl rfl ?_
      refine step_pure rfl (pure_pick_yes rfl rfl) ?_
      refine qm rfl rfl ?_
      refine qp rfl rfl rfl ?_
      refine qp rfl rfl rfl ?_
      refine qp rfl rfl rfl ?_
      refine qp rfl rfl rfl ?_
      refine qp rfl rfl rfl ?_
      refine step_pure rfl (pure_pick_yes rfl rfl) ?_
      refine step_nil ?_
      refine less_sub ⟨?_, trivial⟩ (by repeat (first | exact List.Sublist.refl _ | exact List.nil_sublist _ | apply List.Sublist.cons_cons | apply List.Sublist.cons))
      refine congrArg some (congrArg Value.bool ?_)
      clear hw0 hw1 hw2
      simp_all
     ·refine step_pure rfl (pure_fieldAddr rfl rfl rfl rfl rfl (by decide)) ?_
      first | refine step_pure rfl (pure_ix rfl rfl rfl rfl rfl (by decide) (by decide) rfl) ?_ | refine step_pure rfl (pure_ix rfl rfl rfl rfl rfl (by omega) (by omega) rfl) ?_
      first | refine step_pure rfl (pure_load (i := 0) rfl rfl rfl rfl rfl rfl) ?_ | refine step_pure rfl (pure_load (i := 1) rfl rfl rfl rfl rfl rfl) ?_ | refine step_pure rfl (pure_load (i := 2) rfl rfl rfl rfl rfl rfl) ?_ | refine step_pure rfl (pure_load (i := 3) rfl rfl rfl rfl rfl rfl) ?_ | refine step_pure rfl (pure_load (i := 4) rfl rfl rfl rfl rfl rfl) ?_ | refine step_pure rfl (pure_load (i := 5) rfl rfl rfl rfl rfl rfl) ?_
      refine step_gives rfl fun16 rfl (fun w _ _ => hw0 w) ?_
      refine step_pure rfl (pure_not rfl) ?_
      refine step_pure rfl (pure_pick_no rfl rfl) ?_
      refine qm rfl rfl ?_
      refine step_split (t := 86) rfl (fun h86 => ?_) (fun h86 => ?_)
      ·refine qp rfl rfl rfl ?_
       refine qp rfl rfl rfl ?_
       refine qp rfl rfl rfl ?_
       refine qp rfl rfl rfl ?_
       refine qp rfl rfl rfl ?_
       refine step_pure rfl (pure_pick_yes rfl rfl) ?_
       refine qm rfl rfl ?_
       refine qp rfl rfl rfl ?_
       refine qp rfl rfl rfl ?_
       refine qp rfl rfl rfl ?_
       refine qp rfl rfl rfl ?_
       refine qp rfl rfl rfl ?_
       refine step_pure rfl (pure_pick_yes rfl rfl) ?_
       refine step_nil ?_
       refine less_sub ⟨?_, trivial⟩ (by repeat (first | exact List.Sublist.refl _ | exact List.nil_sublist _ | apply List.Sublist.cons_cons | apply List.Sublist.cons))
       refine congrArg some (congrArg Value.bool ?_)
       clear hw0 hw1 hw2
       simp_all
      ·refine step_pure rfl (pure_fieldAddr rfl rfl rfl rfl rfl (by decide)) ?_
       first | refine step_pure rfl (pure_ix rfl rfl rfl rfl rfl (by decide) (by decide) rfl) ?_ | refine step_pure rfl (pure_ix rfl rfl rfl rfl rfl (by omega) (by omega) rfl) ?_
       first | refine step_pure rfl (pure_load (i := 0) rfl rfl rfl rfl rfl rfl) ?_ | refine step_pure rfl (pure_load (i := 1) rfl rfl rfl rfl rfl rfl) ?_ | refine step_pure rfl (pure_load (i := 2) rfl rfl rfl rfl rfl rfl) ?_ | refine step_pure rfl (pure_load (i := 3) rfl rfl rfl rfl rfl rfl) ?_ | refine step_pure rfl (pure_load (i := 4) rfl rfl rfl rfl rfl rfl) ?_ | refine step_pure rfl (pure_load (i := 5) rfl rfl rfl rfl rfl rfl) ?_
       refine step_gives rfl fun16 rfl (fun w _ _ => hw1 w) ?_
       refine step_pure rfl (pure_not rfl) ?_
       refine step_pure rfl (pure_pick_no rfl rfl) ?_
       refine qm rfl rfl ?_
       refine step_split (t := 93) rfl (fun h93 => ?_) (fun h93 => ?_)
       ·refine qp rfl rfl rfl ?_
        refine qp rfl rfl rfl ?_
        refine qp rfl rfl rfl ?_
        refine qp rfl rfl rfl ?_
        refine qp rfl rfl rfl ?_
        refine step_pure rfl (pure_pick_yes rfl rfl) ?_
        refine step_nil ?_
        refine less_sub ⟨?_, trivial⟩ (by repeat (first | exact List.Sublist.refl _ | exact List.nil_sublist _ | apply List.Sublist.cons_cons | apply List.Sublist.cons))
        refine congrArg some (congrArg Value.bool ?_)
        clear hw0 hw1 hw2
        simp_all
       ·refine step_pure rfl (pure_fieldAddr rfl rfl rfl rfl rfl (by decide)) ?_
        first | refine step_pure rfl (pure_ix rfl rfl rfl rfl rfl (by decide) (by decide) rfl) ?_ | refine step_pure rfl (pure_ix rfl rfl rfl rfl rfl (by omega) (by omega) rfl) ?_
        first | refine step_pure rfl (pure_load (i := 0) rfl rfl rfl rfl rfl rfl) ?_ | refine step_pure rfl (pure_load (i := 1) rfl rfl rfl rfl rfl rfl) ?_ | refine step_pure rfl (pure_load (i := 2) rfl rfl rfl rfl rfl rfl) ?_ | refine step_pure rfl (pure_load (i := 3) rfl rfl rfl rfl rfl rfl) ?_ | refine step_pure rfl (pure_load (i := 4) rfl rfl rfl rfl rfl rfl) ?_ | refine step_pure rfl (pure_load (i := 5) rfl rfl rfl rfl rfl rfl) ?_
        refine step_gives rfl fun16 rfl (fun w _ _ => hw2 w) ?_
        refine step_pure rfl (pure_not rfl) ?_
        refine step_pure rfl (pure_pick_no rfl rfl) ?_
        refine step_nil ?_
        refine less_sub ⟨?_, trivial⟩ (by repeat (first | exact List.Sublist.refl _ | exact List.nil_sublist _ | apply List.Sublist.cons_cons | apply List.Sublist.cons))
        refine congrArg some (congrArg Value.bool ?_)
        clear hw0 hw1 hw2
        simp_all
   cases hok : scOk s with
   | false =>
    repeat refine c_seq ?_
    refine c_cond_yes rfl rfl ?_
    repeat refine c_seq ?_
    refine c_region ?_
    refine qa rfl rfl ?_
    refine step_nil ?_
    exact c_ret ⟨_, res_tmp Try.results8 rfl, rfl⟩
   | true =>
    repeat refine c_seq ?_
    refine c_cond_no rfl rfl ?_
    refine c_skip ?_
    repeat refine c_seq ?_
    refine c_region ?_
    refine qa rfl rfl ?_
    refine step_nil ?_
    exact c_ret ⟨_, res_tmp Try.results8 rfl, rfl⟩
 ·rw [decide_eq_false hsd] at hokd ⊢
  rw [Bool.false_and] at hokd
  rw [hokd]
  clear hmc hmm
  unfold scC
  repeat refine c_seq ?_
  refine c_meet [(41, .bool true)] [] ?_ ?_
  ·repeat refine c_seq ?_
   refine c_region ?_
   refine qm rfl rfl ?_
   refine step_pure rfl (pure_not rfl) ?_
   refine qm rfl rfl ?_
   refine qp rfl rfl rfl ?_
   refine qp rfl rfl rfl ?_
   refine qp rfl rfl rfl ?_
   refine qp rfl rfl rfl ?_
   refine qp rfl rfl rfl ?_
   refine qp rfl rfl rfl ?_
   refine qp rfl rfl rfl ?_
   refine qp rfl rfl rfl ?_
   refine qp rfl rfl rfl ?_
   refine step_pure rfl (pure_pick_yes rfl rfl) ?_
   refine qm rfl rfl ?_
   refine qp rfl rfl rfl ?_
   refine qp rfl rfl rfl ?_
   refine qp rfl rfl rfl ?_
   refine qp rfl rfl rfl ?_
   refine qp rfl rfl rfl ?_
   refine step_pure rfl (pure_pick_yes rfl rfl) ?_
   refine step_nil ?_
   exact less_sub ⟨rfl, trivial⟩ (by repeat (first | exact List.Sublist.refl _ | exact List.nil_sublist _ | apply List.Sublist.cons_cons | apply List.Sublist.cons))
  repeat refine c_seq ?_
  refine c_cond_yes rfl rfl ?_
  repeat refine c_seq ?_
  refine c_region ?_
  refine qa rfl rfl ?_
  refine step_nil ?_
  exact c_ret ⟨_, res_tmp Try.results8 rfl, rfl⟩
end Go.Proofs.Ytadginombcjbeaa
