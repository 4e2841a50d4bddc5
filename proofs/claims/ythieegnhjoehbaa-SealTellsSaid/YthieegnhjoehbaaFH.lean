/- The document's numbers, read: walked. -/
import Derived.Test.YthieegnhjoehbaaFA
import Derived.Test.YthieegnhjoehbaaFG
namespace Go.Proofs.Ythieegnhjoehbaa
open Go.RowKit Go.Vc
set_option linter.unusedVariables false
set_option maxHeartbeats 1000000 in
theorem rget_any (b : List Int) (v : Value) (w : World) (hv : SlV w v (row b)) (hb : Bytes b) (hl : b.length ≤ 140737488355328) :
  Gives tb 58 [v] w (.tuple #[.int .i64 (gN b), .int .i64 (gS b), .int .i64 (gE b)]) := by
 obtain ⟨base0, cap0, rfl, hc⟩ := hv.is
 rw [row_len] at hv ⊢
 have hroom := hv.room _ _ _ rfl
 have res3 : ∀ {rs : Rs} {m : Mem} {v x y : Value}, Vc.look rs 2 = some v → Vc.look rs 3 = some x → Vc.look rs 4 = some y → ResIs tb Try.f58 rs m (.tuple #[v, x, y]) := by
  intro rs m v x y h1 h2 h3
  refine ⟨fun a w hr hh => ?_⟩
  have g1 := hr _ _ h1
  have g2 := hr _ _ h2
  have g3 := hr _ _ h3
  simp [results, Try.results58, Array.getD_eq_getD_getElem?, g1, g2, g3]
 refine gives_of (fn := Try.f58) Try.func58 rfl Try.ntmps58 rfl ?_
 repeat refine c_seq ?_
 refine c_region ?_
 refine qa rfl rfl ?_
 refine qa rfl rfl ?_
 refine qa rfl rfl ?_
 refine step_nil ?_
 repeat refine c_seq ?_
 refine c_region ?_
 refine qm rfl rfl ?_
 refine step_pure rfl (pure_len_slice rfl rfl rfl) ?_
 refine step_pure rfl (pure_eql rfl rfl) ?_
 refine step_nil ?_
 repeat refine c_seq ?_
 refine c_cond rfl (fun h => ?_) (fun h => ?_)
 ·have h0 : b = [] := List.eq_nil_of_length_eq_zero (by have := eq_of_beq h; omega)
  repeat refine c_seq ?_
  refine c_region ?_
  refine qa rfl rfl ?_
  refine qa rfl rfl ?_
  refine qa rfl rfl ?_
  refine step_nil ?_
  refine c_ret ⟨_, res3 rfl rfl rfl, ?_⟩
  rw [h0]; rfl
 have h0 : b.length ≠ 0 := by have := ne_of_beq_false h; omega
 clear h
 obtain ⟨p, rfl, hp⟩ := hc (by intro h; have := row_len b; rw [h] at this; simp at this; omega)
 obtain ⟨x, r, rfl⟩ : ∃ x r, b = x :: r := by cases b with
  | nil => simp at h0
  | cons x r => exact ⟨x, r, rfl⟩
 have hx := hb x (.head _)
 have hr : Bytes r := fun y hy => hb y (.tail _ hy)
 obtain ⟨k, hk, hk4⟩ : ∃ k : Nat, x / 64 = k ∧ k < 4 := ⟨(x / 64).toNat, by omega, by omega⟩
 have hcell0 : w.cell? (p.add 0) = some (.int .u8 x) := hp 0 _ rfl
 have hpow : ∀ j : Nat, j ≤ k → (2 : Nat) ^ j = 1 ∨ (2 : Nat) ^ j = 2 ∨ (2 : Nat) ^ j = 4 ∨ (2 : Nat) ^ j = 8 := by
  intro j hj
  obtain rfl | rfl | rfl | rfl : j = 0 ∨ j = 1 ∨ j = 2 ∨ j = 3 := by omega
  all_goals decide
 have hgt : gt (x :: r) = if (2 : Nat) ^ k ≤ r.length + 1 then (if vsize (fold (x % 64) (r.take (2 ^ k - 1))) = 2 ^ k then some (fold (x % 64) (r.take (2 ^ k - 1)), 2 ^ k) else none) else none := by
  rw [show k = (x / 64).toNat by omega]; rfl
 refine c_skip ?_
 repeat refine c_seq ?_
 refine c_region ?_
 refine qa rfl rfl ?_
 refine step_nil ?_
 repeat refine c_seq ?_
 refine c_region ?_
 refine qa rfl rfl ?_
 refine step_nil ?_
 repeat refine c_seq ?_
 refine c_block ?_
 repeat refine c_seq ?_
 refine c_loop (α := Nat) (fun i => [(0, .slice (some p) (x :: r).length cap0), (5, .int .i64 ((2 ^ i : Nat) : Int)), (6, .int .i64 i)]) (fun _ => []) (fun i => i ≤ k) (fun i => k - i) 0 (Nat.zero_le _) (less_regs ⟨rfl, rfl, rfl, trivial⟩) ?_
 intro i hi
 have h2i := hpow i hi
 repeat refine c_seq ?_
 refine c_region ?_
 refine qm rfl rfl ?_
 refine qm rfl rfl ?_
 refine step_pure rfl (pure_indexAddr_at rfl rfl rfl rfl rfl (by decide) (by simp)) ?_
 refine step_pure rfl (pure_view_at rfl rfl rfl hcell0 List.not_mem_nil) ?_
 refine step_as rfl (pure_conv rfl rfl rfl rfl) (show _ = Value.int .i64 x from by rw [wrap_i64 (by omega) (by omega)]) ?_
 refine step_as rfl (pure_quo_pos rfl rfl (by omega) (by omega) (by decide)) (show _ = Value.int .i64 (k : Int) from by rw [hk]) ?_
 refine step_pure rfl (pure_lss rfl rfl) ?_
 refine step_nil ?_
 repeat refine c_seq ?_
 refine c_cond rfl (fun h => ?_) (fun h => ?_)
 ·have hlt : i < k := by have := of_decide_eq_true h; omega
  clear h
  refine c_skip ?_
  repeat refine c_seq ?_
  refine c_block ?_
  have h2s : (2 : Nat) ^ (i + 1) = 2 * 2 ^ i := by rw [Nat.pow_succ, Nat.mul_comm]
  repeat refine c_seq ?_
  refine c_region ?_
  refine qm rfl rfl ?_
  refine step_as rfl (pure_mul64 rfl rfl (by omega) (by omega)) (show _ = Value.int .i64 ((2 ^ (i + 1) : Nat) : Int) from by rw [h2s]; congr 1) ?_
  refine qa rfl rfl ?_
  refine step_nil ?_
  repeat refine c_seq ?_
  refine c_region ?_
  refine qm rfl rfl ?_
  refine step_pure rfl (pure_add64 rfl rfl (by omega) (by omega)) ?_
  refine qa rfl rfl ?_
  refine step_nil ?_
  exact ⟨i + 1, by omega, by omega, less_regs ⟨rfl, rfl, rfl, trivial⟩⟩
 have hik : i = k := by have := of_decide_eq_false h; omega
 subst hik
 clear h
 refine c_exit ?_
 generalize hs : (2 : Nat) ^ i = s at *
 repeat refine c_seq ?_
 refine c_region ?_
 refine qm rfl rfl ?_
 refine step_pure rfl (pure_len_slice rfl rfl rfl) ?_
 refine qm rfl rfl ?_
 refine step_pure rfl (pure_lss rfl rfl) ?_
 refine step_nil ?_
 repeat refine c_seq ?_
 refine c_cond rfl (fun h => ?_) (fun h => ?_)
 ·have hlt : ¬ s ≤ r.length + 1 := by have := of_decide_eq_true h; simp only [List.length_cons] at this; omega
  repeat refine c_seq ?_
  refine c_region ?_
  refine qa rfl rfl ?_
  refine qa rfl rfl ?_
  refine qa rfl rfl ?_
  refine step_nil ?_
  refine c_ret ⟨_, res3 rfl rfl rfl, ?_⟩
  unfold gN gS gE
  rw [hgt, if_neg hlt]
  rfl
 have hle : s ≤ r.length + 1 := by have := of_decide_eq_false h; simp only [List.length_cons] at this; omega
 clear h
 rw [if_pos hle] at hgt
 refine c_skip ?_
 have htb : Bytes (r.take (s - 1)) := fun y hy => hr y (List.mem_of_mem_take hy)
 have htl : (r.take (s - 1)).length = s - 1 := by rw [List.length_take]; omega
 have hcl : ∀ j, j < s - 1 → w.cell? (p.add (j + 1)) = some (.int .u8 ((r.take (s - 1)).getD j 0)) := by
  intro j hj
  refine hp (j + 1) _ ?_
  show (row r)[j]? = _
  rw [row_get r j (by omega), List.getD_eq_getElem?_getD, List.getD_eq_getElem?_getD, List.getElem?_take, if_pos hj]
 generalize r.take (s - 1) = tl at *
 repeat refine c_seq ?_
 refine c_region ?_
 refine qm rfl rfl ?_
 refine step_pure rfl (pure_indexAddr_at rfl rfl rfl rfl rfl (by decide) (by simp)) ?_
 refine step_pure rfl (pure_view_at rfl rfl rfl hcell0 List.not_mem_nil) ?_
 refine step_as rfl (pure_conv rfl rfl rfl rfl) (show _ = Value.int .i64 x from by rw [wrap_i64 (by omega) (by omega)]) ?_
 refine step_pure rfl (pure_rem_pos rfl rfl (by omega) (by decide)) ?_
 refine qa rfl rfl ?_
 refine step_nil ?_
 repeat refine c_seq ?_
 refine c_region ?_
 refine qa rfl rfl ?_
 refine step_nil ?_
 repeat refine c_seq ?_
 refine c_block ?_
 repeat refine c_seq ?_
 refine c_loop (α := Nat) (fun i => [(0, .slice (some p) (x :: r).length cap0), (5, .int .i64 (s : Int)), (7, .int .i64 (fold (x % 64) (tl.take i))), (8, .int .i64 ((i + 1 : Nat) : Int))])
  (fun _ => []) (fun i => i ≤ s - 1) (fun i => s - 1 - i) 0 (Nat.zero_le _) (less_regs ⟨rfl, rfl, rfl, rfl, trivial⟩) ?_
 intro j hj
 repeat refine c_seq ?_
 refine c_region ?_
 refine qm rfl rfl ?_
 refine qm rfl rfl ?_
 refine step_pure rfl (pure_lss rfl rfl) ?_
 refine step_nil ?_
 repeat refine c_seq ?_
 refine c_cond rfl (fun h => ?_) (fun h => ?_)
 ·have hlt : j < s - 1 := by have := of_decide_eq_true h; omega
  clear h
  have hci := hcl j hlt
  have hby := htb.at j
  have hfl := fold_lt (tl.take j) (fun y hy => htb y (List.mem_of_mem_take hy)) (x % 64) (by omega)
  have hfn := fold_snoc (x % 64) tl j (by omega)
  have hbd : (x % 64 + 1) * 256 ^ (tl.take j).length ≤ 18014398509481984 := by
   have h1 : (256 : Int) ^ (tl.take j).length ≤ 256 ^ 6 := by
    have : (tl.take j).length ≤ 6 := by rw [List.length_take]; omega
    exact (show ∀ k, k ≤ 6 → (256 : Int) ^ k ≤ 256 ^ 6 by decide) _ this
   have h2 : (x % 64 + 1) * 256 ^ (tl.take j).length ≤ (x % 64 + 1) * 256 ^ 6 := Int.mul_le_mul_of_nonneg_left h1 (by omega)
   have h3 : (x % 64 + 1) * 256 ^ 6 ≤ 64 * 256 ^ 6 := Int.mul_le_mul_of_nonneg_right (by omega) (by decide)
   exact Int.le_trans (Int.le_trans h2 h3) (by decide)
  generalize fold (x % 64) (tl.take j) = N at *
  refine c_skip ?_
  repeat refine c_seq ?_
  refine c_block ?_
  repeat refine c_seq ?_
  refine c_region ?_
  refine qm rfl rfl ?_
  refine step_as rfl (pure_mul64 rfl rfl (by omega) (by omega)) (show _ = Value.int .i64 (N * 256) from by rw [Int.mul_comm]) ?_
  refine qm rfl rfl ?_
  refine qm rfl rfl ?_
  refine step_as rfl (pure_indexAddr_at rfl rfl rfl rfl rfl (by omega) (by simp only [List.length_cons]; omega)) (show _ = Value.pointer (some (p.add (j + 1))) from by show Value.pointer (some (p.add (((j + 1 : Nat) : Int).toNat * 1))) = _; rw [Int.toNat_natCast, Nat.mul_one]) ?_
  refine step_pure rfl (pure_view_at rfl rfl rfl hci List.not_mem_nil) ?_
  refine step_as rfl (pure_conv rfl rfl rfl rfl) (show _ = Value.int .i64 (tl.getD j 0) from by rw [wrap_i64 (by omega) (by omega)]) ?_
  refine step_as rfl (pure_add64 rfl rfl (by omega) (by omega)) (show _ = Value.int .i64 (N * 256 + tl.getD j 0) from rfl) ?_
  refine qa rfl rfl ?_
  refine step_nil ?_
  repeat refine c_seq ?_
  refine c_region ?_
  refine qm rfl rfl ?_
  refine step_as rfl (pure_add64 rfl rfl (by omega) (by omega)) (show _ = Value.int .i64 ((j + 1 + 1 : Nat) : Int) from rfl) ?_
  refine qa rfl rfl ?_
  refine step_nil ?_
  exact ⟨j + 1, by omega, by omega, less_regs ⟨rfl, rfl, by show some (Value.int .i64 (N * 256 + tl.getD j 0)) = _; rw [hfn], rfl, trivial⟩⟩
 have hjs : j = s - 1 := by have := of_decide_eq_false h; omega
 clear h
 have hte : tl.take j = tl := List.take_of_length_le (by omega)
 rw [hte]
 refine c_exit ?_
 repeat refine c_seq ?_
 refine c_region ?_
 refine qm rfl rfl ?_
 refine step_gives rfl fun46 rfl (fun w _ _ => rsize_any _ w) ?_
 refine qm rfl rfl ?_
 refine step_pure rfl (pure_neq rfl rfl) ?_
 refine step_nil ?_
 repeat refine c_seq ?_
 refine c_cond rfl (fun h => ?_) (fun h => ?_)
 ·have hne : vsize (fold (x % 64) tl) ≠ s := fun h' => by rw [h'] at h; simp at h
  rw [if_neg hne] at hgt
  repeat refine c_seq ?_
  refine c_region ?_
  refine qa rfl rfl ?_
  refine qa rfl rfl ?_
  refine qa rfl rfl ?_
  refine step_nil ?_
  refine c_ret ⟨_, res3 rfl rfl rfl, ?_⟩
  unfold gN gS gE
  rw [hgt]
  rfl
 ·have heq : vsize (fold (x % 64) tl) = s := by
   have := h
   simp at this
   omega
  rw [if_pos heq] at hgt
  refine c_skip ?_
  repeat refine c_seq ?_
  refine c_region ?_
  refine qm rfl rfl ?_
  refine qm rfl rfl ?_
  refine qa rfl rfl ?_
  refine qa rfl rfl ?_
  refine qa rfl rfl ?_
  refine step_nil ?_
  refine c_ret ⟨_, res3 rfl rfl rfl, ?_⟩
  unfold gN gS gE
  rw [hgt]
  rfl
end Go.Proofs.Ythieegnhjoehbaa
/- The document's reading of one frame, plain: numbers parsed one behind the other; the frame that they make. -/
namespace Go.Proofs.Ythieegnhjoehbaa
open Go.RowKit Go.Vc
set_option linter.unusedVariables false
set_option linter.unusedSimpArgs false
/-- Numbers one behind the other, at most k: each with the place behind it. -/
def ps : Nat → List Int → Nat → List (Int × Nat)
 | 0, _, _ => []
 | k + 1, b, o => match gt (b.drop o) with
  | none => []
  | some (n, s) => (n, o + s) :: ps k b (o + s)
theorem ps_stop {k : Nat} {b : List Int} {o : Nat} (h : gt (b.drop o) = none) : ps k b o = [] := by
 cases k with
 | zero => rfl
 | succ k => unfold ps; rw [h]
theorem ps_go {k : Nat} {b : List Int} {o : Nat} {n : Int} {s : Nat} (h : gt (b.drop o) = some (n, s)) : ps (k + 1) b o = (n, o + s) :: ps k b (o + s) := by
 show (match gt (b.drop o) with | none => [] | some (n, s) => (n, o + s) :: ps k b (o + s)) = _
 rw [h]
def offs : Nat → List Int → List (Int × Nat)
 | _, [] => []
 | o, n :: ns => (n, o + vsize n) :: offs (o + vsize n) ns
theorem ps_vb : ∀ (ns : List Int) (p t : List Int) (k : Nat), (∀ n ∈ ns, 0 ≤ n ∧ n < 4611686018427387904) → ns.length ≤ k →
  ∃ rest, ps k (p ++ (ns.flatMap vb ++ t)) p.length = offs p.length ns ++ rest
 | [], p, t, k, _, _ => ⟨_, rfl⟩
 | n :: ns, p, t, 0, _, hk => by simp at hk
 | n :: ns, p, t, k + 1, h, hk => by
  obtain ⟨h0, h1⟩ := h n (.head _)
  have hg : gt ((p ++ ((n :: ns).flatMap vb ++ t)).drop p.length) = some (n, vsize n) := by
   rw [List.drop_left, List.flatMap_cons, List.append_assoc]
   exact gt_vb n _ h0 h1
  rw [ps_go hg]
  obtain ⟨rest, hr⟩ := ps_vb ns (p ++ vb n) t k (fun x hx => h x (.tail _ hx)) (by simpa using hk)
  refine ⟨rest, ?_⟩
  rw [List.length_append, vb_len] at hr
  rw [show p ++ ((n :: ns).flatMap vb ++ t) = p ++ vb n ++ (ns.flatMap vb ++ t) by rw [List.flatMap_cons]; simp [List.append_assoc], hr]
  rfl
theorem offs_len : ∀ (ns : List Int) (o : Nat), (offs o ns).length = ns.length
 | [], _ => rfl
 | n :: ns, o => by show (offs _ ns).length + 1 = _; rw [offs_len ns]; rfl
theorem offs_fst : ∀ (ns : List Int) (o : Nat), (offs o ns).map Prod.fst = ns
 | [], _ => rfl
 | n :: ns, o => by show n :: (offs _ ns).map Prod.fst = _; rw [offs_fst ns]
theorem offs_last : ∀ (ns : List Int) (o : Nat), (o :: (offs o ns).map Prod.snd).getD ns.length 0 = o + (ns.flatMap vb).length
 | [], o => by simp [offs]
 | n :: ns, o => by
  have := offs_last ns (o + vsize n)
  rw [List.flatMap_cons, List.length_append, vb_len]
  show ((o + vsize n) :: (offs (o + vsize n) ns).map Prod.snd).getD ns.length 0 = _
  rw [this]
  omega
/-- The i-th number, and the place ahead of the i-th. -/
def pN (P : List (Int × Nat)) (i : Nat) : Int := (P.map Prod.fst).getD i 0
def pAt (P : List (Int × Nat)) (i : Nat) : Nat := (0 :: P.map Prod.snd).getD i 0
def cnt (P : List (Int × Nat)) : Nat := if pN P 0 = 2 then (min (pN P 2) 16).toNat else 0
/-- The frame that numbers make, but for its data. -/
def mk0 (P : List (Int × Nat)) : Fr := ⟨pN P 0, if pN P 0 = 1 then 0 else pN P 1, if pN P 0 = 3 ∨ pN P 0 = 5 then pN P 2 else 0, (List.range (cnt P)).map fun i => (pN P (3 + 2 * i), pN P (4 + 2 * i)), []⟩
def used0 (P : List (Int × Nat)) : Nat := if pN P 0 = 2 then 3 + 2 * cnt P else if pN P 0 = 3 ∨ pN P 0 = 5 then 3 else if pN P 0 = 1 then 1 else 2
def hasD (P : List (Int × Nat)) : Bool := pN P 0 == 3 || pN P 0 == 4
def datN (P : List (Int × Nat)) : Int := if hasD P = true then pN P (used0 P) else 0
def used1 (P : List (Int × Nat)) : Nat := if hasD P = true then used0 P + 1 else used0 P
def lost1 (P : List (Int × Nat)) (b : List Int) : Bool := decide (P.length < used1 P) || decide ((b.length : Int) - pAt P (used1 P) < datN P)
def mkF (P : List (Int × Nat)) (b : List Int) : Fr := { mk0 P with data := if 0 < datN P then (b.drop (pAt P (used1 P))).take (datN P).toNat else [] }
theorem getD_app_left {α : Type} (a b : List α) (i : Nat) (d : α) (h : i < a.length) : (a ++ b).getD i d = a.getD i d := by
 rw [List.getD_eq_getElem?_getD, List.getD_eq_getElem?_getD, List.getElem?_append_left h]
theorem pN_of {ns : List Int} {rest : List (Int × Nat)} {i : Nat} (h : i < ns.length) : pN (offs 0 ns ++ rest) i = ns.getD i 0 := by
 unfold pN
 rw [List.map_append, offs_fst, getD_app_left _ _ _ _ h]
theorem pA_of {ns : List Int} {rest : List (Int × Nat)} : pAt (offs 0 ns ++ rest) ns.length = (ns.flatMap vb).length := by
 unfold pAt
 rw [List.map_append, ← List.cons_append, getD_app_left _ _ _ _ (by simp [offs_len])]
 have := offs_last ns 0
 omega
theorem nuR_get (rs : List (Int × Int)) (i : Nat) (h : i < rs.length) : (nuR rs).getD (2 * i) 0 = (rs.getD i (0, 0)).1 ∧ (nuR rs).getD (2 * i + 1) 0 = (rs.getD i (0, 0)).2 := by
 induction rs generalizing i with
 | nil => simp at h
 | cons r rs ih =>
  cases i with
  | zero => exact ⟨rfl, rfl⟩
  | succ i =>
   have := ih i (by simpa using h)
   show (r.1 :: r.2 :: nuR rs).getD (2 * i + 2) 0 = _ ∧ (r.1 :: r.2 :: nuR rs).getD (2 * i + 2 + 1) 0 = _
   exact this
theorem range_rs (rs : List (Int × Int)) (g : Nat → Int × Int) (h : ∀ i, i < rs.length → g i = rs.getD i (0, 0)) : (List.range rs.length).map g = rs := by
 refine List.ext_getElem (by simp) fun i h1 h2 => ?_
 simp at h1
 rw [List.getElem_map, List.getElem_range, h i h1, List.getD_eq_getElem?_getD, List.getElem?_eq_getElem h1]
 rfl
/-- Of bytes that a frame begins, the numbers make that frame. -/
theorem mkF_of {f : Fr} {r : List Int} (h : fok f = true) : lost1 (ps 40 (fbytes f ++ r) 0) (fbytes f ++ r) = false ∧ mkF (ps 40 (fbytes f ++ r) 0) (fbytes f ++ r) = f := by
 have hin := nums_in h
 obtain ⟨k0, k7, ha0, ha1, hb0, hb1, hr16, hd2, hp0, hrs⟩ := fok_in h
 obtain ⟨w1, w2, w3, w4⟩ := fok_want h
 have hlen := fnums_len f
 have hb : fbytes f ++ r = (fnums f).flatMap vb ++ (f.data ++ (pad f ++ r)) := by
  unfold fbytes pad
  simp [List.append_assoc]
 obtain ⟨rest, hP⟩ := ps_vb (fnums f) [] (f.data ++ (pad f ++ r)) 40 hin (by omega)
 rw [List.nil_append, ← hb] at hP
 change ps 40 (fbytes f ++ r) 0 = offs 0 (fnums f) ++ rest at hP
 have hN : ∀ i, i < (fnums f).length → pN (ps 40 (fbytes f ++ r) 0) i = (fnums f).getD i 0 := fun i hi => by rw [hP]; exact pN_of hi
 have hA : pAt (ps 40 (fbytes f ++ r) 0) (fnums f).length = ((fnums f).flatMap vb).length := by rw [hP]; exact pA_of
 have hPl : (fnums f).length ≤ (ps 40 (fbytes f ++ r) 0).length := by rw [hP, List.length_append, offs_len]; omega
 have hbl : (fbytes f ++ r).length = ((fnums f).flatMap vb).length + f.data.length + (pad f ++ r).length := by rw [hb]; simp [Nat.add_assoc]
 have hdr : ((fbytes f ++ r).drop ((fnums f).flatMap vb).length).take f.data.length = f.data := by rw [hb, List.drop_left, List.take_left]
 generalize ps 40 (fbytes f ++ r) 0 = P at *
 generalize fbytes f ++ r = b at *
 -- from here: what the numbers are, kind by kind
 have hkk : f.kind = 1 ∨ f.kind = 2 ∨ f.kind = 3 ∨ f.kind = 4 ∨ f.kind = 5 ∨ (f.kind = 0 ∨ f.kind = 6 ∨ f.kind = 7) := by omega
 have fin : ∀ (hu : used1 P = (fnums f).length) (hd : datN P = (f.data.length : Int)) (hm : mk0 P = { f with data := [] }), lost1 P b = false ∧ mkF P b = f := by
  intro hu hd hm
  constructor
  ·unfold lost1
   rw [hu, hd, hA, hbl, decide_eq_false (by omega), decide_eq_false (by omega)]
   rfl
  ·unfold mkF
   rw [hm, hu, hd, hA]
   cases hz : f.data with
   | nil =>
    simp
    cases f
    simp_all
   | cons x l =>
    rw [if_pos (by simp only [List.length_cons]; omega), show (((x :: l).length : Nat) : Int).toNat = f.data.length by rw [hz, Int.toNat_natCast], hdr]
 rcases hkk with hk | hk | hk | hk | hk | hk
 ·have hf : fnums f = [1] := by unfold fnums nu4 nu3 nu2 nu1; simp [hk, wantB, wantR, wantD] at w3 ⊢; simp [w3, nuR]
  rw [hf] at hN fin
  have n0 := hN 0 (by decide)
  simp at n0
  simp [hk, wantB, wantR, wantD] at w1 w2 w3 w4
  refine fin (by simp [used1, hasD, used0, n0]) (by simp [datN, hasD, n0, w4]) ?_
  unfold mk0 cnt
  cases f
  simp_all
 ·have hf : fnums f = 2 :: f.a :: (f.rs.length : Int) :: nuR f.rs := by unfold fnums nu4 nu3 nu2 nu1; simp [hk, wantB, wantR, wantD]
  have hrl : 1 ≤ f.rs.length := by
   have h2 := ((fok2 hk).1 h).2.2.2.1
   unfold rgOk inB at h2
   simp at h2
   omega
  have hl := nuR_len f.rs
  rw [hf] at hN fin
  have n0 := hN 0 (by simp)
  have n1 := hN 1 (by simp)
  have n2 := hN 2 (by simp)
  simp at n0 n1 n2
  have hc : cnt P = f.rs.length := by unfold cnt; rw [if_pos n0, n2]; omega
  simp [hk, wantB, wantR, wantD] at w2 w4
  refine fin (by simp [used1, hasD, used0, n0, hc, hl]; omega) (by simp [datN, hasD, n0, w4]) ?_
  unfold mk0
  rw [hc, range_rs f.rs _ (fun i hi => by
   have h3 := hN (3 + 2 * i) (by simp [hl]; omega)
   have h4 := hN (4 + 2 * i) (by simp [hl]; omega)
   have h5 := nuR_get f.rs i hi
   rw [show 3 + 2 * i = (2 * i) + 1 + 1 + 1 by omega] at h3
   rw [show 4 + 2 * i = (2 * i + 1) + 1 + 1 + 1 by omega] at h4
   simp only [List.getD_cons_succ] at h3 h4
   rw [show 3 + 2 * i = (2 * i) + 1 + 1 + 1 by omega, show 4 + 2 * i = (2 * i + 1) + 1 + 1 + 1 by omega, h3, h4, h5.1, h5.2])]
  cases f
  simp_all
 ·have hf : fnums f = [3, f.a, f.b, (f.data.length : Int)] := by unfold fnums nu4 nu3 nu2 nu1; simp [hk, wantB, wantR, wantD] at w3 ⊢; simp [w3, nuR]
  rw [hf] at hN fin
  have n0 := hN 0 (by simp)
  have n1 := hN 1 (by simp)
  have n2 := hN 2 (by simp)
  have n3 := hN 3 (by simp)
  simp at n0 n1 n2 n3
  simp [hk, wantB, wantR, wantD] at w3
  refine fin (by simp [used1, hasD, used0, n0]) (by simp [datN, hasD, used0, n0, n3]) ?_
  unfold mk0 cnt
  cases f
  simp_all
 ·have hf : fnums f = [4, f.a, (f.data.length : Int)] := by unfold fnums nu4 nu3 nu2 nu1; simp [hk, wantB, wantR, wantD] at w3 ⊢; simp [w3, nuR]
  rw [hf] at hN fin
  have n0 := hN 0 (by simp)
  have n1 := hN 1 (by simp)
  have n2 := hN 2 (by simp)
  simp at n0 n1 n2
  simp [hk, wantB, wantR, wantD] at w2 w3
  refine fin (by simp [used1, hasD, used0, n0]) (by simp [datN, hasD, used0, n0, n2]) ?_
  unfold mk0 cnt
  cases f
  simp_all
 ·have hf : fnums f = [5, f.a, f.b] := by unfold fnums nu4 nu3 nu2 nu1; simp [hk, wantB, wantR, wantD] at w3 ⊢; simp [w3, nuR]
  rw [hf] at hN fin
  have n0 := hN 0 (by simp)
  have n1 := hN 1 (by simp)
  have n2 := hN 2 (by simp)
  simp at n0 n1 n2
  simp [hk, wantB, wantR, wantD] at w3 w4
  refine fin (by simp [used1, hasD, used0, n0]) (by simp [datN, hasD, used0, n0, w4]) ?_
  unfold mk0 cnt
  cases f
  simp_all
 ·have hf : fnums f = [f.kind, f.a] := by
   unfold fnums nu4 nu3 nu2 nu1
   rcases hk with hk | hk | hk <;> simp [hk, wantB, wantR, wantD] at w3 ⊢ <;> simp [w3, nuR]
  rw [hf] at hN fin
  have n0 := hN 0 (by simp)
  have n1 := hN 1 (by simp)
  simp at n0 n1
  rcases hk with hk | hk | hk <;> simp [hk, wantB, wantR, wantD] at w2 w3 w4 <;> rw [hk] at n0 <;> refine fin (by simp [used1, hasD, used0, n0]) (by simp [datN, hasD, used0, n0, w4]) ?_ <;> unfold mk0 cnt <;> cases f <;> simp_all
/-- The frame that bytes begin with. -/
def oneP (b : List Int) : Option Fr := if (rdZ (b, false)).2 = false ∧ fok (rdFrame (b, false)) = true then some (rdFrame (b, false)) else none
theorem oneP_of {f : Fr} {r : List Int} (h : fok f = true) : oneP (fbytes f ++ r) = some f := by
 have h1 := read_write f h r
 unfold oneP
 rw [h1.1, h1.2]
 simp [h]
theorem oneP_in {b : List Int} {f : Fr} (hb : Bytes b) (h : oneP b = some f) : fok f = true ∧ b = fbytes f ++ (rdZ (b, false)).1 := by
 unfold oneP at h
 split at h
 ·rename_i h1
  cases h
  exact ⟨h1.2, write_read hb h1.1 h1.2⟩
 ·cases h
end Go.Proofs.Ythieegnhjoehbaa
/- The document's reading of one frame, walked. -/
namespace Go.Proofs.Ythieegnhjoehbaa
open Go.RowKit Go.Vc
set_option linter.unusedVariables false
theorem res_cell_tmp {B : Tb} {rs : Rs} {m : Mem} {fn : Func} {t u : Tmp} {T : TypeId} {b off i : Nat} {e : Ent} {d : Ty} {vs : List Value} {x : Value} (h : fn.results = #[.cell t T, .tmp u])
  (hx : Vc.look rs t = some (.pointer (some ⟨b, off, none⟩))) (hT : B.ty T = some d) (hd : d.agg = true) (he : nth m i = some e) (hb : e.blk = b)
  (hl : off + d.size ≤ e.cells.length) (hv : (e.cells.drop off).take d.size = vs) (hu : Vc.look rs u = some x) : ResIs B fn rs m (.tuple #[.agg vs.toArray, x]) := by
 refine ⟨fun a w hr hh => ?_⟩
 have h1 := hr t _ hx
 have h2 := hr u _ hu
 have hc := hh.cell (nth_mem he)
 rw [hb] at hc
 subst hv
 simp [results, h, Array.getD_eq_getD_getElem?, h1, h2, asAddr, loadVar, ty_agg hT, hd, ty_size hT, run_loadCells0 hc _ hl]
/-! the tables of numbers and places -/
def nL (P : List (Int × Nat)) : List Int := P.map Prod.fst ++ zeros (40 - P.length)
def aL (P : List (Int × Nat)) : List Int := 0 :: (P.map (fun p => (p.2 : Int)) ++ zeros (40 - P.length))
theorem nL_len {P : List (Int × Nat)} (h : P.length ≤ 40) : (nL P).length = 40 := by unfold nL; rw [List.length_append, List.length_map, zeros_len]; omega
theorem aL_len {P : List (Int × Nat)} (h : P.length ≤ 40) : (aL P).length = 41 := by unfold aL; rw [List.length_cons, List.length_append, List.length_map, zeros_len]; omega
theorem zeros_get {n i : Nat} (h : i < n) : (zeros n)[i]? = some 0 := by unfold zeros; rw [List.getElem?_replicate, if_pos h]
theorem nL_at {P : List (Int × Nat)} (h : P.length ≤ 40) {i : Nat} (hi : i < 40) : (ints .i64 (nL P))[i]? = some (.int .i64 (pN P i)) := by
 unfold ints nL pN
 rw [List.getElem?_map, List.getD_eq_getElem?_getD]
 by_cases hl : i < P.length
 ·rw [List.getElem?_append_left (by simpa using hl), List.getElem?_map, List.getElem?_eq_getElem hl]
  rfl
 ·rw [List.getElem?_append_right (by simpa using hl), List.length_map, zeros_get (by omega), List.getElem?_eq_none (by simpa using hl)]
  rfl
theorem aL_at {P : List (Int × Nat)} (h : P.length ≤ 40) {i : Nat} (hi : i ≤ 40) : (ints .i64 (aL P))[i]? = some (.int .i64 (pAt P i)) := by
 unfold ints aL pAt
 rw [List.getElem?_map, List.getD_eq_getElem?_getD]
 cases i with
 | zero => rfl
 | succ i =>
  rw [List.getElem?_cons_succ, List.getElem?_cons_succ]
  by_cases hl : i < P.length
  ·rw [List.getElem?_append_left (by simpa using hl), List.getElem?_map, List.getElem?_map, List.getElem?_eq_getElem hl]
   rfl
  ·rw [List.getElem?_append_right (by simpa using hl), List.length_map, zeros_get (by omega), List.getElem?_eq_none (by simpa using hl)]
   rfl
theorem nL_set {P : List (Int × Nat)} {n : Int} {o : Nat} (h : P.length < 40) : (ints .i64 (nL P)).set P.length (.int .i64 n) = ints .i64 (nL (P ++ [(n, o)])) := by
 unfold nL ints
 rw [← List.map_set]
 congr 1
 rw [show 40 - P.length = (40 - (P.length + 1)) + 1 by omega, List.map_append, List.length_append, List.length_singleton]
 rw [List.set_append_right _ _ (by simp), List.length_map, Nat.sub_self]
 show _ ++ (0 :: zeros _).set 0 n = _
 simp
theorem aL_set {P : List (Int × Nat)} {n : Int} {o : Nat} (h : P.length < 40) : (ints .i64 (aL P)).set (P.length + 1) (.int .i64 (o : Int)) = ints .i64 (aL (P ++ [(n, o)])) := by
 unfold aL ints
 rw [← List.map_set]
 congr 1
 rw [List.set_cons_succ, show 40 - P.length = (40 - (P.length + 1)) + 1 by omega, List.map_append, List.length_append, List.length_singleton]
 rw [List.set_append_right _ _ (by simp), List.length_map, Nat.sub_self]
 show 0 :: (_ ++ (0 :: zeros _).set 0 (o : Int)) = _
 simp
theorem pA_snoc {P : List (Int × Nat)} {n : Int} {o : Nat} : pAt (P ++ [(n, o)]) (P.length + 1) = o := by
 unfold pAt
 rw [List.map_append, List.getD_eq_getElem?_getD, List.getElem?_cons_succ, List.getElem?_append_right (by simp)]
 simp
theorem ps_len : ∀ (k : Nat) (b : List Int) (o : Nat), (ps k b o).length ≤ k
 | 0, _, _ => Nat.zero_le _
 | k + 1, b, o => by
  unfold ps
  split
  ·exact Nat.zero_le _
  ·rename_i n s _
   have := ps_len k b (o + s)
   simp
   omega
theorem ps_le : ∀ (k : Nat) (b : List Int) (o : Nat), Bytes b → o ≤ b.length → ∀ x ∈ ps k b o, x.2 ≤ b.length
 | 0, _, _, _, _, x, hx => by cases hx
 | k + 1, b, o, hb, ho, x, hx => by
  unfold ps at hx
  split at hx
  ·cases hx
  ·rename_i n s hg
   have h1 := (vb_gt (fun y hy => hb y (List.mem_of_mem_drop hy)) hg).2.2.2.1
   rw [List.length_drop] at h1
   rcases List.mem_cons.1 hx with rfl | hx
   ·show o + s ≤ _
    omega
   ·exact ps_le k b (o + s) hb (by omega) x hx
theorem pA_le {b : List Int} (hb : Bytes b) (k i : Nat) : pAt (ps k b 0) i ≤ b.length := by
 unfold pAt
 rw [List.getD_eq_getElem?_getD]
 cases i with
 | zero => exact Nat.zero_le _
 | succ i =>
  rw [List.getElem?_cons_succ, List.getElem?_map]
  cases h : (ps k b 0)[i]? with
  | none => exact Nat.zero_le _
  | some x => exact ps_le k b 0 hb (Nat.zero_le _) x (List.mem_of_getElem? h)
theorem ps_num : ∀ (k : Nat) (b : List Int) (o : Nat), Bytes b → ∀ x ∈ ps k b o, 0 ≤ x.1 ∧ x.1 < 4611686018427387904
 | 0, _, _, _, x, hx => by cases hx
 | k + 1, b, o, hb, x, hx => by
  unfold ps at hx
  split at hx
  ·cases hx
  ·rename_i n s hg
   have h1 := vb_gt (fun y hy => hb y (List.mem_of_mem_drop hy)) hg
   rcases List.mem_cons.1 hx with rfl | hx
   ·exact ⟨h1.1, h1.2.1⟩
   ·exact ps_num k b (o + s) hb x hx
theorem pN_in {b : List Int} (hb : Bytes b) (k i : Nat) : 0 ≤ pN (ps k b 0) i ∧ pN (ps k b 0) i < 4611686018427387904 := by
 unfold pN
 rw [List.getD_eq_getElem?_getD, List.getElem?_map]
 cases h : (ps k b 0)[i]? with
 | none => exact ⟨by decide, by decide⟩
 | some x => exact ps_num k b 0 hb x (List.mem_of_getElem? h)
theorem rg_snoc (g : Nat → Int × Int) (i : Nat) : rgCells ((List.range (i + 1)).map g) = rgCells ((List.range i).map g) ++ [.int .i64 (g i).1, .int .i64 (g i).2] := by
 unfold rgCells
 rw [List.range_succ, List.map_append, List.flatMap_append]
 rfl
def OneR (b : List Int) (u : Value) (C : Addr → Value → Prop) : Prop := match oneP b with
 | none => ∃ cs : List Value, cs.length = 5 ∧ (∀ v ∈ cs, v.oneCell' = true) ∧ u = .tuple #[.agg cs.toArray, .int .i64 (-1)]
 | some f => ∃ cs : List Value, u = .tuple #[.agg cs.toArray, .int .i64 ((fbytes f).length : Int)] ∧ FrC C f cs
theorem oneR_mono (b : List Int) : ∀ v (C C' : Addr → Value → Prop), (∀ p x, C p x → C' p x) → OneR b v C → OneR b v C' := by
 intro v C C' hC h
 unfold OneR at h ⊢
 cases ho : oneP b with
 | none => rw [ho] at h; exact h
 | some f =>
  rw [ho] at h
  obtain ⟨cs, h1, h2⟩ := h
  exact ⟨cs, h1, h2.mono hC⟩
def zfr : List Value := [.int .i64 0, .int .i64 0, .int .i64 0, .slice none 0 0, .slice none 0 0]
theorem oneR_no {b : List Int} {C : Addr → Value → Prop} (h : oneP b = none) : OneR b (.tuple #[.agg zfr.toArray, .int .i64 (-1)]) C := by
 unfold OneR
 rw [h]
 exact ⟨zfr, rfl, by intro v hv; simp [zfr] at hv; rcases hv with rfl | rfl | rfl | rfl | rfl <;> rfl, rfl⟩
theorem cnt_le (P : List (Int × Nat)) : cnt P ≤ 16 := by
 unfold cnt
 split <;> omega
theorem used1_le (P : List (Int × Nat)) : used1 P ≤ 36 := by
 have := cnt_le P
 unfold used1 used0
 split <;> split <;> (try split) <;> (try split) <;> omega
theorem used0_le (P : List (Int × Nat)) : used0 P ≤ 35 := by
 have := cnt_le P
 unfold used0
 split <;> (try split) <;> (try split) <;> omega
theorem rg_one {C : Addr → Value → Prop} (v : Value) (l : List (Int × Int)) : ∀ x ∈ rgCells l, x.oneCell' = true := by
 intro x hx
 obtain ⟨r, _, hx⟩ := List.mem_flatMap.1 hx
 simp at hx
 rcases hx with rfl | rfl <;> rfl
end Go.Proofs.Ythieegnhjoehbaa
/- The document's reading of one frame, walked. -/
namespace Go.Proofs.Ythieegnhjoehbaa
open Go.RowKit Go.Vc
set_option linter.unusedVariables false
theorem z68 : ZeroIs tb 133 (ints .i64 (nL [])) := zero133
theorem z69 : ZeroIs tb 134 (ints .i64 (aL [])) := zero134
theorem ix1 {u : Ty} (hu : u.size = 1) (k : Nat) : 0 + (k : Int).toNat * u.size = k := by rw [hu]; omega
def mF (b5 b4 b2 : Nat) (P : List (Int × Nat)) : Mem := [⟨b5, ints .i64 (aL P), 134⟩, ⟨b4, ints .i64 (nL P), 133⟩, ⟨b2, zfr, 59⟩]
def rF (base1 : Option Addr) (n cap1 b2 b4 b5 : Nat) (P : List (Int × Nat)) : Rs := [(0, .slice base1 n cap1), (2, .pointer (some ⟨b2, 0, none⟩)), (4, .pointer (some ⟨b4, 0, none⟩)), (5, .pointer (some ⟨b5, 0, none⟩)), (6, .int .i64 (P.length : Int))]
theorem d_buildSlice0 {B : Tb} {E : Env} {n : Nat} {all : List Oper} {rs : Rs} {m mS : Mem} {K : Act → World → Prop} {codes left : List Nat} {c : Nat} {dst : Option Tmp} {ty : TypeId} {pos : String} {aft : Array Edge} {gd : Option (Nat × Bool)}
  {T eT : TypeId} {d u : Ty} {f : Nat} (ho : opOf all c = some ⟨dst, .buildSlice T 0 #[], ty, pos, aft, gd⟩) (hk : cKd c = 2) (hc : chk all n rs ⟨dst, .buildSlice T 0 #[], ty, pos, aft, gd⟩ = some f)
  (hT : B.ty T = some d) (hd : d.desc = .slice eT) (hu : B.ty eT = some u) (hs : SubMem m mS) (hn : needsOf codes (cIx c) = cNd c)
  (h : ∀ b, WPd B E n all mS codes left ((f, .slice (some ⟨b, 0, none⟩) 0 0) :: rs) (⟨b, [], eT⟩ :: m) K) : WPd B E n all mS codes (c :: left) rs m K := by
 obtain ⟨h1, h2, h3⟩ := chk_ok hc
 refine d_only ho hk h1 (by rw [h2]; exact h3) (eff_buildSlice0 hT hd hu) ?_ hn
 rintro v m' ⟨b, rfl, rfl⟩
 rw [h2]
 exact ⟨fun _ => hs.cons, h b⟩
theorem oneP_no {b : List Int} (hb : Bytes b) (h : ∀ f r, fok f = true → b = fbytes f ++ r → False) : oneP b = none := by
 cases ho : oneP b with
 | none => rfl
 | some f =>
  obtain ⟨h1, h2⟩ := oneP_in hb ho
  exact absurd h2 (fun h2 => h f _ h1 h2)
theorem str_ne {a b : List Int} (ha : Bytes a) (hb : Bytes b) (h : a ≠ b) : ((str a).toList == (str b).toList) = false := by
 rw [beq_eq_false_iff_ne]
 intro h2
 exact h (str_inj ha hb ((str_list _ _).1 h2))
theorem fbytes_bytes {f : Fr} (h : Bytes f.data) : Bytes (fbytes f) := by
 intro x hx
 unfold fbytes at hx
 rcases List.mem_append.1 hx with hx | hx
 ·rcases List.mem_append.1 hx with hx | hx
  ·obtain ⟨n, _, hx⟩ := List.mem_flatMap.1 hx
   exact vb_bytes n x hx
  ·exact h x hx
 ·split at hx
  ·have := List.eq_of_mem_replicate hx
   omega
  ·cases hx
set_option maxHeartbeats 8000000 in
theorem one_P (b : List Int) (v : Value) (w : World) {Z : Nat → Prop} (hZ : ∀ b, w.heap.size ≤ b → Z b) (hv : SlC (At w) 1 v b.length (row b)) (hb : Bytes b) (hle : b.length ≤ 1000000) : GivesP tb 59 [v] w Z (OneR b) := by
 have hv : SlC (Cel ⟨w, [], []⟩) 1 v b.length (row b) := hv.mono fun p x h => ⟨h, by simp⟩
 obtain ⟨base1, cap1, rfl, hcap1⟩ := slc_str hv
 refine givesP_of (fn := Try.f59) Try.func59 rfl Try.ntmps59 rfl hZ (oneR_mono b) (fun on => ?_)
 repeat refine s_seqs ?_
 refine s_reg ?_
 refine step_alloc rfl zero59 (fun b2 => ?_)
 refine qa rfl rfl ?_
 refine Vc.step_end (fun a w ok => ?_)
 (refine WPs.run ?_ a w ok; clear ok w a)
 repeat refine s_seqs ?_
 refine s_reg ?_
 refine step_alloc rfl z68 (fun b4 => ?_)
 refine Vc.step_end (fun a w ok => ?_)
 (refine WPs.run ?_ a w ok; clear ok w a)
 repeat refine s_seqs ?_
 refine s_reg ?_
 refine step_alloc rfl z69 (fun b5 => ?_)
 refine Vc.step_end (fun a w ok => ?_)
 (refine WPs.run ?_ a w ok; clear ok w a)
 repeat refine s_seqs ?_
 refine s_reg ?_
 refine qa rfl rfl ?_
 refine Vc.step_end (fun a w ok => ?_)
 (refine WPs.run ?_ a w ok; clear ok w a)
 -- the numbers
 repeat refine s_seqs ?_
 refine s_meetP (α := Unit) (fun _ => [(0, .slice base1 b.length cap1), (2, .pointer (some ⟨b2, 0, none⟩)), (4, .pointer (some ⟨b4, 0, none⟩)), (5, .pointer (some ⟨b5, 0, none⟩)), (6, .int .i64 ((ps 40 b 0).length : Int))])
  (fun _ => [⟨b5, ints .i64 (aL (ps 40 b 0)), 134⟩, ⟨b4, ints .i64 (nL (ps 40 b 0)), 133⟩, ⟨b2, zfr, 59⟩]) (fun _ _ => True) ?_ ?_
 ·repeat refine s_seqs ?_
  refine s_block ?_
  repeat refine s_seqs ?_
  refine s_loopP (α := List (Int × Nat)) (fun D => [(0, .slice base1 b.length cap1), (2, .pointer (some ⟨b2, 0, none⟩)), (4, .pointer (some ⟨b4, 0, none⟩)), (5, .pointer (some ⟨b5, 0, none⟩)), (6, .int .i64 (D.length : Int))])
   (fun D => [⟨b5, ints .i64 (aL D), 134⟩, ⟨b4, ints .i64 (nL D), 133⟩, ⟨b2, zfr, 59⟩]) (fun D _ => D.length ≤ 40 ∧ ps 40 b 0 = D ++ ps (40 - D.length) b (pAt D D.length) ∧ pAt D D.length ≤ b.length) (fun D => 40 - D.length) []
   ⟨Nat.zero_le _, rfl, Nat.zero_le _⟩ (less_of ⟨rfl, rfl, rfl, rfl, rfl, trivial⟩ rfl) ?_
  intro D E1 ⟨hD, hps, ho⟩ g
  replace on := on.next g
  replace hv := hv.mono g.mono
  repeat refine s_seqs ?_
  refine s_reg ?_
  refine qm rfl rfl ?_
  refine step_pure rfl (pure_lss rfl rfl) ?_
  refine Vc.step_end (fun a w ok => ?_)
  (refine WPs.run ?_ a w ok; clear ok w a)
  repeat refine s_seqs ?_
  refine s_cond rfl (fun h => ?_) (fun h => ?_)
  ·have hlt : D.length < 40 := by have := of_decide_eq_true h; omega
   clear h
   refine s_skip fun a w ok => WPs.run ?_ a w ok
   clear ok w a
   repeat refine s_seqs ?_
   refine s_block ?_
   have hsub := slc_sub (lo := pAt D D.length) (hi := b.length) hv ho (Nat.le_refl _)
   have hdl : (b.drop (pAt D D.length)).length = b.length - pAt D D.length := List.length_drop
   rw [Nat.mul_one, Nat.mul_one, show ((row b).drop (pAt D D.length)).take (b.length - pAt D D.length) = row (b.drop (pAt D D.length)) from by
    rw [List.take_of_length_le (by rw [List.length_drop, row_len]; omega)]; exact (List.map_drop ..).symm, ← hdl] at hsub
   have hdb : Bytes (b.drop (pAt D D.length)) := fun y hy => hb y (List.mem_of_mem_drop hy)
   have hat := aL_at hD (i := D.length) (by omega)
   have hgs : ∀ n s, gt (b.drop (pAt D D.length)) = some (n, s) → s ≤ b.length - pAt D D.length := by
    intro n s hg
    have := (vb_gt hdb hg).2.2.2.1
    omega
   have hst := ps_stop (k := 40 - D.length) (b := b) (o := pAt D D.length)
   have hgo := fun n s => ps_go (k := 40 - (D.length + 1)) (b := b) (o := pAt D D.length) (n := n) (s := s)
   repeat refine s_seqs ?_
   refine s_reg ?_
   refine qm rfl rfl ?_
   refine qm rfl rfl ?_
   refine step_pure rfl (pure_ix rfl rfl rfl rfl rfl (by omega) (by omega) (ix1 rfl D.length)) ?_
   refine step_pure rfl (pure_load (i := 0) rfl rfl rfl rfl rfl hat) ?_
   refine step_as rfl (pure_sub_lo rfl rfl rfl rfl rfl (by omega) (by omega)) (show _ = subS base1 cap1 1 (pAt D D.length) b.length from by show subS base1 cap1 1 (pAt D D.length : Int).toNat b.length = _; rw [Int.toNat_natCast]) ?_
   refine step_gives rfl fun58 rfl (fun w' hh kp => rget_any (b.drop (pAt D D.length)) _ w' (hsub.mono (fun p x h => h.now kp)).slv hdb (by omega)) ?_
   refine qm rfl rfl ?_
   refine qx rfl rfl rfl ?_
   refine qx rfl rfl rfl ?_
   refine qx rfl rfl rfl ?_
   refine qa rfl rfl ?_
   refine qa rfl rfl ?_
   refine qa rfl rfl ?_
   refine Vc.step_end (fun a w ok => ?_)
   (refine WPs.run ?_ a w ok; clear ok w a)
   repeat refine s_seqs ?_
   refine s_reg ?_
   refine qm rfl rfl ?_
   refine step_pure rfl (pure_neq rfl rfl) ?_
   refine Vc.step_end (fun a w ok => ?_)
   (refine WPs.run ?_ a w ok; clear ok w a)
   generalize hG : gt (b.drop (pAt D D.length)) = G at *
   unfold gN gS gE
   rw [hG]
   cases G with
   | none =>
    repeat refine s_seqs ?_
    refine s_cond_yes rfl rfl ?_
    rw [hst rfl, List.append_nil] at hps
    refine s_exit fun a w ok => ⟨(), E1, trivial, g, Less.ok ?_ ok⟩
    rw [hps]
    exact less_of ⟨rfl, rfl, rfl, rfl, rfl, trivial⟩ rfl
   | some ns =>
    obtain ⟨n, s⟩ := ns
    repeat refine s_seqs ?_
    refine s_cond_no rfl rfl ?_
    refine s_skip fun a w ok => WPs.run ?_ a w ok
    clear ok w a
    have hs1 := hgs n s rfl
    have e1 : (((D.length + 1 : Nat) : Int)) = (D.length : Int) + 1 := rfl
    repeat refine s_seqs ?_
    refine s_reg ?_
    refine qm rfl rfl ?_
    refine qm rfl rfl ?_
    refine step_pure rfl (pure_ix rfl rfl rfl rfl rfl (by omega) (by omega) (ix1 rfl D.length)) ?_
    refine step_store 1 rfl rfl rfl rfl rfl rfl rfl rfl (by rw [ints_len, nL_len hD]; exact hlt) (nL_set (o := pAt D D.length + s) hlt) ?_
    refine Vc.step_end (fun a w ok => ?_)
    (refine WPs.run ?_ a w ok; clear ok w a)
    repeat refine s_seqs ?_
    refine s_reg ?_
    refine qm rfl rfl ?_
    refine step_as rfl (pure_add64 rfl rfl (by omega) (by omega)) (show _ = Value.int .i64 ((D.length + 1 : Nat) : Int) from rfl) ?_
    refine qm rfl rfl ?_
    refine step_pure rfl (pure_ix rfl rfl rfl rfl rfl (by omega) (by omega) (ix1 rfl D.length)) ?_
    refine step_pure rfl (pure_load (i := 0) rfl rfl rfl rfl rfl hat) ?_
    refine qm rfl rfl ?_
    refine step_as rfl (pure_add64 rfl rfl (by show -9223372036854775808 ≤ (pAt D D.length : Int) + (s : Int); omega) (by show (pAt D D.length : Int) + (s : Int) ≤ _; omega)) (show _ = Value.int .i64 ((pAt D D.length + s : Nat) : Int) from rfl) ?_
    refine step_pure rfl (pure_ix rfl rfl rfl rfl rfl (by omega) (by omega) (ix1 rfl (D.length + 1))) ?_
    refine step_store 0 rfl rfl rfl rfl rfl rfl rfl rfl (by rw [ints_len, aL_len hD]; omega) (aL_set (n := n) hlt) ?_
    refine Vc.step_end (fun a w ok => ?_)
    (refine WPs.run ?_ a w ok; clear ok w a)
    repeat refine s_seqs ?_
    refine s_reg ?_
    refine qm rfl rfl ?_
    refine step_pure rfl (pure_add64 rfl rfl (by omega) (by omega)) ?_
    refine qa rfl rfl ?_
    refine Vc.step_end (fun a w ok => ?_)
    refine ⟨D ++ [(n, pAt D D.length + s)], E1, ⟨?_, ?_, ?_⟩, ?_, Gt.refl _, Less.ok ?_ ok⟩
    ·rw [List.length_append]; exact hlt
    ·rw [List.length_append, List.length_singleton, pA_snoc, hps, show 40 - D.length = 40 - (D.length + 1) + 1 by omega, hgo n s rfl]
     simp
    ·rw [List.length_append, List.length_singleton, pA_snoc]; omega
    ·rw [List.length_append, List.length_singleton]; omega
    rw [List.length_append, List.length_singleton]
    exact less_of ⟨rfl, rfl, rfl, rfl, rfl, trivial⟩ rfl
  ·have h40 : D.length = 40 := by have := of_decide_eq_false h; omega
   rw [h40, Nat.sub_self, show ps 0 b (pAt D 40) = [] from rfl, List.append_nil] at hps
   refine s_exit fun a w ok => ⟨(), E1, trivial, g, Less.ok ?_ ok⟩
   rw [hps]
   exact less_of ⟨rfl, rfl, rfl, rfl, rfl, trivial⟩ rfl
 rintro - E1 - g a w ok
 refine WPs.run ?_ a w ok
 clear ok w a
 replace on := on.next g
 replace hv := hv.mono g.mono
 clear g
 -- what is known of them
 have hP40 := ps_len 40 b 0
 have hPA := pA_le hb 40
 have hPN := pN_in hb 40
 have hno : (∀ f r, fok f = true → b = fbytes f ++ r → lost1 (ps 40 b 0) b = false ∧ mkF (ps 40 b 0) b = f) := by
  intro f r hf he
  rw [he]
  exact mkF_of hf
 generalize ps 40 b 0 = P at *
 have hu1 := used1_le P
 have hu0 := used0_le P
 have hN := fun (i : Nat) (hi : i < 40) => nL_at hP40 hi
 have hA := fun (i : Nat) (hi : i ≤ 40) => aL_at hP40 hi
 -- kind, first number
 repeat refine s_seqs ?_
 refine s_reg ?_
 refine step_pure rfl (pure_ix rfl rfl rfl rfl rfl (by decide) (by decide) rfl) ?_
 refine step_pure rfl (pure_load (i := 1) rfl rfl rfl rfl rfl (hN 0 (by decide))) ?_
 refine step_pure rfl (pure_build_struct (pl := [(0, 1), (1, 1), (2, 1), (3, 1), (4, 1)]) rfl zero59 rfl rfl rfl rfl) ?_
 refine step_alloc rfl zero59 (fun b10 => ?_)
 refine step_store_agg 0 rfl rfl rfl (by intro v hv; simp at hv; rcases hv with rfl | rfl | rfl | rfl | rfl <;> rfl) rfl rfl rfl rfl (by show 5 ≤ 5; decide) (splice_all rfl) ?_
 refine Vc.step_end (fun a w ok => ?_)
 (refine WPs.run ?_ a w ok; clear ok w a)
 repeat refine s_seqs ?_
 refine s_reg ?_
 refine qa rfl rfl ?_
 refine Vc.step_end (fun a w ok => ?_)
 (refine WPs.run ?_ a w ok; clear ok w a)
 have hkd : (mk0 P).kind = pN P 0 := rfl
 have hma : (mk0 P).a = if pN P 0 = 1 then 0 else pN P 1 := rfl
 have hmb : (mk0 P).b = if pN P 0 = 3 ∨ pN P 0 = 5 then pN P 2 else 0 := rfl
 have hmr : (mk0 P).rs = (List.range (cnt P)).map fun i => (pN P (3 + 2 * i), pN P (4 + 2 * i)) := rfl
 have hcn : cnt P = if pN P 0 = 2 then (min (pN P 2) 16).toNat else 0 := rfl
 have hus : used0 P = if pN P 0 = 2 then 3 + 2 * cnt P else if pN P 0 = 3 ∨ pN P 0 = 5 then 3 else if pN P 0 = 1 then 1 else 2 := rfl
 have hc16 := cnt_le P
 repeat refine s_seqs ?_
 refine s_reg ?_
 refine step_pure rfl (pure_fieldAddr rfl rfl rfl rfl rfl (by decide)) ?_
 refine step_pure rfl (pure_load (i := 0) rfl rfl rfl rfl rfl rfl) ?_
 refine step_pure rfl (pure_neq rfl rfl) ?_
 refine Vc.step_end (fun a w ok => ?_)
 (refine WPs.run ?_ a w ok; clear ok w a)
 repeat refine s_seqs ?_
 refine s_meet ((10, .pointer (some ⟨b10, 0, none⟩)) :: (11, .int .i64 (if pN P 0 = 1 then 1 else 2)) :: rF base1 b.length cap1 b2 b4 b5 P) (⟨b10, [.int .i64 (pN P 0), .int .i64 (mk0 P).a, .int .i64 0, .slice none 0 0, .slice none 0 0], 59⟩ :: mF b5 b4 b2 P) ?_ (fun a w ok => WPs.run ?_ a w ok)
 ·repeat refine c_seq ?_
  refine c_cond rfl (fun h => ?_) (fun h => ?_)
  ·have hk : ¬ pN P 0 = 1 := by simpa using h
   rw [hma, if_neg hk, if_neg hk]
   repeat refine c_seq ?_
   refine c_region ?_
   refine step_pure rfl (pure_ix rfl rfl rfl rfl rfl (by decide) (by decide) rfl) ?_
   refine step_pure rfl (pure_load (i := 2) rfl rfl rfl rfl rfl (hN 1 (by decide))) ?_
   refine step_pure rfl (pure_fieldAddr rfl rfl rfl rfl rfl (by decide)) ?_
   refine step_store 0 rfl rfl rfl rfl rfl rfl rfl rfl (by exact Nat.le_of_ble_eq_true rfl) rfl ?_
   refine step_nil ?_
   repeat refine c_seq ?_
   refine c_region ?_
   refine qa rfl rfl ?_
   refine step_nil ?_
   exact less_of ⟨rfl, rfl, rfl, rfl, rfl, rfl, rfl, trivial⟩ rfl
  ·have hk : pN P 0 = 1 := by simpa using h
   rw [hma, if_pos hk, if_pos hk]
   refine c_skip ?_
   exact less_of ⟨rfl, rfl, rfl, rfl, rfl, rfl, rfl, trivial⟩ rfl
 repeat refine s_seqs ?_
 refine s_reg ?_
 refine step_pure rfl (pure_fieldAddr rfl rfl rfl rfl rfl (by decide)) ?_
 refine step_pure rfl (pure_load (i := 0) rfl rfl rfl rfl rfl rfl) ?_
 refine step_hole ?_
 refine Vc.step_end (fun a w ok => ?_)
 (refine WPs.run ?_ a w ok; clear ok w a)
 -- ranges, second number
 repeat refine s_seqs ?_
 refine s_meetP (α := SlS) (fun z => (10, .pointer (some ⟨b10, 0, none⟩)) :: (11, .int .i64 (used0 P : Int)) :: rF base1 b.length cap1 b2 b4 b5 P)
  (fun z => z.e :: ⟨b10, [.int .i64 (pN P 0), .int .i64 (mk0 P).a, .int .i64 (mk0 P).b, .slice z.base (cnt P) z.cap, .slice none 0 0], 59⟩ :: mF b5 b4 b2 P) (fun z _ => SlIs ty110 110 z.e z.base (cnt P) z.cap (rgCells (mk0 P).rs)) ?_ ?_
 ·repeat refine s_seqs ?_
  refine s_block ?_
  have hkk : pN P 0 = 2 ∨ pN P 0 = 3 ∨ pN P 0 = 5 ∨ (pN P 0 ≠ 2 ∧ pN P 0 ≠ 3 ∧ pN P 0 ≠ 5) := by omega
  rcases hkk with h2 | h3 | h5 | ⟨n2, n3, n5⟩
  ·rw [if_pos h2] at hcn hus
   have hb0 : (mk0 P).b = 0 := by rw [hmb, if_neg (by omega)]
   rw [hb0]
   repeat refine s_seqs ?_
   refine s_reg ?_
   refine step_pure rfl (pure_eql rfl rfl) ?_
   refine qa rfl rfl ?_
   refine Vc.step_end (fun a w ok => ?_)
   (refine WPs.run ?_ a w ok; clear ok w a)
   repeat refine s_seqs ?_
   refine s_cond_yes rfl (by rw [h2]; rfl) ?_
   repeat refine s_seqs ?_
   refine s_reg ?_
   refine qa rfl rfl ?_
   refine Vc.step_end (fun a w ok => ?_)
   (refine WPs.run ?_ a w ok; clear ok w a)
   repeat refine s_seqs ?_
   refine s_reg ?_
   refine qa rfl rfl ?_
   refine Vc.step_end (fun a w ok => ?_)
   (refine WPs.run ?_ a w ok; clear ok w a)
   repeat refine s_seqs ?_
   refine s_block ?_
   repeat refine s_seqs ?_
   refine s_loopP (α := Nat × SlS) (fun z => (10, .pointer (some ⟨b10, 0, none⟩)) :: (11, .int .i64 ((3 + 2 * z.1 : Nat) : Int)) :: (12, .int .i64 (z.1 : Int)) :: rF base1 b.length cap1 b2 b4 b5 P)
    (fun z => z.2.e :: ⟨b10, [.int .i64 (pN P 0), .int .i64 (mk0 P).a, .int .i64 0, .slice z.2.base z.1 z.2.cap, .slice none 0 0], 59⟩ :: mF b5 b4 b2 P)
    (fun z _ => z.1 ≤ cnt P ∧ SlIs ty110 110 z.2.e z.2.base z.1 z.2.cap (rgCells ((List.range z.1).map fun i => (pN P (3 + 2 * i), pN P (4 + 2 * i))))) (fun z => cnt P - z.1) (0, ⟨none, 0, 0, hole⟩)
    ⟨Nat.zero_le _, sl_nil _ _ (by decide)⟩ (less_of ⟨rfl, rfl, rfl, rfl, rfl, rfl, rfl, rfl, trivial⟩ rfl) ?_
   rintro ⟨i, rb, rl, rc, er⟩ E2 ⟨hi, hs⟩ g2
   dsimp only at hi hs ⊢
   repeat refine s_seqs ?_
   refine s_meet ((10, .pointer (some ⟨b10, 0, none⟩)) :: (11, .int .i64 ((3 + 2 * i : Nat) : Int)) :: (12, .int .i64 (i : Int)) :: (62, .bool (decide (i < cnt P))) :: rF base1 b.length cap1 b2 b4 b5 P) (er :: ⟨b10, [.int .i64 (pN P 0), .int .i64 (mk0 P).a, .int .i64 0, .slice rb i rc, .slice none 0 0], 59⟩ :: mF b5 b4 b2 P) ?_ (fun a w ok => WPs.run ?_ a w ok)
   ·repeat refine c_seq ?_
    refine c_region ?_
    refine qm rfl rfl ?_
    refine step_pure rfl (pure_ix rfl rfl rfl rfl rfl (by decide) (by decide) rfl) ?_
    refine step_pure rfl (pure_load (i := 3) rfl rfl rfl rfl rfl (hN 2 (by decide))) ?_
    refine step_pure rfl (pure_lss rfl rfl) ?_
    refine qm rfl rfl ?_
    refine step_split (t := 59) rfl (fun h59 => ?_) (fun h59 => ?_)
    ·refine qm rfl rfl ?_
     refine step_pure rfl (pure_lss rfl rfl) ?_
     refine step_pure rfl (pure_pick_yes rfl rfl) ?_
     refine step_nil ?_
     refine less_of ⟨rfl, rfl, rfl, ?_, rfl, rfl, rfl, rfl, rfl, trivial⟩ rfl
     refine congrArg some (congrArg Value.bool ?_)
     rw [Bool.eq_iff_iff, decide_eq_true_iff]
     simp at h59 ⊢
     omega
    ·refine qp rfl rfl rfl ?_
     refine qp rfl rfl rfl ?_
     refine step_pure rfl (pure_pick_no rfl rfl) ?_
     refine step_nil ?_
     refine less_of ⟨rfl, rfl, rfl, ?_, rfl, rfl, rfl, rfl, rfl, trivial⟩ rfl
     refine congrArg some (congrArg Value.bool ?_)
     rw [Bool.eq_iff_iff, decide_eq_true_iff]
     simp at h59 ⊢
     omega
   repeat refine s_seqs ?_
   refine s_cond rfl (fun h => ?_) (fun h => ?_)
   ·have hlt : i < cnt P := of_decide_eq_true h
    clear h
    refine s_skip fun a w ok => WPs.run ?_ a w ok
    clear ok w a
    repeat refine s_seqs ?_
    refine s_block ?_
    have n1 := hN (3 + 2 * i) (by omega)
    have n2 := hN (4 + 2 * i) (by omega)
    have hsn := rg_snoc (fun i => (pN P (3 + 2 * i), pN P (4 + 2 * i))) i
    dsimp only at hsn
    generalize pN P (3 + 2 * i) = lo at *
    generalize pN P (4 + 2 * i) = hg at *
    repeat refine s_seqs ?_
    refine s_dreg [1, 11, 17, 25, 35, 41, 49, 57, 67, 73, 85, 92, 97, 108] ([⟨b10, [.int .i64 (pN P 0), .int .i64 (mk0 P).a, .int .i64 0, .slice rb i rc, .slice none 0 0], 59⟩, ⟨b4, ints .i64 (nL P), 133⟩]) follows (by kernel_rfl) ?_
    refine d_pure0 rfl rfl rfl (pure_fieldAddr rfl rfl rfl rfl rfl (by decide)) ?_
    refine d_pure1 rfl rfl rfl (pure_load (i := 0) rfl rfl rfl rfl rfl rfl) (by exact (fun w hh => Has.sublist (by repeat (first | exact List.Sublist.refl _ | exact List.nil_sublist _ | apply List.Sublist.cons_cons | apply List.Sublist.cons)) hh)) ?_
    refine qd rfl rfl rfl rfl ?_
    refine d_pure0 rfl rfl rfl (pure_ix rfl rfl rfl rfl rfl (by omega) (by omega) (ix1 rfl (3 + 2 * i))) ?_
    refine d_pure1 rfl rfl rfl (pure_load (i := 1) rfl rfl rfl rfl rfl n1) (by exact (fun w hh => Has.sublist (by repeat (first | exact List.Sublist.refl _ | exact List.nil_sublist _ | apply List.Sublist.cons_cons | apply List.Sublist.cons)) hh)) ?_
    refine qd rfl rfl rfl rfl ?_
    refine d_as0 rfl rfl rfl (pure_add64 rfl rfl (by omega) (by omega)) (show _ = Value.int .i64 ((4 + 2 * i : Nat) : Int) from by congr 1; omega) ?_
    refine d_pure0 rfl rfl rfl (pure_ix rfl rfl rfl rfl rfl (by omega) (by omega) (ix1 rfl (4 + 2 * i))) ?_
    refine d_pure1 rfl rfl rfl (pure_load (i := 1) rfl rfl rfl rfl rfl n2) (by exact (fun w hh => Has.sublist (by repeat (first | exact List.Sublist.refl _ | exact List.nil_sublist _ | apply List.Sublist.cons_cons | apply List.Sublist.cons)) hh)) ?_
    refine d_pure0 rfl rfl rfl (pure_build_struct (pl := [(0, 1), (1, 1)]) rfl zero110 rfl rfl rfl rfl) ?_
    refine d_buildSlice rfl rfl rfl rfl rfl rfl elem110 (by decide) (by decide) (fill_rg _ _) (by exact (fun w hh => Has.sublist (by repeat (first | exact List.Sublist.refl _ | exact List.nil_sublist _ | apply List.Sublist.cons_cons | apply List.Sublist.cons)) hh)) rfl (fun b75 => ?_)
    refine d_append 1 rfl rfl rfl rfl rfl hs rfl rfl rfl rfl rfl elem110 rfl (by decide) rfl rfl rfl (src_own (j := 0) (sl_built ty110 110 b75 [.int .i64 lo, .int .i64 hg] 1 rfl) rfl) (by intro v hv; simp at hv; rcases hv with rfl | rfl <;> rfl) (by omega) (by omega) rfl (fun rb' rc' er' hs' => ?_)
    refine d_pure0 rfl rfl rfl (pure_fieldAddr rfl rfl rfl rfl rfl (by decide)) ?_
    refine d_store 2 rfl rfl rfl rfl rfl rfl rfl rfl rfl rfl (by exact Nat.le_of_ble_eq_true rfl) rfl rfl rfl ?_
    refine d_end (fun a w ok => ?_)
    (refine WPs.run ?_ a w ok; clear ok w a)
    repeat refine s_seqs ?_
    refine s_reg ?_
    refine qm rfl rfl ?_
    refine step_as rfl (pure_add64 rfl rfl (by omega) (by omega)) (show _ = Value.int .i64 ((3 + 2 * (i + 1) : Nat) : Int) from by congr 1) ?_
    refine qa rfl rfl ?_
    refine Vc.step_end (fun a w ok => ?_)
    (refine WPs.run ?_ a w ok; clear ok w a)
    repeat refine s_seqs ?_
    refine s_reg ?_
    refine qm rfl rfl ?_
    refine step_pure rfl (pure_add64 rfl rfl (by omega) (by omega)) ?_
    refine qa rfl rfl ?_
    refine Vc.step_end (fun a w ok => ?_)
    refine ⟨(i + 1, ⟨rb', i + 1, rc', er'⟩), E2, ⟨hlt, ?_⟩, by dsimp only; omega, Gt.refl _, Less.ok ?_ ok⟩
    ·dsimp only
     rw [hsn]
     exact hs'
    exact less_sub ⟨rfl, rfl, rfl, rfl, rfl, rfl, rfl, rfl, trivial⟩ (by repeat (first | exact List.Sublist.refl _ | exact List.nil_sublist _ | apply List.Sublist.cons_cons | apply List.Sublist.cons))
   ·have hie : i = cnt P := by have := of_decide_eq_false h; omega
    subst hie
    refine s_exit fun a w ok => ⟨⟨rb, cnt P, rc, er⟩, E2, hs, g2, Less.ok ?_ ok⟩
    rw [hus]
    exact less_of ⟨rfl, rfl, rfl, rfl, rfl, rfl, rfl, trivial⟩ rfl
  ·rw [if_neg (by omega)] at hcn hus
   rw [if_pos (.inl h3)] at hus hmb
   rw [hcn] at hmr ⊢
   rw [hmb, hmr, hus]
   repeat refine s_seqs ?_
   refine s_reg ?_
   refine step_pure rfl (pure_eql rfl rfl) ?_
   refine qa rfl rfl ?_
   refine Vc.step_end (fun a w ok => ?_)
   (refine WPs.run ?_ a w ok; clear ok w a)
   repeat refine s_seqs ?_
   refine s_cond_no rfl (by rw [h3]; rfl) ?_
   repeat refine s_seqs ?_
   refine s_reg ?_
   refine step_pure rfl (pure_eql rfl rfl) ?_
   refine qa rfl rfl ?_
   refine Vc.step_end (fun a w ok => ?_)
   (refine WPs.run ?_ a w ok; clear ok w a)
   repeat refine s_seqs ?_
   refine s_cond_yes rfl (by rw [h3]; rfl) ?_
   refine s_skip fun a w ok => WPs.run ?_ a w ok
   clear ok w a
   repeat refine s_seqs ?_
   refine s_cond_yes rfl (by rw [h3]; rfl) ?_
   repeat refine s_seqs ?_
   refine s_reg ?_
   refine step_pure rfl (pure_ix rfl rfl rfl rfl rfl (by decide) (by decide) rfl) ?_
   refine step_pure rfl (pure_load (i := 3) rfl rfl rfl rfl rfl (hN 2 (by decide))) ?_
   refine step_pure rfl (pure_fieldAddr rfl rfl rfl rfl rfl (by decide)) ?_
   refine step_store 1 rfl rfl rfl rfl rfl rfl rfl rfl (by exact Nat.le_of_ble_eq_true rfl) rfl ?_
   refine Vc.step_end (fun a w ok => ?_)
   (refine WPs.run ?_ a w ok; clear ok w a)
   repeat refine s_seqs ?_
   refine s_reg ?_
   refine qa rfl rfl ?_
   refine Vc.step_end (fun a w ok => ?_)
   refine ⟨⟨none, 0, 0, hole⟩, E1, sl_nil _ _ (by decide), Gt.refl _, Less.ok ?_ ok⟩
   exact less_of ⟨rfl, rfl, rfl, rfl, rfl, rfl, rfl, trivial⟩ rfl
  ·rw [if_neg (by omega)] at hcn hus
   rw [if_pos (.inr h5)] at hus hmb
   rw [hcn] at hmr ⊢
   rw [hmb, hmr, hus]
   repeat refine s_seqs ?_
   refine s_reg ?_
   refine step_pure rfl (pure_eql rfl rfl) ?_
   refine qa rfl rfl ?_
   refine Vc.step_end (fun a w ok => ?_)
   (refine WPs.run ?_ a w ok; clear ok w a)
   repeat refine s_seqs ?_
   refine s_cond_no rfl (by rw [h5]; rfl) ?_
   repeat refine s_seqs ?_
   refine s_reg ?_
   refine step_pure rfl (pure_eql rfl rfl) ?_
   refine qa rfl rfl ?_
   refine Vc.step_end (fun a w ok => ?_)
   (refine WPs.run ?_ a w ok; clear ok w a)
   repeat refine s_seqs ?_
   refine s_cond_no rfl (by rw [h5]; rfl) ?_
   repeat refine s_seqs ?_
   refine s_reg ?_
   refine step_pure rfl (pure_eql rfl rfl) ?_
   refine qa rfl rfl ?_
   refine Vc.step_end (fun a w ok => ?_)
   (refine WPs.run ?_ a w ok; clear ok w a)
   repeat refine s_seqs ?_
   refine s_cond_yes rfl (by rw [h5]; rfl) ?_
   repeat refine s_seqs ?_
   refine s_reg ?_
   refine step_pure rfl (pure_ix rfl rfl rfl rfl rfl (by decide) (by decide) rfl) ?_
   refine step_pure rfl (pure_load (i := 3) rfl rfl rfl rfl rfl (hN 2 (by decide))) ?_
   refine step_pure rfl (pure_fieldAddr rfl rfl rfl rfl rfl (by decide)) ?_
   refine step_store 1 rfl rfl rfl rfl rfl rfl rfl rfl (by exact Nat.le_of_ble_eq_true rfl) rfl ?_
   refine Vc.step_end (fun a w ok => ?_)
   (refine WPs.run ?_ a w ok; clear ok w a)
   repeat refine s_seqs ?_
   refine s_reg ?_
   refine qa rfl rfl ?_
   refine Vc.step_end (fun a w ok => ?_)
   refine ⟨⟨none, 0, 0, hole⟩, E1, sl_nil _ _ (by decide), Gt.refl _, Less.ok ?_ ok⟩
   exact less_of ⟨rfl, rfl, rfl, rfl, rfl, rfl, rfl, trivial⟩ rfl
  ·rw [if_neg n2] at hcn hus
   rw [if_neg (by omega)] at hus hmb
   rw [hcn] at hmr ⊢
   have hus2 : ((used0 P : Nat) : Int) = if pN P 0 = 1 then 1 else 2 := by rw [hus]; split <;> rfl
   rw [hmb, hmr, hus2]
   repeat refine s_seqs ?_
   refine s_reg ?_
   refine step_pure rfl (pure_eql rfl rfl) ?_
   refine qa rfl rfl ?_
   refine Vc.step_end (fun a w ok => ?_)
   (refine WPs.run ?_ a w ok; clear ok w a)
   repeat refine s_seqs ?_
   refine s_cond_no rfl (by simpa using n2) ?_
   repeat refine s_seqs ?_
   refine s_reg ?_
   refine step_pure rfl (pure_eql rfl rfl) ?_
   refine qa rfl rfl ?_
   refine Vc.step_end (fun a w ok => ?_)
   (refine WPs.run ?_ a w ok; clear ok w a)
   repeat refine s_seqs ?_
   refine s_cond_no rfl (by simpa using n3) ?_
   repeat refine s_seqs ?_
   refine s_reg ?_
   refine step_pure rfl (pure_eql rfl rfl) ?_
   refine qa rfl rfl ?_
   refine Vc.step_end (fun a w ok => ?_)
   (refine WPs.run ?_ a w ok; clear ok w a)
   repeat refine s_seqs ?_
   refine s_cond_no rfl (by simpa using n5) ?_
   refine s_skip fun a w ok => ⟨⟨none, 0, 0, hole⟩, E1, sl_nil _ _ (by decide), Gt.refl _, Less.ok ?_ ok⟩
   exact less_of ⟨rfl, rfl, rfl, rfl, rfl, rfl, rfl, trivial⟩ rfl
 rintro ⟨rb, rl, rc, er⟩ E2 hsr g a w ok
 dsimp only at hsr
 refine WPs.run ?_ a w ok
 clear ok w a
 dsimp only
 replace on := on.next g
 replace hv := hv.mono g.mono
 clear g hcn hus hma hmb
 -- data
 have hhd : hasD P = (pN P 0 == 3 || pN P 0 == 4) := rfl
 have hdn : datN P = if hasD P = true then pN P (used0 P) else 0 := rfl
 have hu1e : used1 P = if hasD P = true then used0 P + 1 else used0 P := rfl
 repeat refine s_seqs ?_
 refine s_reg ?_
 refine qa rfl rfl ?_
 refine Vc.step_end (fun a w ok => ?_)
 (refine WPs.run ?_ a w ok; clear ok w a)
 repeat refine s_seqs ?_
 refine s_meet ((10, .pointer (some ⟨b10, 0, none⟩)) :: (11, .int .i64 (used0 P : Int)) :: (13, .int .i64 0) :: (93, .bool (hasD P)) :: rF base1 b.length cap1 b2 b4 b5 P) (er :: ⟨b10, [.int .i64 (pN P 0), .int .i64 (mk0 P).a, .int .i64 (mk0 P).b, .slice rb (cnt P) rc, .slice none 0 0], 59⟩ :: mF b5 b4 b2 P) ?_ (fun a w ok => WPs.run ?_ a w ok)
 ·generalize pN P 0 = k at *
  repeat refine c_seq ?_
  refine c_region ?_
  refine step_pure rfl (pure_fieldAddr rfl rfl rfl rfl rfl (by decide)) ?_
  refine step_pure rfl (pure_load (i := 1) rfl rfl rfl rfl rfl rfl) ?_
  refine step_pure rfl (pure_eql rfl rfl) ?_
  refine qm rfl rfl ?_
  refine step_split (t := 89) rfl (fun h89 => ?_) (fun h89 => ?_)
  ·refine qp rfl rfl rfl ?_
   refine qp rfl rfl rfl ?_
   refine qp rfl rfl rfl ?_
   refine step_pure rfl (pure_pick_yes rfl rfl) ?_
   refine step_nil ?_
   refine less_of ⟨rfl, rfl, rfl, ?_, rfl, rfl, rfl, rfl, rfl, trivial⟩ rfl
   rw [hhd]
   refine congrArg some (congrArg Value.bool ?_)
   rw [Bool.eq_iff_iff]
   simp_all
  ·refine step_pure rfl (pure_fieldAddr rfl rfl rfl rfl rfl (by decide)) ?_
   refine step_pure rfl (pure_load (i := 1) rfl rfl rfl rfl rfl rfl) ?_
   refine step_pure rfl (pure_eql rfl rfl) ?_
   refine step_pure rfl (pure_pick_no rfl rfl) ?_
   refine step_nil ?_
   refine less_of ⟨rfl, rfl, rfl, ?_, rfl, rfl, rfl, rfl, rfl, trivial⟩ rfl
   rw [hhd]
   refine congrArg some (congrArg Value.bool ?_)
   rw [Bool.eq_iff_iff]
   simp_all
 repeat refine s_seqs ?_
 refine s_meet ((10, .pointer (some ⟨b10, 0, none⟩)) :: (11, .int .i64 (used1 P : Int)) :: (13, .int .i64 (datN P)) :: rF base1 b.length cap1 b2 b4 b5 P) (er :: ⟨b10, [.int .i64 (pN P 0), .int .i64 (mk0 P).a, .int .i64 (mk0 P).b, .slice rb (cnt P) rc, .slice none 0 0], 59⟩ :: mF b5 b4 b2 P) ?_ (fun a w ok => WPs.run ?_ a w ok)
 ·repeat refine c_seq ?_
  refine c_cond rfl (fun h => ?_) (fun h => ?_)
  ·rw [if_pos h] at hdn hu1e
   rw [hdn, hu1e]
   repeat refine c_seq ?_
   refine c_region ?_
   refine qm rfl rfl ?_
   refine step_pure rfl (pure_ix rfl rfl rfl rfl rfl (by omega) (by omega) (ix1 rfl (used0 P))) ?_
   refine step_pure rfl (pure_load (i := 3) rfl rfl rfl rfl rfl (hN (used0 P) (by omega))) ?_
   refine qa rfl rfl ?_
   refine step_nil ?_
   repeat refine c_seq ?_
   refine c_region ?_
   refine qm rfl rfl ?_
   refine step_as rfl (pure_add64 rfl rfl (by omega) (by omega)) (show _ = Value.int .i64 ((used0 P + 1 : Nat) : Int) from rfl) ?_
   refine qa rfl rfl ?_
   refine step_nil ?_
   exact less_of ⟨rfl, rfl, rfl, rfl, rfl, rfl, rfl, rfl, trivial⟩ rfl
  ·rw [if_neg (by rw [h]; decide)] at hdn hu1e
   rw [hdn, hu1e]
   refine c_skip ?_
   exact less_of ⟨rfl, rfl, rfl, rfl, rfl, rfl, rfl, rfl, trivial⟩ rfl
 have hdN : 0 ≤ datN P ∧ datN P < 4611686018427387904 := by
  rw [hdn]
  split
  ·exact hPN _
  ·decide
 have hpa := hPA (used1 P)
 have hlo : lost1 P b = (decide (P.length < used1 P) || decide ((b.length : Int) - pAt P (used1 P) < datN P)) := rfl
 have hmf : mkF P b = { mk0 P with data := if 0 < datN P then (b.drop (pAt P (used1 P))).take (datN P).toNat else [] } := rfl
 have hA1 := hA (used1 P) (by omega)
 clear hdn hu1e hhd
 repeat refine s_seqs ?_
 refine s_meet ((10, .pointer (some ⟨b10, 0, none⟩)) :: (11, .int .i64 (used1 P : Int)) :: (13, .int .i64 (datN P)) :: (111, .bool (lost1 P b)) :: rF base1 b.length cap1 b2 b4 b5 P) (er :: ⟨b10, [.int .i64 (pN P 0), .int .i64 (mk0 P).a, .int .i64 (mk0 P).b, .slice rb (cnt P) rc, .slice none 0 0], 59⟩ :: mF b5 b4 b2 P) ?_ (fun a w ok => WPs.run ?_ a w ok)
 ·rw [hlo]
  repeat refine c_seq ?_
  refine c_region ?_
  refine qm rfl rfl ?_
  refine qm rfl rfl ?_
  refine step_pure rfl (pure_gtr rfl rfl) ?_
  refine qm rfl rfl ?_
  refine step_split (t := 102) rfl (fun h102 => ?_) (fun h102 => ?_)
  ·refine qp rfl rfl rfl ?_
   refine qp rfl rfl rfl ?_
   refine qp rfl rfl rfl ?_
   refine qp rfl rfl rfl ?_
   refine qp rfl rfl rfl ?_
   refine qp rfl rfl rfl ?_
   refine qp rfl rfl rfl ?_
   refine qp rfl rfl rfl ?_
   refine step_pure rfl (pure_pick_yes rfl rfl) ?_
   refine step_nil ?_
   refine less_of ⟨rfl, rfl, rfl, ?_, rfl, rfl, rfl, rfl, rfl, trivial⟩ rfl
   refine congrArg some (congrArg Value.bool ?_)
   rw [Bool.eq_iff_iff]
   simp at h102 ⊢
   omega
  ·refine qm rfl rfl ?_
   refine qm rfl rfl ?_
   refine step_pure rfl (pure_len_slice rfl rfl rfl) ?_
   refine qm rfl rfl ?_
   refine step_pure rfl (pure_ix rfl rfl rfl rfl rfl (by omega) (by have := of_decide_eq_false h102; omega) (ix1 rfl (used1 P))) ?_
   refine step_pure rfl (pure_load (i := 2) rfl rfl rfl rfl rfl hA1) ?_
   refine step_pure rfl (pure_sub64 rfl rfl (by omega) (by omega)) ?_
   refine step_pure rfl (pure_gtr rfl rfl) ?_
   refine step_pure rfl (pure_pick_no rfl rfl) ?_
   refine step_nil ?_
   refine less_of ⟨rfl, rfl, rfl, ?_, rfl, rfl, rfl, rfl, rfl, trivial⟩ rfl
   refine congrArg some (congrArg Value.bool ?_)
   rw [Bool.eq_iff_iff]
   simp at h102 ⊢
   omega
 repeat refine s_seqs ?_
 refine s_cond rfl (fun h => ?_) (fun h => ?_)
 ·have hnone : oneP b = none := oneP_no hb (fun f r hf he => by have := (hno f r hf he).1; rw [h] at this; cases this)
  repeat refine s_seqs ?_
  refine s_reg ?_
  refine step_pure rfl (pure_build_struct (pl := [(0, 1), (1, 1), (2, 1), (3, 1), (4, 1)]) rfl zero59 rfl rfl rfl rfl) ?_
  refine step_store_agg 4 rfl rfl rfl (of_one rfl) rfl rfl rfl rfl (Nat.le_of_ble_eq_true rfl) rfl ?_
  refine qa rfl rfl ?_
  refine Vc.step_end (fun a w ok => ?_)
  (refine WPs.run ?_ a w ok; clear ok w a)
  exact s_ret fun a w ok => ends_givesP on (.inr rfl) ok (res_cell_tmp (i := 4) Try.results59 rfl rfl rfl rfl rfl (Nat.le_of_ble_eq_true rfl) rfl rfl) (oneR_mono b) (oneR_no hnone)
 have hl2 : used1 P ≤ P.length ∧ datN P ≤ (b.length : Int) - pAt P (used1 P) := by
  rw [h] at hlo
  simp at hlo
  omega
 clear h hlo
 refine s_skip fun a w ok => WPs.run ?_ a w ok
 clear ok w a
 repeat refine s_seqs ?_
 refine s_reg ?_
 refine qm rfl rfl ?_
 refine step_hole ?_
 refine step_pure rfl (pure_gtr rfl rfl) ?_
 refine Vc.step_end (fun a w ok => ?_)
 (refine WPs.run ?_ a w ok; clear ok w a)
 have hmd : (mkF P b).data = if 0 < datN P then (b.drop (pAt P (used1 P))).take (datN P).toNat else [] := rfl
 have hmdl : (mkF P b).data.length ≤ 1000000 := by
  rw [hmd]
  split
  ·rw [List.length_take, List.length_drop]; omega
  ·simp
 have hmdb : Bytes (mkF P b).data := by
  rw [hmd]
  split
  ·exact fun y hy => hb y (List.mem_of_mem_drop (List.mem_of_mem_take hy))
  ·intro y hy; cases hy
 repeat refine s_seqs ?_
 refine s_meetP (α := SlS) (fun _ => (10, .pointer (some ⟨b10, 0, none⟩)) :: rF base1 b.length cap1 b2 b4 b5 P)
  (fun z => z.e :: er :: ⟨b10, [.int .i64 (pN P 0), .int .i64 (mk0 P).a, .int .i64 (mk0 P).b, .slice rb (cnt P) rc, .slice z.base (mkF P b).data.length z.cap], 59⟩ :: mF b5 b4 b2 P) (fun z _ => SlIs ty5 5 z.e z.base (mkF P b).data.length z.cap (row (mkF P b).data)) ?_ ?_
 ·repeat refine s_seqs ?_
  refine s_cond rfl (fun h => ?_) (fun h => ?_)
  ·have hd0 : 0 < datN P := of_decide_eq_true h
   rw [if_pos hd0] at hmd
   obtain ⟨dn, hdn⟩ : ∃ dn : Nat, datN P = dn := ⟨(datN P).toNat, by omega⟩
   have hsub := slc_sub (lo := pAt P (used1 P)) (hi := pAt P (used1 P) + dn) hv (by omega) (by omega)
   have hdl : (mkF P b).data.length = dn := by rw [hmd, List.length_take, List.length_drop]; omega
   have hrow : ((row b).drop (pAt P (used1 P) * 1)).take ((pAt P (used1 P) + dn - pAt P (used1 P)) * 1) = row (mkF P b).data := by
    rw [hmd, Nat.mul_one, Nat.mul_one, show pAt P (used1 P) + dn - pAt P (used1 P) = (datN P).toNat by omega, show (row b).drop (pAt P (used1 P)) = row (b.drop (pAt P (used1 P))) from (List.map_drop ..).symm]
    exact (List.map_take ..).symm
   rw [hrow, show pAt P (used1 P) + dn - pAt P (used1 P) = (mkF P b).data.length by omega] at hsub
   repeat refine s_seqs ?_
   refine s_dreg [9, 17, 25, 35, 41, 49, 59, 65, 73, 81, 5, 92, 97, 108] ([⟨b5, ints .i64 (aL P), 134⟩]) follows (by kernel_rfl) ?_
   refine qd rfl rfl rfl rfl ?_
   refine qd rfl rfl rfl rfl ?_
   refine d_pure0 rfl rfl rfl (pure_ix rfl rfl rfl rfl rfl (by omega) (by omega) (ix1 rfl (used1 P))) ?_
   refine d_pure1 rfl rfl rfl (pure_load (i := 0) rfl rfl rfl rfl rfl hA1) (by exact (fun w hh => Has.sublist (by repeat (first | exact List.Sublist.refl _ | exact List.nil_sublist _ | apply List.Sublist.cons_cons | apply List.Sublist.cons)) hh)) ?_
   refine qd rfl rfl rfl rfl ?_
   refine d_pure0 rfl rfl rfl (pure_ix rfl rfl rfl rfl rfl (by omega) (by omega) (ix1 rfl (used1 P))) ?_
   refine d_pure1 rfl rfl rfl (pure_load (i := 0) rfl rfl rfl rfl rfl hA1) (by exact (fun w hh => Has.sublist (by repeat (first | exact List.Sublist.refl _ | exact List.nil_sublist _ | apply List.Sublist.cons_cons | apply List.Sublist.cons)) hh)) ?_
   refine qd rfl rfl rfl rfl ?_
   refine d_as0 rfl rfl rfl (pure_add64 rfl rfl (by omega) (by omega)) (show _ = Value.int .i64 ((pAt P (used1 P) + dn : Nat) : Int) from by rw [hdn]; rfl) ?_
   refine d_as0 rfl rfl rfl (pure_sub_both rfl rfl rfl rfl rfl rfl (by omega) (by omega) (by omega)) (show _ = subS base1 cap1 1 (pAt P (used1 P)) (pAt P (used1 P) + dn) from by show subS base1 cap1 1 (pAt P (used1 P) : Int).toNat ((pAt P (used1 P) + dn : Nat) : Int).toNat = _; rw [Int.toNat_natCast, Int.toNat_natCast]) ?_
   refine d_buildSlice0 rfl rfl rfl rfl rfl rfl (by exact (fun w hh => Has.sublist (by repeat (first | exact List.Sublist.refl _ | exact List.nil_sublist _ | apply List.Sublist.cons_cons | apply List.Sublist.cons)) hh)) rfl (fun b115 => ?_)
   refine d_app8 (L := []) 0 rfl rfl rfl rfl (sl_empty ty5 5 b115) rfl hsub rfl (by omega) rfl (fun _ => (by exact (fun w hh => Has.sublist (by repeat (first | exact List.Sublist.refl _ | exact List.nil_sublist _ | apply List.Sublist.cons_cons | apply List.Sublist.cons)) hh))) (fun db dc ed hsd => ?_)
   rw [List.nil_append, Nat.zero_add] at hsd
   rw [Nat.zero_add]
   refine d_pure0 rfl rfl rfl (pure_fieldAddr rfl rfl rfl rfl rfl (by decide)) ?_
   refine d_store 3 rfl rfl rfl rfl rfl rfl rfl rfl rfl rfl (by exact Nat.le_of_ble_eq_true rfl) rfl rfl rfl ?_
   refine d_end (fun a w ok => ?_)
   refine ⟨⟨db, (mkF P b).data.length, dc, ed⟩, E2, hsd, Gt.refl _, Less.ok ?_ ok⟩
   exact less_sub ⟨rfl, rfl, rfl, rfl, rfl, rfl, trivial⟩ (by repeat (first | exact List.Sublist.refl _ | exact List.nil_sublist _ | apply List.Sublist.cons_cons | apply List.Sublist.cons))
  ·have hd0 : ¬ 0 < datN P := of_decide_eq_false h
   rw [if_neg hd0] at hmd
   rw [hmd]
   refine s_skip fun a w ok => ⟨⟨none, 0, 0, hole⟩, E2, sl_nil _ _ (by decide), Gt.refl _, Less.ok ?_ ok⟩
   exact less_of ⟨rfl, rfl, rfl, rfl, rfl, rfl, trivial⟩ rfl
 rintro ⟨db, dl, dc, ed⟩ E3 hsd g a w ok
 dsimp only at hsd
 refine WPs.run ?_ a w ok
 clear ok w a
 dsimp only
 replace on := on.next g
 replace hv := hv.mono g.mono
 clear g hmd hl2 hpa hdN hA1 hA hN hPN hPA
 -- the frame is whole
 have hcr : cnt P = (mkF P b).rs.length := by rw [hmf, hmr, List.length_map, List.length_range]
 have hsr : SlIs ty110 110 er rb (mkF P b).rs.length rc (rgCells (mkF P b).rs) := by rw [← hcr]; exact hsr
 rw [hcr]
 have e1 : pN P 0 = (mkF P b).kind := rfl
 have e2 : (mk0 P).a = (mkF P b).a := rfl
 have e3 : (mk0 P).b = (mkF P b).b := rfl
 rw [e1, e2, e3]
 replace hno : ∀ f r, fok f = true → b = fbytes f ++ r → mkF P b = f := fun f r h1 h2 => (hno f r h1 h2).2
 clear e1 e2 e3 hmf hmr hkd hcr hu1 hu0 hc16
 generalize mkF P b = f at *
 have hfc : ∀ w', Has w' (ed :: er :: ⟨b10, [.int .i64 f.kind, .int .i64 f.a, .int .i64 f.b, .slice rb f.rs.length rc, .slice db f.data.length dc], 59⟩ :: mF b5 b4 b2 P) → Keep E3.w0 w' E3.ws → FrC (At w') f [.int .i64 f.kind, .int .i64 f.a, .int .i64 f.b, .slice rb f.rs.length rc, .slice db f.data.length dc] :=
  fun w' hh kp => ⟨_, _, rfl, slis_now (j := 1) hsr rfl w' hh kp, slis_now (j := 0) hsd rfl w' hh kp⟩
 repeat refine s_seqs ?_
 refine s_reg ?_
 refine step_pure rfl (pure_load_agg (i := 2) rfl rfl rfl rfl rfl (Nat.le_of_ble_eq_true rfl) rfl) ?_
 refine step_gives rfl fun51 rfl (fun w' hh kp => rcheck_any f _ w' (hfc w' hh kp) (by omega)) ?_
 refine step_pure rfl (pure_neq rfl rfl) ?_
 refine Vc.step_end (fun a w ok => ?_)
 (refine WPs.run ?_ a w ok; clear ok w a)
 by_cases hk : fok f = true
 ·rw [if_pos hk]
  repeat refine s_seqs ?_
  refine s_cond_no rfl rfl ?_
  refine s_skip fun a w ok => WPs.run ?_ a w ok
  clear ok w a
  repeat refine s_seqs ?_
  refine s_reg ?_
  refine step_pure rfl (pure_load_agg (i := 2) rfl rfl rfl rfl rfl (Nat.le_of_ble_eq_true rfl) rfl) ?_
  refine step_givesP on.sc rfl fun52 rfl (fun w' Z' hh kp hZ hC => rfbytes_P f _ w' hZ (hfc w' hh kp) hk) ?_
  rintro v14 E4 g hw
  replace on := on.next g
  replace hv := hv.mono g.mono
  refine qa rfl rfl ?_
  refine Vc.step_end (fun a w ok => ?_)
  (refine WPs.run ?_ a w ok; clear ok w a)
  have hfl := fbytes_le hk
  have hfb := fbytes_bytes hmdb
  have hw : SlC (Cel E4) 1 v14 (fbytes f).length (row (fbytes f)) := SlC.mono hw Cz.cel
  obtain ⟨base14, cap14, rfl, hcap14⟩ := slc_str hw
  repeat refine s_seqs ?_
  refine s_meet ((148, .bool (!decide ((fbytes f).length ≤ b.length ∧ fbytes f = b.take (fbytes f).length))) :: (10, .pointer (some ⟨b10, 0, none⟩)) :: (14, .slice base14 (fbytes f).length cap14) :: rF base1 b.length cap1 b2 b4 b5 P) (ed :: er :: ⟨b10, [.int .i64 f.kind, .int .i64 f.a, .int .i64 f.b, .slice rb f.rs.length rc, .slice db f.data.length dc], 59⟩ :: mF b5 b4 b2 P) ?_ (fun a w ok => WPs.run ?_ a w ok)
  ·by_cases hlen : (fbytes f).length ≤ b.length
   ·have hsub := slc_sub (lo := 0) (hi := (fbytes f).length) hv (Nat.zero_le _) hlen
    rw [Nat.zero_mul, List.drop_zero, Nat.sub_zero, Nat.mul_one, show (row b).take (fbytes f).length = row (b.take (fbytes f).length) from (List.map_take ..).symm] at hsub
    have htl : (b.take (fbytes f).length).length = (fbytes f).length := by rw [List.length_take]; omega
    have hsub : SlC (Cel E4) 1 (subS base1 cap1 1 0 (fbytes f).length) (b.take (fbytes f).length).length (row (b.take (fbytes f).length)) := by rw [htl]; exact hsub
    have htb : Bytes (b.take (fbytes f).length) := fun y hy => hb y (List.mem_of_mem_take hy)
    have hcmp : (!(str (fbytes f)).toList == (str (b.take (fbytes f).length)).toList) = !decide ((fbytes f).length ≤ b.length ∧ fbytes f = b.take (fbytes f).length) := by
     by_cases he : fbytes f = b.take (fbytes f).length
     ·rw [decide_eq_true ⟨hlen, he⟩, ← he, beq_self_eq_true]
     ·rw [decide_eq_false (fun h => he h.2), str_ne hfb htb he]
    repeat refine c_seq ?_
    refine d_region2 [1, 9, 17, 25, 33, 41, 49, 59, 65, 73, 81, 89, 99, 105, 113] ([]) follows (by kernel_rfl) ?_
    refine qd rfl rfl rfl rfl ?_
    refine d_pure0 rfl rfl rfl (pure_len_slice rfl rfl rfl) ?_
    refine qd rfl rfl rfl rfl ?_
    refine d_pure0 rfl rfl rfl (pure_len_slice rfl rfl rfl) ?_
    refine d_as0 rfl rfl rfl (pure_gtr rfl rfl) (show _ = Value.bool false from by rw [decide_eq_false (by omega)]) ?_
    refine qd rfl rfl rfl rfl ?_
    refine qd rfl rfl rfl rfl ?_
    refine d_pure1 rfl rfl rfl (pure_sl_string rfl rfl rfl rfl rfl rfl rfl (fun w hh kp => (hw.mono (fun p x h => h.now kp)).slv)) (by exact (fun w hh => Has.sublist (by repeat (first | exact List.Sublist.refl _ | exact List.nil_sublist _ | apply List.Sublist.cons_cons | apply List.Sublist.cons)) hh)) ?_
    refine qd rfl rfl rfl rfl ?_
    refine qd rfl rfl rfl rfl ?_
    refine d_pure0 rfl rfl rfl (pure_len_slice rfl rfl rfl) ?_
    refine d_as0 rfl rfl rfl (pure_sub_hi rfl rfl rfl rfl rfl (by omega) (by omega)) (show _ = subS base1 cap1 1 0 (fbytes f).length from by show subS base1 cap1 1 0 ((fbytes f).length : Int).toNat = _; rw [Int.toNat_natCast]) ?_
    refine d_pure1 rfl rfl rfl (pure_sl_string rfl rfl rfl rfl rfl rfl rfl (fun w hh kp => (hsub.mono (fun p x h => h.now kp)).slv)) (by exact (fun w hh => Has.sublist (by repeat (first | exact List.Sublist.refl _ | exact List.nil_sublist _ | apply List.Sublist.cons_cons | apply List.Sublist.cons)) hh)) ?_
    refine d_as0 rfl rfl rfl (pure_str_neq rfl rfl) (show _ = Value.bool _ from by rw [hcmp]) ?_
    refine d_pure0 rfl rfl rfl (pure_pick_no rfl rfl) ?_
    refine d_nil ?_
    exact less_of ⟨rfl, rfl, rfl, rfl, rfl, rfl, rfl, rfl, trivial⟩ rfl
   ·rw [decide_eq_false (fun h => hlen h.1)]
    repeat refine c_seq ?_
    refine d_region2 [1, 9, 17, 25, 33, 41, 49, 59, 65, 73, 81, 89, 99, 105, 113] ([]) follows (by kernel_rfl) ?_
    refine qd rfl rfl rfl rfl ?_
    refine d_pure0 rfl rfl rfl (pure_len_slice rfl rfl rfl) ?_
    refine qd rfl rfl rfl rfl ?_
    refine d_pure0 rfl rfl rfl (pure_len_slice rfl rfl rfl) ?_
    refine d_as0 rfl rfl rfl (pure_gtr rfl rfl) (show _ = Value.bool true from by rw [decide_eq_true (by omega)]) ?_
    refine qd rfl rfl rfl rfl ?_
    refine d_pass rfl rfl rfl (fun h => by cases h) rfl rfl rfl ?_
    refine d_pass rfl rfl rfl (fun _ => (by exact (fun w hh => Has.sublist (by repeat (first | exact List.Sublist.refl _ | exact List.nil_sublist _ | apply List.Sublist.cons_cons | apply List.Sublist.cons)) hh))) rfl rfl rfl ?_
    refine d_pass rfl rfl rfl (fun h => by cases h) rfl rfl rfl ?_
    refine d_pass rfl rfl rfl (fun h => by cases h) rfl rfl rfl ?_
    refine d_pass rfl rfl rfl (fun h => by cases h) rfl rfl rfl ?_
    refine d_pass rfl rfl rfl (fun h => by cases h) rfl rfl rfl ?_
    refine d_pass rfl rfl rfl (fun _ => (by exact (fun w hh => Has.sublist (by repeat (first | exact List.Sublist.refl _ | exact List.nil_sublist _ | apply List.Sublist.cons_cons | apply List.Sublist.cons)) hh))) rfl rfl rfl ?_
    refine d_pass rfl rfl rfl (fun h => by cases h) rfl rfl rfl ?_
    refine d_pure0 rfl rfl rfl (pure_pick_yes rfl rfl) ?_
    refine d_nil ?_
    exact less_of ⟨rfl, rfl, rfl, rfl, rfl, rfl, rfl, rfl, trivial⟩ rfl
  by_cases hyes : (fbytes f).length ≤ b.length ∧ fbytes f = b.take (fbytes f).length
  ·rw [decide_eq_true hyes]
   repeat refine s_seqs ?_
   refine s_cond_no rfl rfl ?_
   refine s_skip fun a w ok => WPs.run ?_ a w ok
   clear ok w a
   repeat refine s_seqs ?_
   refine s_reg ?_
   refine step_pure rfl (pure_load_agg (i := 2) rfl rfl rfl rfl rfl (Nat.le_of_ble_eq_true rfl) rfl) ?_
   refine qm rfl rfl ?_
   refine step_pure rfl (pure_len_slice rfl rfl rfl) ?_
   refine step_store_agg 5 rfl rfl rfl (of_one rfl) rfl rfl rfl rfl (Nat.le_of_ble_eq_true rfl) rfl ?_
   refine qa rfl rfl ?_
   refine Vc.step_end (fun a w ok => ?_)
   (refine WPs.run ?_ a w ok; clear ok w a)
   have hone : oneP b = some f := by
    rw [← List.take_append_drop (fbytes f).length b, ← hyes.2]
    exact oneP_of hk
   refine s_letM [ed, er] (List.Perm.refl _) (fun E5 g5 hc => ?_)
   refine s_ret fun a w ok => ends_givesP (on.next g5) (.inr rfl) ok (res_cell_tmp (i := 3) Try.results59 rfl rfl rfl rfl rfl (Nat.le_of_ble_eq_true rfl) rfl rfl) (oneR_mono b) ?_
   have hc := hc Z on.sc
   unfold OneR
   rw [hone]
   exact ⟨_, rfl, _, _, rfl, slis_cz hsr (hc er (.tail _ (.head _))), slis_cz hsd (hc ed (.head _))⟩
  ·rw [decide_eq_false hyes]
   repeat refine s_seqs ?_
   refine s_cond_yes rfl rfl ?_
   have hnone : oneP b = none := oneP_no hb (fun f0 r hf he => by
    have h0 := hno f0 r hf he
    subst h0
    refine hyes ⟨by rw [he, List.length_append]; omega, ?_⟩
    rw [he, List.take_left])
   repeat refine s_seqs ?_
   refine s_reg ?_
   refine step_pure rfl (pure_build_struct (pl := [(0, 1), (1, 1), (2, 1), (3, 1), (4, 1)]) rfl zero59 rfl rfl rfl rfl) ?_
   refine step_store_agg 5 rfl rfl rfl (of_one rfl) rfl rfl rfl rfl (Nat.le_of_ble_eq_true rfl) rfl ?_
   refine qa rfl rfl ?_
   refine Vc.step_end (fun a w ok => ?_)
   (refine WPs.run ?_ a w ok; clear ok w a)
   exact s_ret fun a w ok => ends_givesP on (.inr rfl) ok (res_cell_tmp (i := 5) Try.results59 rfl rfl rfl rfl rfl (Nat.le_of_ble_eq_true rfl) rfl rfl) (oneR_mono b) (oneR_no hnone)
 ·rw [if_neg hk]
  repeat refine s_seqs ?_
  refine s_cond_yes rfl rfl ?_
  have hnone : oneP b = none := oneP_no hb (fun f0 r hf he => by
   have h0 := hno f0 r hf he
   subst h0
   exact hk hf)
  repeat refine s_seqs ?_
  refine s_reg ?_
  refine step_pure rfl (pure_build_struct (pl := [(0, 1), (1, 1), (2, 1), (3, 1), (4, 1)]) rfl zero59 rfl rfl rfl rfl) ?_
  refine step_store_agg 5 rfl rfl rfl (of_one rfl) rfl rfl rfl rfl (Nat.le_of_ble_eq_true rfl) rfl ?_
  refine qa rfl rfl ?_
  refine Vc.step_end (fun a w ok => ?_)
  (refine WPs.run ?_ a w ok; clear ok w a)
  exact s_ret fun a w ok => ends_givesP on (.inr rfl) ok (res_cell_tmp (i := 5) Try.results59 rfl rfl rfl rfl rfl (Nat.le_of_ble_eq_true rfl) rfl rfl) (oneR_mono b) (oneR_no hnone)
end Go.Proofs.Ythieegnhjoehbaa
/- The document's Read; the law FrameReads: walked. -/
namespace Go.Proofs.Ythieegnhjoehbaa
open Go.RowKit Go.Vc
set_option linter.unusedVariables false
theorem rdR_mono (b : List Int) : ∀ v (C C' : Addr → Value → Prop), (∀ p x, C p x → C' p x) → RdR b v C → RdR b v C' := by
 rintro u C C' hC ⟨v, rfl, hs⟩
 exact ⟨v, rfl, hs.mono hC⟩
theorem rdR_no {b : List Int} {C : Addr → Value → Prop} (h : rdAll b = none) : RdR b (.tuple #[.slice none 0 0, .int .i64 20]) C := by
 refine ⟨_, by rw [h]; rfl, ?_⟩
 rw [h]
 exact ⟨[], rfl, by simp, slc_nil⟩
theorem rdGo_no {k : Nat} {b : List Int} {l : List Fr} (h0 : b.length ≠ 0) (h : oneP b = none ∨ l.length = 16) : rdGo (k + 1) b l = none := by
 unfold rdGo
 rw [if_neg h0]
 refine if_pos ?_
 rcases h with h | h
 ·unfold oneP at h
  split at h
  ·cases h
  ·rename_i hn
   cases hz : (rdZ (b, false)).2 with
   | true => rfl
   | false =>
    have : fok (rdFrame (b, false)) = false := by
     cases hf : fok (rdFrame (b, false)) with
     | false => rfl
     | true => exact absurd ⟨hz, hf⟩ hn
    rw [this]
    rfl
 ·rw [h]
  simp
theorem rdGo_yes {k : Nat} {b : List Int} {l : List Fr} {f : Fr} (hb : Bytes b) (h0 : b.length ≠ 0) (h : oneP b = some f) (hl : l.length ≠ 16) : rdGo (k + 1) b l = rdGo k (b.drop (fbytes f).length) (l ++ [f]) := by
 obtain ⟨h1, h2⟩ := oneP_in hb h
 have h3 := h
 unfold oneP at h
 split at h
 ·rename_i hn
  cases h
  show (if b.length = 0 then some l else _) = _
  rw [if_neg h0, if_neg (by rw [hn.1, hn.2]; simp; omega)]
  congr 1
  have := congrArg (List.drop (fbytes (rdFrame (b, false))).length) h2
  rw [List.drop_left] at this
  exact this.symm
 ·cases h
structure RrX where
 b : List Int
 base : Option Addr
 cap : Nat
 fs : List Fr
 css : List (List Value)
 sb : Option Addr
 sc : Nat
 se : Ent
structure RrX.Ok (x : RrX) (b : List Int) (Z : Nat → Prop) (E : Env) : Prop where
 n16 : x.fs.length ≤ 16
 go : rdGo (17 - x.fs.length) x.b x.fs = rdAll b
 bs : SlC (Cel E) 1 (.slice x.base x.b.length x.cap) x.b.length (row x.b)
 by_ : Bytes x.b
 le : x.b.length ≤ b.length
 cl : x.css.length = x.fs.length
 fr : ∀ (i : Nat) (f : Fr) (cs : List Value), x.fs[i]? = some f → x.css[i]? = some cs → FrC (Cz Z E) f cs
 sl : SlIs ty59 59 x.se x.sb x.fs.length x.sc x.css.flatten
set_option maxHeartbeats 4000000 in
theorem rread_P (b : List Int) (v : Value) (w : World) {Z : Nat → Prop} (hZ : ∀ b, w.heap.size ≤ b → Z b) (hv : SlC (At w) 1 v b.length (row b)) (hb : Bytes b) (hle : b.length ≤ 1000000) : GivesP tb 41 [v] w Z (RdR b) := by
 have hv : SlC (Cel ⟨w, [], []⟩) 1 v b.length (row b) := hv.mono fun p x h => ⟨h, by simp⟩
 obtain ⟨base1, cap1, rfl, hcap1⟩ := slc_str hv
 refine givesP_of (fn := Try.f41) Try.func41 rfl Try.ntmps41 rfl hZ (rdR_mono b) (fun on => ?_)
 repeat refine s_seqs ?_
 refine s_reg ?_
 refine qa rfl rfl ?_
 refine qa rfl rfl ?_
 refine Vc.step_end (fun a w ok => ?_)
 (refine WPs.run ?_ a w ok; clear ok w a)
 repeat refine s_seqs ?_
 refine s_reg ?_
 refine qa rfl rfl ?_
 refine step_hole ?_
 refine Vc.step_end (fun a w ok => ?_)
 (refine WPs.run ?_ a w ok; clear ok w a)
 repeat refine s_seqs ?_
 refine s_block ?_
 repeat refine s_seqs ?_
 refine s_loopP (α := RrX) (fun x => [(0, .slice x.base x.b.length x.cap), (4, .slice x.sb x.fs.length x.sc)]) (fun x => [x.se]) (fun x E => x.Ok b Z E) (fun x => 17 - x.fs.length) ⟨b, base1, cap1, [], [], none, 0, hole⟩
  ⟨Nat.zero_le _, rfl, hv, hb, Nat.le_refl _, rfl, by simp, sl_nil _ _ (by decide)⟩ (less_of ⟨rfl, rfl, trivial⟩ rfl) ?_
 clear hv
 rintro ⟨b1, base, cap, fs, css, sb, sc, se⟩ E1 ⟨h16, hgo, hv, hb1, hle1, hcl, hfr, hs⟩ g
 dsimp only at h16 hgo hv hb1 hle1 hcl hfr hs ⊢
 replace on := on.next g
 clear g
 obtain ⟨k, hk⟩ : ∃ k, 17 - fs.length = k + 1 := ⟨16 - fs.length, by omega⟩
 rw [hk] at hgo ⊢
 repeat refine s_seqs ?_
 refine s_reg ?_
 refine qm rfl rfl ?_
 refine step_pure rfl (pure_len_slice rfl rfl rfl) ?_
 refine step_pure rfl (pure_gtr rfl rfl) ?_
 refine Vc.step_end (fun a w ok => ?_)
 (refine WPs.run ?_ a w ok; clear ok w a)
 repeat refine s_seqs ?_
 refine s_cond rfl (fun h => ?_) (fun h => ?_)
 ·have h0 : b1.length ≠ 0 := by have := of_decide_eq_true h; omega
  clear h
  refine s_skip fun a w ok => WPs.run ?_ a w ok
  clear ok w a
  repeat refine s_seqs ?_
  refine s_block ?_
  have hone := fun f => oneP_in (b := b1) (f := f) hb1
  have hrn := fun h => rdGo_no (k := k) (l := fs) h0 h
  have hry := fun f => rdGo_yes (k := k) (l := fs) (f := f) hb1 h0
  repeat refine s_seqs ?_
  refine s_reg ?_
  refine qm rfl rfl ?_
  refine step_givesP on.sc rfl fun59 rfl (fun w' Z' hh kp hZ hC => one_P b1 _ w' hZ (hv.mono fun p x h => h.now kp) hb1 (by omega)) ?_
  rintro u E2 g hu
  replace on := on.next g
  replace hv := hv.mono g.mono
  replace hfr := fun i f cs h1 h2 => (hfr i f cs h1 h2).mono g.cz
  unfold OneR at hu
  cases ho : oneP b1 with
  | none =>
   rw [ho] at hu
   obtain ⟨cs, hcs5, hcs1, rfl⟩ := hu
   have hno : rdAll b = none := hgo.symm.trans (hrn (.inl ho))
   refine qm rfl rfl ?_
   refine qx rfl rfl rfl ?_
   refine qx rfl rfl rfl ?_
   refine step_alloc rfl zero59 (fun b5 => ?_)
   refine step_store_agg 0 rfl rfl rfl hcs1 rfl hcs5 rfl rfl (Nat.le_of_ble_eq_true rfl) (splice_all hcs5) ?_
   refine qa rfl rfl ?_
   refine Vc.step_end (fun a w ok => ?_)
   (refine WPs.run ?_ a w ok; clear ok w a)
   repeat refine s_seqs ?_
   refine s_reg ?_
   refine qm rfl rfl ?_
   refine step_pure rfl (pure_lss rfl rfl) ?_
   refine qm rfl rfl ?_
   refine qp rfl rfl rfl ?_
   refine qp rfl rfl rfl ?_
   refine qp rfl rfl rfl ?_
   refine step_pure rfl (pure_pick_yes rfl rfl) ?_
   refine Vc.step_end (fun a w ok => ?_)
   (refine WPs.run ?_ a w ok; clear ok w a)
   repeat refine s_seqs ?_
   refine s_cond_yes rfl rfl ?_
   repeat refine s_seqs ?_
   refine s_reg ?_
   refine qa rfl rfl ?_
   refine qa rfl rfl ?_
   refine Vc.step_end (fun a w ok => ?_)
   (refine WPs.run ?_ a w ok; clear ok w a)
   exact s_ret fun a w ok => ends_givesP on (.inr rfl) ok (res_tmp2 Try.results41 rfl rfl) (rdR_mono b) (rdR_no hno)
  | some f =>
   rw [ho] at hu
   obtain ⟨cs, rfl, hfc⟩ := hu
   obtain ⟨hok, hbe⟩ := hone f ho
   have hbl : (fbytes f).length ≤ b1.length := by rw [hbe, List.length_append]; omega
   have hfne := fbytes_ne f hok []
   rw [List.append_nil] at hfne
   have hfc' := hfc
   obtain ⟨rv, dv, rfl, ⟨rb, rc, rfl, hr⟩, ⟨db, dc, rfl, hd⟩⟩ := hfc
   clear hr hd
   refine qm rfl rfl ?_
   refine qx rfl rfl rfl ?_
   refine qx rfl rfl rfl ?_
   refine step_alloc rfl zero59 (fun b5 => ?_)
   refine step_store_agg 0 rfl rfl rfl (of_one rfl) rfl rfl rfl rfl (Nat.le_of_ble_eq_true rfl) (splice_all rfl) ?_
   refine qa rfl rfl ?_
   refine Vc.step_end (fun a w ok => ?_)
   (refine WPs.run ?_ a w ok; clear ok w a)
   repeat refine s_seqs ?_
   refine s_meet [(0, .slice base b1.length cap), (4, .slice sb fs.length sc), (5, .pointer (some ⟨b5, 0, none⟩)), (6, .int .i64 ((fbytes f).length : Int)), (21, .bool (decide (fs.length = 16)))] [⟨b5, [.int .i64 f.kind, .int .i64 f.a, .int .i64 f.b, .slice rb f.rs.length rc, .slice db f.data.length dc], 59⟩, se] ?_ (fun a w ok => WPs.run ?_ a w ok)
   ·have h16' : ((fs.length : Int) == 16) = decide (fs.length = 16) := by
     rw [Bool.eq_iff_iff, decide_eq_true_iff, beq_iff_eq]
     omega
    repeat refine c_seq ?_
    refine c_region ?_
    refine qm rfl rfl ?_
    refine step_as rfl (pure_lss rfl rfl) (show _ = Value.bool false from by rw [decide_eq_false (by omega)]) ?_
    refine qm rfl rfl ?_
    refine qm rfl rfl ?_
    refine step_pure rfl (pure_len_slice rfl rfl rfl) ?_
    refine step_as rfl (pure_eql rfl rfl) (show _ = Value.bool (decide (fs.length = 16)) from by rw [h16']) ?_
    refine step_pure rfl (pure_pick_no rfl rfl) ?_
    refine step_nil ?_
    exact less_of ⟨rfl, rfl, rfl, rfl, rfl, trivial⟩ rfl
   by_cases hl16 : fs.length = 16
   ·rw [decide_eq_true hl16]
    repeat refine s_seqs ?_
    refine s_cond_yes rfl rfl ?_
    have hno : rdAll b = none := hgo.symm.trans (hrn (.inr hl16))
    repeat refine s_seqs ?_
    refine s_reg ?_
    refine qa rfl rfl ?_
    refine qa rfl rfl ?_
    refine Vc.step_end (fun a w ok => ?_)
    (refine WPs.run ?_ a w ok; clear ok w a)
    exact s_ret fun a w ok => ends_givesP on (.inr rfl) ok (res_tmp2 Try.results41 rfl rfl) (rdR_mono b) (rdR_no hno)
   ·rw [decide_eq_false hl16]
    repeat refine s_seqs ?_
    refine s_cond_no rfl rfl ?_
    refine s_skip fun a w ok => WPs.run ?_ a w ok
    clear ok w a
    have hsub := slc_sub (lo := (fbytes f).length) (hi := b1.length) hv hbl (Nat.le_refl _)
    have hdl : (b1.drop (fbytes f).length).length = b1.length - (fbytes f).length := List.length_drop
    rw [Nat.mul_one, Nat.mul_one, show ((row b1).drop (fbytes f).length).take (b1.length - (fbytes f).length) = row (b1.drop (fbytes f).length) from by
     rw [List.take_of_length_le (by rw [List.length_drop, row_len]; omega)]; exact (List.map_drop ..).symm, ← hdl] at hsub
    obtain ⟨base', cap', hsb, hcap'⟩ := slc_str hsub
    rw [hsb] at hsub
    repeat refine s_seqs ?_
    refine s_reg ?_
    refine qm rfl rfl ?_
    refine step_pure rfl (pure_load_agg (i := 0) rfl rfl rfl rfl rfl (Nat.le_of_ble_eq_true rfl) rfl) ?_
    refine step_buildSlice rfl rfl rfl rfl elem59 (by decide) (by decide) (fill_fr _ _ _ _ _) (fun b24 => ?_)
    refine step_append 2 rfl rfl hs rfl rfl rfl rfl rfl elem59 rfl (by decide) rfl rfl rfl (src_own (j := 0) (sl_built ty59 59 b24 [.int .i64 f.kind, .int .i64 f.a, .int .i64 f.b, .slice rb f.rs.length rc, .slice db f.data.length dc] 1 rfl) rfl) (of_one rfl) (by omega) (by omega) (fun sb' sc' se' hs' => ?_)
    refine qa rfl rfl ?_
    refine Vc.step_end (fun a w ok => ?_)
    (refine WPs.run ?_ a w ok; clear ok w a)
    repeat refine s_seqs ?_
    refine s_reg ?_
    refine qm rfl rfl ?_
    refine qm rfl rfl ?_
    refine step_as rfl (pure_sub_lo rfl rfl rfl rfl rfl (by omega) (by omega)) (show _ = Value.slice base' (b1.drop (fbytes f).length).length cap' from by rw [← hsb]; show subS base cap 1 ((fbytes f).length : Int).toNat b1.length = _; rw [Int.toNat_natCast]) ?_
    refine qa rfl rfl ?_
    refine Vc.step_end (fun a w ok => ?_)
    refine ⟨⟨b1.drop (fbytes f).length, base', cap', fs ++ [f], css ++ [[.int .i64 f.kind, .int .i64 f.a, .int .i64 f.b, .slice rb f.rs.length rc, .slice db f.data.length dc]], sb', sc', se'⟩, E2, ⟨?_, ?_, hsub, fun y hy => hb1 y (List.mem_of_mem_drop hy), ?_, ?_, ?_, ?_⟩, ?_, g, Less.ok ?_ ok⟩
    ·dsimp only; rw [List.length_append, List.length_singleton]; omega
    ·dsimp only
     rw [List.length_append, List.length_singleton, show 17 - (fs.length + 1) = k by omega, ← hry f ho hl16]
     exact hgo
    ·dsimp only; rw [hdl]; omega
    ·dsimp only; rw [List.length_append, List.length_append, hcl]; rfl
    ·dsimp only
     refine frc_app hcl hfr ?_
     intro i f' cs' h1 h2
     cases i with
     | zero => cases h1; cases h2; exact hfc'
     | succ i => simp at h1
    ·dsimp only
     rw [List.length_append, List.length_singleton, List.flatten_append, List.flatten_cons, List.flatten_nil, List.append_nil]
     exact hs'
    ·dsimp only; rw [List.length_append, List.length_singleton]; omega
    dsimp only
    rw [List.length_append, List.length_singleton]
    exact less_sub ⟨rfl, rfl, trivial⟩ (by repeat (first | exact List.Sublist.refl _ | exact List.nil_sublist _ | apply List.Sublist.cons_cons | apply List.Sublist.cons))
 ·have h0 : b1.length = 0 := by have := of_decide_eq_false h; omega
  have hall : rdAll b = some fs := by
   rw [← hgo]
   unfold rdGo
   rw [if_pos h0]
  refine s_exit fun a w ok => WPs.run ?_ a w ok
  clear ok w a
  repeat refine s_seqs ?_
  refine s_reg ?_
  refine qm rfl rfl ?_
  refine qa rfl rfl ?_
  refine qa rfl rfl ?_
  refine Vc.step_end (fun a w ok => ?_)
  (refine WPs.run ?_ a w ok; clear ok w a)
  refine s_let 0 rfl (fun E5 g5 hc => ?_)
  refine s_ret fun a w ok => ends_givesP (on.next g5) (.inr rfl) ok (res_tmp2 Try.results41 rfl rfl) (rdR_mono b) ⟨_, by rw [hall]; rfl, ?_⟩
  rw [hall]
  exact ⟨css, hcl, fun i f cs h1 h2 => (hfr i f cs h1 h2).mono g5.cz, slis_cz hs (hc _ on.sc)⟩
end Go.Proofs.Ythieegnhjoehbaa
