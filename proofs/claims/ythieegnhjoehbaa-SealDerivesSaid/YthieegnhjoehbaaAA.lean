/- Plain facts of the cipher's bytes: no program. -/
import Derived.Test.YthieegnhjoehbaaVb
import Derived.Test.YthieegnhjoehbaaTz
namespace Go.Proofs.Ythieegnhjoehbaa
open Go.Vc
/-- Two bytes, bit by bit. -/
abbrev xr (a b : Int) : Int := bits BinOp.xor IntKind.u8 a b
abbrev orr (a b : Int) : Int := bits BinOp.or IntKind.u8 a b
/-- Shifts and products of bytes. -/
abbrev sl (a k : Int) : Int := IntKind.u8.wrap (a * 2 ^ min k.toNat IntKind.u8.bits)
abbrev sr (a k : Int) : Int := a / 2 ^ min k.toNat IntKind.u8.bits
abbrev ml (a k : Int) : Int := IntKind.u8.wrap (a * k)
/-- Twice a byte, as a product. -/
def dbl (a : Int) : Int := xr (sl a 1) (ml (sr a 7) 27)
/-- One round of the two powers. -/
def powA (a : Int) : Int := xr a (dbl a)
def powB0 (b : Int) : Int := xr b (sl b 1)
def powB1 (b : Int) : Int := xr b (sl b 2)
def powB2 (b : Int) : Int := xr b (sl b 4)
def powB3 (b : Int) : Int := xr b (ml (sr b 7) 9)
def powB (b : Int) : Int := powB3 (powB2 (powB1 (powB0 b)))
def boxOf (b : Int) : Int := xr (xr (xr (xr (xr b (orr (sl b 1) (sr b 7))) (orr (sl b 2) (sr b 6))) (orr (sl b 3) (sr b 5))) (orr (sl b 4) (sr b 4))) 99
/-- After k rounds: the two powers and the table. -/
def boxSt : Nat → Int × Int × List Int
 | 0 => (1, 1, zeros 256)
 | k + 1 => let s := boxSt k; (powA s.1, powB s.2.1, s.2.2.set (powA s.1).toNat (boxOf (powB s.2.1)))
/-- The table. -/
def boxT : List Int := (boxSt 255).2.2.set 0 99
theorem boxSt_zero : boxSt 0 = (1, 1, zeros 256) := rfl
theorem boxSt_succ (k : Nat) : boxSt (k + 1) = (powA (boxSt k).1, powB (boxSt k).2.1, (boxSt k).2.2.set (powA (boxSt k).1).toNat (boxOf (powB (boxSt k).2.1))) := rfl
/-- The powers from a start on. -/
def pA : Nat → Int
 | 0 => 1
 | k + 1 => powA (pA k)
theorem pA_is (k : Nat) : (boxSt k).1 = pA k := by
 induction k with
 | zero => rfl
 | succ k ih => rw [boxSt_succ, ih]; rfl
/-- n powers from a on: none of the first is 1, all are bytes, the last one is 1. -/
def okFrom : Nat → Int → Bool
 | 0, a => a == 1
 | n + 1, a => (n == 0 || powA a != 1) && (decide (0 ≤ powA a) && (decide (powA a < 256) && okFrom n (powA a)))
theorem okFrom_all : okFrom 255 1 = true := by decide +kernel
theorem okFrom_at (n : Nat) : ∀ k a, okFrom (n + k) a = true → ∀ m, m = n → okFrom m (Nat.rec a (fun _ x => powA x) k) = true := by
 intro k
 induction k with
 | zero => intro a h m hm; subst hm; exact h
 | succ k ih =>
  intro a h m hm
  rw [← Nat.add_assoc] at h
  unfold okFrom at h
  rw [Bool.and_eq_true, Bool.and_eq_true, Bool.and_eq_true] at h
  have := ih _ h.2.2.2 m hm
  have e : ∀ k, (Nat.rec (powA a) (fun _ x => powA x) k : Int) = powA (Nat.rec a (fun _ x => powA x) k) := by
   intro k
   induction k with
   | zero => rfl
   | succ k ih => exact congrArg powA ih
  rw [e] at this
  exact this
theorem pA_rec (k : Nat) : pA k = Nat.rec 1 (fun _ x => powA x) k := by
 induction k with
 | zero => rfl
 | succ k ih => exact congrArg powA ih
theorem okA (k : Nat) (h : k < 255) : (254 - k = 0 ∨ powA (pA k) ≠ 1) ∧ 0 ≤ powA (pA k) ∧ powA (pA k) < 256 := by
 have := okFrom_at ((254 - k) + 1) k 1 (by rw [show 254 - k + 1 + k = 255 from by omega]; exact okFrom_all) _ rfl
 rw [← pA_rec] at this
 unfold okFrom at this
 rw [Bool.and_eq_true, Bool.and_eq_true, Bool.and_eq_true, Bool.or_eq_true] at this
 obtain ⟨h1, h2, h3, _⟩ := this
 refine ⟨?_, of_decide_eq_true h2, of_decide_eq_true h3⟩
 rcases h1 with h1 | h1
 ·exact .inl (eq_of_beq h1)
 ·exact .inr (bne_iff_ne.1 h1)
theorem boxA_ne (k : Nat) (h : k + 1 < 255) : (powA (boxSt k).1) ≠ 1 := by
 rw [pA_is]
 exact ((okA k (by omega)).1).resolve_left (by omega)
theorem boxA_end : (powA (boxSt 254).1) = 1 := by
 rw [pA_is]
 have := okFrom_at 0 255 1 okFrom_all 0 rfl
 rw [← pA_rec] at this
 exact eq_of_beq this
theorem boxA_in (k : Nat) (h : k < 255) : 0 ≤ powA (boxSt k).1 ∧ powA (boxSt k).1 < 256 := by
 rw [pA_is]
 exact (okA k h).2
theorem boxLen (k : Nat) : (boxSt k).2.2.length = 256 := by
 induction k with
 | zero => exact List.length_replicate
 | succ k ih => rw [boxSt_succ]; exact (List.length_set ..).trans ih
theorem boxT_len : boxT.length = 256 := (List.length_set ..).trans (boxLen 255)
attribute [irreducible] boxT
end Go.Proofs.Ythieegnhjoehbaa
namespace Go.Proofs.Ythieegnhjoehbaa
open Go.RowKit Go.Vc
set_option linter.unusedVariables false
set_option maxHeartbeats 400000 in
theorem double_any (a : Int) (w : World) : Gives tb 93 [.int .u8 a] w (.int .u8 (dbl a)) := by
 refine gives_of (fn := Try.f93) Try.func93 rfl Try.ntmps93 rfl ?_
 repeat first
  | refine qm rfl rfl ?_
  | refine qa rfl rfl ?_
  | refine step_pure rfl (pure_shl rfl rfl (by decide)) ?_
  | refine step_pure rfl (pure_shr rfl rfl (by decide)) ?_
  | refine step_pure rfl (pure_mul rfl rfl) ?_
  | refine step_pure rfl (pure_xor rfl rfl) ?_
  | refine step_nil ?_
  | refine c_seq ?_
  | refine c_region ?_
 exact c_ret ⟨_, res_tmp Try.results93 rfl, rfl⟩
set_option maxHeartbeats 1000000 in
theorem boxes_any (w : World) : Gives tb 86 [] w (.agg (row boxT).toArray) := by
 refine gives_of (fn := Try.f86) Try.func86 rfl Try.ntmps86 rfl ?_
 refine c_seq (c_region (step_alloc rfl zero137 (fun b => ?_)))
 refine step_nil ?_
 repeat first
  | refine qa rfl rfl ?_
  | refine step_nil ?_
  | refine c_seq ?_
  | refine c_region ?_
 refine c_block ?_
 refine c_loop (α := Nat) (fun k => [(0, .pointer (some ⟨b, 0, none⟩)), (1, .int .u8 (boxSt k).1), (2, .int .u8 (boxSt k).2.1)]) (fun k => [⟨b, row (boxSt k).2.2, 137⟩])
  (fun k => k < 255) (fun k => 255 - k) 0 (by decide) (less_regs ⟨rfl, rfl, rfl, trivial⟩) ?_
 intro k hk
 repeat first
  | refine qm rfl rfl ?_
  | refine step_pure rfl (pure_xor rfl rfl) ?_
  | refine step_gives rfl fun93 rfl (fun w _ _ => double_any _ w) ?_
  | refine c_seq ?_
  | refine c_region ?_
  | refine c_block ?_
 refine step_as rfl (pure_assign rfl) (show _ = Value.int .u8 (powA (boxSt k).1) from rfl) ?_
 repeat first
  | refine qm rfl rfl ?_
  | refine step_pure rfl (pure_shl rfl rfl (by decide)) ?_
  | refine step_pure rfl (pure_xor rfl rfl) ?_
  | refine step_nil ?_
  | refine c_seq ?_
  | refine c_region ?_
 refine step_as rfl (pure_assign rfl) (show _ = Value.int .u8 (powB0 (boxSt k).2.1) from rfl) ?_
 repeat first
  | refine qm rfl rfl ?_
  | refine step_pure rfl (pure_shl rfl rfl (by decide)) ?_
  | refine step_pure rfl (pure_xor rfl rfl) ?_
  | refine step_nil ?_
  | refine c_seq ?_
  | refine c_region ?_
 refine step_as rfl (pure_assign rfl) (show _ = Value.int .u8 (powB1 (powB0 (boxSt k).2.1)) from rfl) ?_
 repeat first
  | refine qm rfl rfl ?_
  | refine step_pure rfl (pure_shl rfl rfl (by decide)) ?_
  | refine step_pure rfl (pure_xor rfl rfl) ?_
  | refine step_nil ?_
  | refine c_seq ?_
  | refine c_region ?_
 refine step_as rfl (pure_assign rfl) (show _ = Value.int .u8 (powB2 (powB1 (powB0 (boxSt k).2.1))) from rfl) ?_
 repeat first
  | refine qm rfl rfl ?_
  | refine step_pure rfl (pure_shr rfl rfl (by decide)) ?_
  | refine step_pure rfl (pure_mul rfl rfl) ?_
  | refine step_pure rfl (pure_xor rfl rfl) ?_
  | refine step_nil ?_
  | refine c_seq ?_
  | refine c_region ?_
 refine step_as rfl (pure_assign rfl) (show _ = Value.int .u8 (powB (boxSt k).2.1) from rfl) ?_
 have hA := boxA_in k hk
 repeat first
  | refine qm rfl rfl ?_
  | refine step_pure rfl (pure_shl rfl rfl (by decide)) ?_
  | refine step_pure rfl (pure_shr rfl rfl (by decide)) ?_
  | refine step_pure rfl (pure_or rfl rfl) ?_
  | refine step_pure rfl (pure_xor rfl rfl) ?_
  | refine step_pure rfl (pure_indexAddr_arr rfl rfl rfl rfl rfl (by omega) (by omega)) ?_
  | refine step_nil ?_
  | refine c_seq ?_
  | refine c_region ?_
 refine step_store 0 rfl rfl (show _ = some (Value.int .u8 (boxOf (powB (boxSt k).2.1))) from rfl) rfl rfl rfl rfl rfl (by rw [row_len, boxLen]; show 0 + (powA (boxSt k).1).toNat * 1 < 256; omega)
  (show _ = row (boxSt (k + 1)).2.2 from by rw [row_set, boxSt_succ]; simp) ?_
 repeat first
  | refine qm rfl rfl ?_
  | refine step_pure rfl (pure_eql rfl rfl) ?_
  | refine step_nil ?_
  | refine c_seq ?_
  | refine c_region ?_
 refine c_cond rfl (fun h => ?_) (fun h => ?_)
 ·have hk' : k = 254 := by
   apply Classical.byContradiction; intro hn
   exact boxA_ne k (by omega) (eq_of_beq h)
  have hT : (row (boxSt (k + 1)).2.2).set 0 (.int .u8 99) = row boxT := by rw [row_set, hk']; unfold boxT; rfl
  have hl : (row (boxSt (k + 1)).2.2).length = 256 := by rw [row_len, boxLen]
  have hl' : (row boxT).length = 256 := by rw [row_len, boxT_len]
  clear h hk' hA
  have hone : ∀ v ∈ row boxT, v.oneCell' = true := row_one boxT
  generalize row boxT = T at hT hl' hone
  generalize row (boxSt (k + 1)).2.2 = U at hT hl
  refine c_exit ?_
  repeat first
   | refine step_pure rfl (pure_indexAddr_arr rfl rfl rfl rfl rfl (by decide) (by decide)) ?_
   | refine c_seq ?_
   | refine c_region ?_
  refine step_store 0 rfl rfl rfl rfl rfl rfl rfl rfl (by rw [hl]; decide) hT ?_
  repeat first
   | refine step_pure rfl (pure_load_agg (i := 0) rfl rfl rfl rfl rfl (by rw [hl']; decide) (show _ = T from by rw [List.drop_zero, List.take_of_length_le (by rw [hl']; decide)])) ?_
   | refine step_nil ?_
   | refine c_seq ?_
   | refine c_region ?_
  refine step_store_agg 0 rfl rfl rfl hone rfl hl' rfl rfl (by rw [hl']; decide) (splice_all (hl'.trans hl'.symm)) ?_
  refine step_nil (c_ret ⟨_, res_cell_agg (i := 0) Try.results86 rfl rfl rfl rfl rfl (by show 0 + 256 ≤ T.length; rw [hl']; decide) rfl, ?_⟩)
  show Value.agg ((T.drop 0).take 256).toArray = _
  rw [List.drop_zero, List.take_of_length_le (by rw [hl']; decide)]
 ·have hk' : k + 1 < 255 := by
   apply Classical.byContradiction; intro hn
   have : k = 254 := by omega
   subst this
   rw [boxA_end] at h
   cases h
  refine c_skip ⟨k + 1, hk', by omega, less_regs ⟨rfl, rfl, rfl, trivial⟩⟩
end Go.Proofs.Ythieegnhjoehbaa
namespace Go.Proofs.Ythieegnhjoehbaa
open Go.RowKit Go.Vc
set_option linter.unusedVariables false
/-- One column's byte of a round key. -/
def exC (i c : Nat) (s : List Int × List Int) : List Int × List Int :=
 (s.1.set (c % 4) (xr (s.1.getD (c % 4) 0) (s.2.getD (16 * i + c) 0)), s.2.set (16 * (i + 1) + c) (xr (s.1.getD (c % 4) 0) (s.2.getD (16 * i + c) 0)))
def exCs (i : Nat) (s : List Int × List Int) : Nat → List Int × List Int
 | 0 => s
 | c + 1 => exC i c (exCs i s c)
def exLast (S O : List Int) (i : Nat) (round : Int) : List Int :=
 [xr (S.getD (O.getD (16 * i + 13) 0).toNat 0) round, S.getD (O.getD (16 * i + 14) 0).toNat 0, S.getD (O.getD (16 * i + 15) 0).toNat 0, S.getD (O.getD (16 * i + 12) 0).toNat 0]
def exK (S key : List Int) : Nat → List Int × Int
 | 0 => (key ++ zeros 160, 1)
 | i + 1 => ((exCs i (exLast S (exK S key i).1 i (exK S key i).2, (exK S key i).1) 16).2, dbl (exK S key i).2)
theorem exC_len (i c : Nat) (s : List Int × List Int) : (exC i c s).1.length = s.1.length ∧ (exC i c s).2.length = s.2.length := by simp [exC]
theorem exCs_len (i : Nat) (s : List Int × List Int) (c : Nat) : (exCs i s c).1.length = s.1.length ∧ (exCs i s c).2.length = s.2.length := by
 induction c with
 | zero => exact ⟨rfl, rfl⟩
 | succ c ih => exact ⟨(exC_len i c _).1.trans ih.1, (exC_len i c _).2.trans ih.2⟩
theorem exK_succ (S key : List Int) (i : Nat) : exK S key (i + 1) = ((exCs i (exLast S (exK S key i).1 i (exK S key i).2, (exK S key i).1) 16).2, dbl (exK S key i).2) := rfl
theorem exK_len (S key : List Int) (h : key.length = 16) (i : Nat) : (exK S key i).1.length = 176 := by
 induction i with
 | zero => show (key ++ zeros 160).length = 176; rw [List.length_append, h, zeros_len]
 | succ i ih => rw [exK_succ, (exCs_len _ _ _).2]; exact ih
theorem exCs_bytes (i : Nat) (s : List Int × List Int) (c : Nat) (h : Bytes s.2) : Bytes (exCs i s c).2 := by
 induction c with
 | zero => exact h
 | succ c ih => exact ih.set _ (bits_byte _ _ _)
theorem exK_bytes (S key : List Int) (h : Bytes key) (i : Nat) : Bytes (exK S key i).1 := by
 induction i with
 | zero => exact h.append (Bytes.replicate 160)
 | succ i ih => rw [exK_succ]; exact exCs_bytes _ _ _ ih
/-- The round keys of a key, by a table. -/
def expF (S key : List Int) : List Int := (exK S key 10).1
theorem expF_len (S key : List Int) (h : key.length = 16) : (expF S key).length = 176 := exK_len S key h 10
theorem expF_bytes (S key : List Int) (h : Bytes key) : Bytes (expF S key) := exK_bytes S key h 10
theorem expF_is (S key : List Int) (i : Nat) (h : i = 10) : expF S key = (exK S key i).1 := by rw [h]; rfl
attribute [irreducible] expF
def p16a : List Nat := [1, 9, 17, 25, 35, 41, 49, 59, 65, 73, 81, 89, 97, 105, 115, 121, 129, 139, 145, 153, 161, 169, 179, 185, 193, 203, 209, 217, 225, 233, 243, 249, 257, 267, 273, 285, 292]
def p16b : List Nat := [1, 9, 17, 27, 33, 41, 49, 57, 67, 73, 81, 92]
def p16c : List Nat := [1, 9, 17, 25, 33, 43, 49, 57, 68]
set_option maxHeartbeats 1000000 in
theorem expanded_any (key S : List Int) (bb : Nat) (w : World) (hk : key.length = 16) (hb : Bytes key) (hS : ∀ i, i < 256 → w.cell? ⟨bb, i, none⟩ = some (.int .u8 (S.getD i 0))) :
  Gives tb 87 [.agg (row key).toArray, .pointer (some ⟨bb, 0, none⟩)] w (.agg (row (expF S key)).toArray) := by
 have hbb : bb ∉ ([] : List Nat) := by simp
 refine gives_of (fn := Try.f87) Try.func87 rfl Try.ntmps87 rfl ?_
 refine c_seq (c_region (step_box_agg rfl rfl (fun b => step_alloc rfl zero124 (fun bo => ?_))))
 repeat first
  | refine step_pure rfl (pure_load_agg (i := 1) rfl rfl rfl rfl rfl (by simp only [row_len, hk]; decide) (ints_whole _ _ 16 hk)) ?_
  | refine step_pure rfl (pure_ix rfl rfl rfl rfl rfl (by decide) (by decide) rfl) ?_
  | refine step_nil ?_
  | refine c_seq ?_
  | refine c_region ?_
 refine step_store_agg 0 rfl rfl rfl (row_one key) rfl (by rw [row_len]; exact hk) rfl rfl (by simp only [row_len, zeros_len]; decide)
  (show splice (row (zeros 176)) 0 (row key) = row (exK S key 0).1 from by rw [ints_splice]; unfold splice; rw [hk]; rfl) ?_
 repeat first
  | refine qa rfl rfl ?_
  | refine step_nil ?_
  | refine c_seq ?_
  | refine c_region ?_
 refine c_block ?_
 refine c_loop (α := Nat) (fun i => [(1, .pointer (some ⟨bb, 0, none⟩)), (4, .pointer (some ⟨bo, 0, none⟩)), (5, .int .u8 (exK S key i).2), (6, .int .i64 (i + 1))])
  (fun i => [⟨bo, row (exK S key i).1, 124⟩]) (fun i => i ≤ 10) (fun i => 10 - i) 0 (by decide) (less_sub ⟨rfl, rfl, rfl, rfl, trivial⟩ (by repeat (first | exact List.Sublist.slnil | apply List.Sublist.cons_cons | apply List.Sublist.cons))) ?_
 intro i hi
 have hOl := exK_len S key hk i
 have hOb := exK_bytes S key hb i
 repeat first
  | refine qm rfl rfl ?_
  | refine step_pure rfl (pure_lss rfl rfl) ?_
  | refine step_nil ?_
  | refine c_seq ?_
  | refine c_region ?_
 refine c_cond rfl (fun h => ?_) (fun h => ?_)
 ·have hlt : i < 10 := by have := of_decide_eq_true h; omega
  clear h
  refine c_skip ?_
  repeat first
   | refine qm rfl rfl ?_
   | refine step_pure rfl (pure_sub64 rfl rfl (by omega) (by omega)) ?_
   | refine step_pure rfl (pure_ix (off' := 16 * i) rfl rfl rfl rfl rfl (by omega) (by omega) (by simp; omega)) ?_
   | refine qa rfl rfl ?_
   | refine step_nil ?_
   | refine c_seq ?_
   | refine c_region ?_
   | refine c_block ?_
  refine d_region p16a follows (by kernel_rfl) ?_
  repeat first
   | refine qd rfl rfl rfl rfl ?_
   | refine d_pure0 rfl rfl rfl (pure_nilCheck rfl) ?_
   | refine d_pure0 rfl rfl rfl (pure_xor rfl rfl) ?_
   | refine d_pure0 rfl rfl rfl (pure_ix rfl rfl rfl rfl rfl (by decide) (by decide) rfl) ?_
   | refine d_pure0 rfl rfl rfl (pure_ix rfl rfl rfl rfl rfl (hOb.at _).1 (hOb.at _).2 rfl) ?_
   | refine d_pure1 rfl rfl rfl (pure_load (i := 0) rfl rfl rfl rfl rfl (row_get _ _ (by rw [hOl]; simp; omega))) (SubMem.refl _) ?_
   | refine d_pure1 rfl rfl rfl (pure_view rfl rfl rfl (hS _ (hOb.ix _)) hbb) (SubMem.refl _) ?_
   | refine d_as0 rfl rfl rfl (pure_build_arr rfl zero146 rfl rfl rfl rfl) (show _ = Value.agg (row (exLast S (exK S key i).1 i (exK S key i).2)).toArray from by simp [exLast, ints, zeros]) ?_
   | refine d_alloc rfl rfl rfl zero146 (SubMem.refl _) rfl (fun bl => ?_)
  refine d_store_agg 0 rfl rfl rfl rfl rfl (row_one _) rfl rfl rfl rfl (by simp only [row_len, zeros_len]; decide) (splice_all rfl) rfl rfl ?_
  refine d_nil ?_
  have hLl : (exLast S (exK S key i).1 i (exK S key i).2).length = 4 := rfl
  generalize hs0 : (exLast S (exK S key i).1 i (exK S key i).2, (exK S key i).1) = s0
  have h1 : exLast S (exK S key i).1 i (exK S key i).2 = s0.1 := by rw [← hs0]
  have h2 : (exK S key i).1 = s0.2 := by rw [← hs0]
  have hK : exK S key (i + 1) = ((exCs i s0 16).2, dbl (exK S key i).2) := by rw [exK_succ, hs0]
  rw [h1] at hLl ⊢
  rw [h2] at hOl hOb ⊢
  clear hs0 h1 h2
  repeat first
   | refine qm rfl rfl ?_
   | refine step_nil ?_
   | refine c_seq ?_
   | refine c_region ?_
   | refine c_block ?_
  refine c_loop (α := Nat) (fun c => [(1, .pointer (some ⟨bb, 0, none⟩)), (4, .pointer (some ⟨bo, 0, none⟩)), (5, .int .u8 (exK S key i).2), (6, .int .i64 (i + 1)), (7, .pointer (some ⟨bo, 16 * i, none⟩)), (8, .pointer (some ⟨bl, 0, none⟩)), (54, .int .i64 c)])
   (fun c => [⟨bl, row (exCs i s0 c).1, 146⟩, ⟨bo, row (exCs i s0 c).2, 124⟩]) (fun c => c ≤ 16) (fun c => 16 - c) 0 (by decide) (less_regs ⟨rfl, rfl, rfl, rfl, rfl, rfl, rfl, trivial⟩) ?_
  intro c hc
  have hl4 := (exCs_len i s0 c).1.trans hLl
  have hlO := (exCs_len i s0 c).2.trans hOl
  repeat first
   | refine step_pure rfl (pure_lss rfl rfl) ?_
   | refine step_nil ?_
   | refine c_seq ?_
   | refine c_region ?_
  refine c_cond rfl (fun h => ?_) (fun h => ?_)
  ·have hlt : c < 16 := by have := of_decide_eq_true h; omega
   clear h
   refine c_skip ?_
   generalize hsc : exCs i s0 c = s0c at hl4 hlO ⊢
   have hsc' : exCs i s0 (c + 1) = exC i c s0c := by rw [← hsc]; rfl
   repeat first
    | refine qm rfl rfl ?_
    | refine qa rfl rfl ?_
    | refine step_nil ?_
    | refine c_seq ?_
    | refine c_region ?_
    | refine c_block ?_
   refine d_region p16b follows (by kernel_rfl) ?_
   repeat first
    | refine qd rfl rfl rfl rfl ?_
    | refine d_pure0 rfl rfl rfl (pure_nilCheck rfl) ?_
    | refine d_pure0 rfl rfl rfl (pure_rem_pos rfl rfl (by omega) (by decide)) ?_
    | refine d_as0 rfl rfl rfl (pure_xor rfl rfl) (show _ = Value.int .u8 (xr (s0c.1.getD (c % 4) 0) (s0c.2.getD (16 * i + c) 0)) from rfl) ?_
    | refine d_pure0 rfl rfl rfl (pure_ix (off' := c % 4) rfl rfl rfl rfl rfl (by omega) (by omega) (by show 0 + ((c : Int) % 4).toNat * 1 = _; omega)) ?_
    | refine d_pure0 rfl rfl rfl (pure_ix (off' := 16 * i + c) rfl rfl rfl rfl rfl (by omega) (by omega) (by show 16 * i + (c : Int).toNat * 1 = _; omega)) ?_
    | refine d_pure1 rfl rfl rfl (pure_load (i := 0) rfl rfl rfl rfl rfl (row_get _ _ (by omega))) (SubMem.refl _) ?_
    | refine d_pure1 rfl rfl rfl (pure_load (i := 1) rfl rfl rfl rfl rfl (row_get _ _ (by omega))) (SubMem.refl _) ?_
   refine d_store 0 rfl rfl rfl rfl rfl rfl rfl rfl rfl rfl (by rw [row_len]; omega) (row_set _ _ _) rfl rfl ?_
   refine d_nil ?_
   skip
   refine d_region p16c follows (by kernel_rfl) ?_
   repeat first
    | refine qd rfl rfl rfl rfl ?_
    | refine d_pure0 rfl rfl rfl (pure_rem_pos rfl rfl (by omega) (by decide)) ?_
    | refine d_pure0 rfl rfl rfl (pure_ix (off' := c % 4) rfl rfl rfl rfl rfl (by omega) (by omega) (by show 0 + ((c : Int) % 4).toNat * 1 = _; omega)) ?_
    | refine d_pure0 rfl rfl rfl (pure_ix (off' := 16 * (i + 1)) rfl rfl rfl rfl rfl (by omega) (by omega) (by show 0 + ((i : Int) + 1).toNat * 16 = _; omega)) ?_
    | refine d_pure0 rfl rfl rfl (pure_ix (off' := 16 * (i + 1) + c) rfl rfl rfl rfl rfl (by omega) (by omega) (by show 16 * (i + 1) + (c : Int).toNat * 1 = _; omega)) ?_
    | refine d_as1 rfl rfl rfl (pure_load (i := 0) rfl rfl rfl rfl rfl (row_get _ _ (by rw [List.length_set]; omega))) (SubMem.refl _) (show _ = Value.int .u8 (xr (s0c.1.getD (c % 4) 0) (s0c.2.getD (16 * i + c) 0)) from by rw [getD_set_self _ _ _ (by omega)]) ?_
   refine d_store 1 rfl rfl rfl rfl rfl rfl rfl rfl rfl rfl (by rw [row_len]; omega) (row_set _ _ _) rfl rfl ?_
   refine d_nil ?_
   repeat first
    | refine qm rfl rfl ?_
    | refine step_pure rfl (pure_add64 rfl rfl (by omega) (by omega)) ?_
    | refine step_nil ?_
    | refine c_region ?_
   refine ⟨c + 1, hlt, by omega, less_of ⟨rfl, rfl, rfl, rfl, rfl, rfl, rfl, trivial⟩ ?_⟩
   rw [hsc']; rfl
  ·have hc16 : c = 16 := by have := of_decide_eq_false h; omega
   subst hc16
   clear h
   refine c_exit ?_
   repeat first
    | refine qm rfl rfl ?_
    | refine qa rfl rfl ?_
    | refine step_pure rfl (pure_add64 rfl rfl (by omega) (by omega)) ?_
    | refine step_gives rfl fun93 rfl (fun w _ _ => double_any _ w) ?_
    | refine step_nil ?_
    | refine c_region ?_
   refine ⟨i + 1, hlt, by omega, ⟨look_all ⟨rfl, rfl, ?_, rfl, trivial⟩, fun _ h => Has.sublist ?_ h, fun _ h => Own.sublist ?_ h⟩⟩
   ·rw [hK]; rfl
   ·rw [hK]; exact (by repeat (first | exact List.Sublist.slnil | apply List.Sublist.cons_cons | apply List.Sublist.cons))
   ·rw [hK]; exact (by repeat (first | exact List.Sublist.slnil | apply List.Sublist.cons_cons | apply List.Sublist.cons))
 ·have hi10 : i = 10 := by have := of_decide_eq_false h; omega
  have hT : row (expF S key) = row (exK S key i).1 := by rw [expF_is S key i hi10]
  rw [hT]
  have hl' : (row (exK S key i).1).length = 176 := by rw [row_len, hOl]
  have hone : ∀ v ∈ row (exK S key i).1, v.oneCell' = true := row_one _
  generalize row (exK S key i).1 = T at hl' hone ⊢
  clear h hT hi10
  refine c_exit ?_
  repeat first
   | refine step_pure rfl (pure_load_agg (i := 0) rfl rfl rfl rfl rfl (by rw [hl']; decide) (show _ = T from by rw [List.drop_zero, List.take_of_length_le (by rw [hl']; decide)])) ?_
   | refine c_seq ?_
   | refine c_region ?_
  refine step_store_agg 0 rfl rfl rfl hone rfl hl' rfl rfl (by rw [hl']; decide) (splice_all (hl'.trans hl'.symm)) ?_
  refine step_nil (c_ret ⟨_, res_cell_agg (i := 0) Try.results87 rfl rfl rfl rfl rfl (by show 0 + 176 ≤ T.length; rw [hl']; decide) rfl, ?_⟩)
  show Value.agg ((T.drop 0).take 176).toArray = _
  rw [List.drop_zero, List.take_of_length_le (by rw [hl']; decide)]
end Go.Proofs.Ythieegnhjoehbaa
namespace Go.Proofs.Ythieegnhjoehbaa
open Go.RowKit Go.Vc
set_option linter.unusedVariables false
/-- Bytes changed by a round key, the first i of them. -/
def akS (K b : List Int) (n : Nat) : Nat → List Int
 | 0 => b
 | i + 1 => (akS K b n i).set i (xr ((akS K b n i).getD i 0) (K.getD (16 * n + i) 0))
/-- Bytes out of the table, moved. -/
def sbS (S b : List Int) : Nat → List Int
 | 0 => zeros 16
 | i + 1 => (sbS S b i).set i (S.getD (b.getD ((i + 4 * (i % 4)) % 16) 0).toNat 0)
def mixA (t : List Int) (c : Nat) : Int := xr (xr (xr (t.getD c 0) (t.getD (c + 1) 0)) (t.getD (c + 2) 0)) (t.getD (c + 3) 0)
def mix1 (t : List Int) (c : Nat) (b : List Int) : List Int :=
 (((b.set c (xr (xr (t.getD c 0) (mixA t c)) (dbl (xr (t.getD c 0) (t.getD (c + 1) 0))))).set (c + 1) (xr (xr (t.getD (c + 1) 0) (mixA t c)) (dbl (xr (t.getD (c + 1) 0) (t.getD (c + 2) 0))))).set (c + 2)
  (xr (xr (t.getD (c + 2) 0) (mixA t c)) (dbl (xr (t.getD (c + 2) 0) (t.getD (c + 3) 0))))).set (c + 3) (xr (xr (t.getD (c + 3) 0) (mixA t c)) (dbl (xr (t.getD (c + 3) 0) (t.getD c 0))))
def mcS (t b : List Int) : Nat → List Int
 | 0 => b
 | j + 1 => mix1 t (4 * j) (mcS t b j)
def rndS (S K b : List Int) (n : Nat) : List Int := akS K (if n < 10 then mcS (sbS S b 16) (sbS S b 16) 4 else sbS S b 16) n 16
def blkS (S K b : List Int) : Nat → List Int
 | 0 => akS K b 0 16
 | n + 1 => rndS S K (blkS S K b n) (n + 1)
theorem akS_len (K b : List Int) (n i : Nat) : (akS K b n i).length = b.length := by
 induction i with
 | zero => rfl
 | succ i ih => exact (List.length_set ..).trans ih
theorem sbS_len (S b : List Int) (i : Nat) : (sbS S b i).length = 16 := by
 induction i with
 | zero => exact zeros_len 16
 | succ i ih => exact (List.length_set ..).trans ih
theorem mix1_len (t : List Int) (c : Nat) (b : List Int) : (mix1 t c b).length = b.length := by simp [mix1]
theorem mcS_len (t b : List Int) (j : Nat) : (mcS t b j).length = b.length := by
 induction j with
 | zero => rfl
 | succ j ih => exact (mix1_len ..).trans ih
theorem rndS_len (S K b : List Int) (n : Nat) : (rndS S K b n).length = 16 := by
 unfold rndS
 rw [akS_len]
 split
 ·rw [mcS_len, sbS_len]
 ·rw [sbS_len]
theorem blkS_len (S K b : List Int) (h : b.length = 16) (n : Nat) : (blkS S K b n).length = 16 := by
 cases n with
 | zero => exact (akS_len ..).trans h
 | succ n => exact rndS_len ..
theorem akS_bytes (K b : List Int) (n i : Nat) (h : Bytes b) : Bytes (akS K b n i) := by
 induction i with
 | zero => exact h
 | succ i ih => exact ih.set _ (bits_byte _ _ _)
theorem sbS_bytes (S b : List Int) (h : Bytes S) (i : Nat) : Bytes (sbS S b i) := by
 induction i with
 | zero => exact Bytes.replicate 16
 | succ i ih => exact ih.set _ (h.at _)
theorem mcS_bytes (t b : List Int) (h : Bytes b) (j : Nat) : Bytes (mcS t b j) := by
 induction j with
 | zero => exact h
 | succ j ih => exact (((ih.set _ (bits_byte _ _ _)).set _ (bits_byte _ _ _)).set _ (bits_byte _ _ _)).set _ (bits_byte _ _ _)
theorem rndS_bytes (S K b : List Int) (h : Bytes S) (n : Nat) : Bytes (rndS S K b n) := by
 unfold rndS
 refine akS_bytes _ _ _ _ ?_
 split
 ·exact mcS_bytes _ _ (sbS_bytes S b h 16) 4
 ·exact sbS_bytes S b h 16
theorem blkS_bytes (S K b : List Int) (h : Bytes b) (hS : Bytes S) (n : Nat) : Bytes (blkS S K b n) := by
 cases n with
 | zero => exact akS_bytes _ _ _ _ h
 | succ n => exact rndS_bytes _ _ _ hS _
/-- A block. -/
def blkF (S K b : List Int) : List Int := blkS S K b 10
theorem blkF_len (S K b : List Int) (h : b.length = 16) : (blkF S K b).length = 16 := blkS_len S K b h 10
theorem blkF_bytes (S K b : List Int) (h : Bytes b) (hS : Bytes S) : Bytes (blkF S K b) := blkS_bytes S K b h hS 10
theorem blkF_is (S K b : List Int) (i : Nat) (h : i = 10) : blkF S K b = blkS S K b i := by rw [h]; rfl
attribute [irreducible] blkF
def p17a : List Nat := [1, 9, 19, 25, 33, 41, 49, 57, 67, 73, 81, 92]
def p17b : List Nat := [1, 9, 17, 25, 33, 41, 49, 57, 65, 75, 81, 89, 99, 105, 116]
def p17c : List Nat := [1, 9, 19, 25, 33, 41, 51, 57, 65, 73, 83, 89, 97, 105, 115, 121, 129, 137, 145]
def p17d : List Nat := [1, 9, 17, 25, 33, 41, 49, 57, 65, 73, 81, 89, 97, 107, 113, 121, 129, 137, 145, 153, 161, 171, 177, 185, 193, 201, 209, 217, 225, 235, 241, 249, 257, 265, 273, 281, 289, 299, 305, 313, 324, 329, 340, 345, 356, 361, 372]
def p17e : List Nat := [1, 9, 19, 25, 33, 41, 49, 57, 65, 75, 81, 89, 100]
set_option maxHeartbeats 1000000 in
theorem block_any (S K l : List Int) (bk bb : Nat) (w : World) (hl : l.length = 16) (hb : Bytes l) (hSb : Bytes S)
  (hK : ∀ i, i < 176 → w.cell? ⟨bk, i, none⟩ = some (.int .u8 (K.getD i 0))) (hS : ∀ i, i < 256 → w.cell? ⟨bb, i, none⟩ = some (.int .u8 (S.getD i 0))) :
  Gives tb 88 [.pointer (some ⟨bk, 0, none⟩), .pointer (some ⟨bb, 0, none⟩), .agg (row l).toArray] w (.agg (row (blkF S K l)).toArray) := by
 have hbk : bk ∉ ([] : List Nat) := by simp
 have hbb : bb ∉ ([] : List Nat) := by simp
 refine gives_of (fn := Try.f88) Try.func88 rfl Try.ntmps88 rfl ?_
 refine c_seq (c_region (step_box_agg rfl rfl (fun bB => step_alloc rfl zero28 (fun bR => ?_))))
 repeat first
  | refine qm rfl rfl ?_
  | refine step_nil ?_
  | refine c_seq ?_
  | refine c_region ?_
  | refine c_block ?_
 refine c_loop (α := Nat) (fun i => [(0, .pointer (some ⟨bk, 0, none⟩)), (1, .pointer (some ⟨bb, 0, none⟩)), (5, .pointer (some ⟨bB, 0, none⟩)), (6, .pointer (some ⟨bR, 0, none⟩)), (18, .int .i64 i)])
  (fun i => [⟨bR, row (zeros 16), 28⟩, ⟨bB, row (akS K l 0 i), 28⟩]) (fun i => i ≤ 16) (fun i => 16 - i) 0 (by decide) (less_regs ⟨rfl, rfl, rfl, rfl, rfl, trivial⟩) ?_
 intro i hi
 have hli := (akS_len K l 0 i).trans hl
 repeat first
  | refine step_pure rfl (pure_lss rfl rfl) ?_
  | refine step_nil ?_
  | refine c_seq ?_
  | refine c_region ?_
 refine c_cond rfl (fun h => ?_) (fun h => ?_)
 ·have hlt : i < 16 := by have := of_decide_eq_true h; omega
  clear h
  refine c_skip ?_
  repeat first
   | refine qm rfl rfl ?_
   | refine qa rfl rfl ?_
   | refine step_nil ?_
   | refine c_seq ?_
   | refine c_region ?_
   | refine c_block ?_
  refine d_region p17a follows (by kernel_rfl) ?_
  repeat first
   | refine qd rfl rfl rfl rfl ?_
   | refine d_pure0 rfl rfl rfl (pure_nilCheck rfl) ?_
   | refine d_pure0 rfl rfl rfl (pure_xor rfl rfl) ?_
   | refine d_pure0 rfl rfl rfl (pure_ix rfl rfl rfl rfl rfl (by decide) (by decide) rfl) ?_
   | refine d_pure0 rfl rfl rfl (pure_ix (off' := i) rfl rfl rfl rfl rfl (by omega) (by omega) (by show 0 + (i : Int).toNat * 1 = _; omega)) ?_
   | refine d_pure1 rfl rfl rfl (pure_load (i := 1) rfl rfl rfl rfl rfl (row_get _ _ (by omega))) (SubMem.refl _) ?_
   | refine d_pure1 rfl rfl rfl (pure_view rfl rfl rfl (hK _ (by omega)) hbk) (SubMem.refl _) ?_
  refine d_store 1 rfl rfl rfl rfl rfl rfl rfl rfl rfl rfl (by rw [row_len]; omega) (row_set _ _ _) rfl rfl ?_
  refine d_nil ?_
  repeat first
   | refine qm rfl rfl ?_
   | refine step_pure rfl (pure_add64 rfl rfl (by omega) (by omega)) ?_
   | refine step_nil ?_
   | refine c_region ?_
  refine ⟨i + 1, hlt, by omega, less_of ⟨rfl, rfl, rfl, rfl, rfl, trivial⟩ ?_⟩
  have hx : akS K l 0 (i + 1) = (akS K l 0 i).set i (xr ((akS K l 0 i).getD i 0) (K.getD i 0)) := by rw [show akS K l 0 (i + 1) = (akS K l 0 i).set i (xr ((akS K l 0 i).getD i 0) (K.getD (16 * 0 + i) 0)) from rfl, Nat.mul_zero, Nat.zero_add]
  rw [hx]; rfl
 ·have hi16 : i = 16 := by have := of_decide_eq_false h; omega
  have hT : akS K l 0 i = blkS S K l 0 := by rw [hi16]; rfl
  rw [hT]
  clear h hT hi16 hli hi
  refine c_exit ?_
  repeat first
   | refine qa rfl rfl ?_
   | refine step_nil ?_
   | refine c_seq ?_
   | refine c_region ?_
   | refine c_block ?_
  refine c_loop (α := Nat) (fun n => [(0, .pointer (some ⟨bk, 0, none⟩)), (1, .pointer (some ⟨bb, 0, none⟩)), (5, .pointer (some ⟨bB, 0, none⟩)), (6, .pointer (some ⟨bR, 0, none⟩)), (8, .int .i64 (n + 1))])
   (fun n => [⟨bR, row (zeros 16), 28⟩, ⟨bB, row (blkS S K l n), 28⟩]) (fun n => n ≤ 10) (fun n => 10 - n) 0 (by decide) (less_regs ⟨rfl, rfl, rfl, rfl, rfl, trivial⟩) ?_
  intro n hn
  have hBl := blkS_len S K l hl n
  have hBb := blkS_bytes S K l hb hSb n
  repeat first
   | refine qm rfl rfl ?_
   | refine step_pure rfl (pure_lss rfl rfl) ?_
   | refine step_nil ?_
   | refine c_seq ?_
   | refine c_region ?_
  refine c_cond rfl (fun h => ?_) (fun h => ?_)
  ·have hlt : n < 10 := by have := of_decide_eq_true h; omega
   clear h
   refine c_skip ?_
   have hnext : blkS S K l (n + 1) = rndS S K (blkS S K l n) (n + 1) := rfl
   generalize blkS S K l n = b at hBl hBb hnext ⊢
   repeat first
    | refine qm rfl rfl ?_
    | refine step_alloc rfl zero28 (fun bT => ?_)
    | refine step_nil ?_
    | refine c_seq ?_
    | refine c_region ?_
    | refine c_block ?_
   refine c_loop (α := Nat) (fun i => [(0, .pointer (some ⟨bk, 0, none⟩)), (1, .pointer (some ⟨bb, 0, none⟩)), (5, .pointer (some ⟨bB, 0, none⟩)), (6, .pointer (some ⟨bR, 0, none⟩)), (8, .int .i64 (n + 1)), (9, .pointer (some ⟨bT, 0, none⟩)), (37, .int .i64 i)])
    (fun i => [⟨bT, row (sbS S b i), 28⟩, ⟨bR, row (zeros 16), 28⟩, ⟨bB, row b, 28⟩]) (fun i => i ≤ 16) (fun i => 16 - i) 0 (by decide) (less_regs ⟨rfl, rfl, rfl, rfl, rfl, rfl, rfl, trivial⟩) ?_
   intro i hi
   have hli := sbS_len S b i
   repeat first
    | refine step_pure rfl (pure_lss rfl rfl) ?_
    | refine step_nil ?_
    | refine c_seq ?_
    | refine c_region ?_
   refine c_cond rfl (fun h => ?_) (fun h => ?_)
   ·have hlt16 : i < 16 := by have := of_decide_eq_true h; omega
    clear h
    refine c_skip ?_
    repeat first
     | refine qm rfl rfl ?_
     | refine qa rfl rfl ?_
     | refine step_nil ?_
     | refine c_seq ?_
     | refine c_region ?_
     | refine c_block ?_
    have hix := hBb.ix ((i + 4 * (i % 4)) % 16)
    refine d_region p17b follows (by kernel_rfl) ?_
    repeat first
     | refine qd rfl rfl rfl rfl ?_
     | refine d_pure0 rfl rfl rfl (pure_nilCheck rfl) ?_
     | refine d_pure0 rfl rfl rfl (pure_rem_pos rfl rfl (by omega) (by decide)) ?_
     | refine d_pure0 rfl rfl rfl (pure_mul64 rfl rfl (by omega) (by omega)) ?_
     | refine d_pure0 rfl rfl rfl (pure_add64 rfl rfl (by omega) (by omega)) ?_
     | refine d_pure0 rfl rfl rfl (pure_ix (off' := i) rfl rfl rfl rfl rfl (by omega) (by omega) (by show 0 + (i : Int).toNat * 1 = _; omega)) ?_
     | refine d_pure0 rfl rfl rfl (pure_ix (off' := (i + 4 * (i % 4)) % 16) rfl rfl rfl rfl rfl (by omega) (by omega) (by show 0 + (((i : Int) + 4 * ((i : Int) % 4)) % 16).toNat * 1 = _; omega)) ?_
     | refine d_pure0 rfl rfl rfl (pure_ix (off' := (b.getD ((i + 4 * (i % 4)) % 16) 0).toNat) rfl rfl rfl rfl rfl (hBb.at _).1 (hBb.at _).2 (by show 0 + _ * 1 = _; omega)) ?_
     | refine d_pure1 rfl rfl rfl (pure_load (i := 2) rfl rfl rfl rfl rfl (row_get _ _ (by omega))) (SubMem.refl _) ?_
     | refine d_pure1 rfl rfl rfl (pure_view rfl rfl rfl (hS _ (by omega)) hbb) (SubMem.refl _) ?_
    refine d_store 0 rfl rfl rfl rfl rfl rfl rfl rfl rfl rfl (by rw [row_len]; omega) (row_set _ _ _) rfl rfl ?_
    refine d_nil ?_
    repeat first
     | refine qm rfl rfl ?_
     | refine step_pure rfl (pure_add64 rfl rfl (by omega) (by omega)) ?_
     | refine step_nil ?_
     | refine c_region ?_
    exact ⟨i + 1, hlt16, by omega, less_of ⟨rfl, rfl, rfl, rfl, rfl, rfl, rfl, trivial⟩ rfl⟩
   ·have hi16 : i = 16 := by have := of_decide_eq_false h; omega
    have hT : sbS S b i = sbS S b 16 := by rw [hi16]
    rw [hT]
    have htl := sbS_len S b 16
    have htb := sbS_bytes S b hSb 16
    have hnx : rndS S K b (n + 1) = akS K (if n + 1 < 10 then mcS (sbS S b 16) (sbS S b 16) 4 else sbS S b 16) (n + 1) 16 := rfl
    generalize sbS S b 16 = t at htl htb hnx ⊢
    clear h hT hi16 hli hi
    refine c_exit ?_
    repeat first
     | refine qm rfl rfl ?_
     | refine step_pure rfl (pure_lss rfl rfl) ?_
     | refine step_pure rfl (pure_load_agg (i := 0) rfl rfl rfl rfl rfl (by simp only [row_len, htl]; decide) (ints_whole _ _ 16 htl)) ?_
     | refine step_store_agg 2 rfl rfl rfl (row_one _) rfl (by rw [row_len]; exact htl) rfl rfl (by simp only [row_len, hBl]; decide) (splice_all (by simp only [row_len, hBl, htl])) ?_
     | refine step_nil ?_
     | refine c_seq ?_
     | refine c_region ?_
    have hB2 : ∃ u, u = (if n + 1 < 10 then mcS t t 4 else t) ∧ u.length = 16 ∧ Bytes u := ⟨_, rfl, by split; exact (mcS_len ..).trans htl; exact htl, by split; exact mcS_bytes _ _ htb _; exact htb⟩
    obtain ⟨u, hu, hul, hub⟩ := hB2
    refine c_meet [(0, .pointer (some ⟨bk, 0, none⟩)), (1, .pointer (some ⟨bb, 0, none⟩)), (5, .pointer (some ⟨bB, 0, none⟩)), (6, .pointer (some ⟨bR, 0, none⟩)), (8, .int .i64 (n + 1))]
     [⟨bT, row t, 28⟩, ⟨bR, row (zeros 16), 28⟩, ⟨bB, row u, 28⟩] ?_ ?_
    ·refine c_cond rfl (fun h => ?_) (fun h => ?_)
     ·have hn1 : n + 1 < 10 := by have := of_decide_eq_true h; omega
      rw [if_pos hn1] at hu
      clear h
      repeat first
       | refine qa rfl rfl ?_
       | refine step_nil ?_
       | refine c_seq ?_
       | refine c_region ?_
       | refine c_block ?_
      refine c_loop (α := Nat) (fun j => [(0, .pointer (some ⟨bk, 0, none⟩)), (1, .pointer (some ⟨bb, 0, none⟩)), (5, .pointer (some ⟨bB, 0, none⟩)), (6, .pointer (some ⟨bR, 0, none⟩)), (8, .int .i64 (n + 1)), (9, .pointer (some ⟨bT, 0, none⟩)), (11, .int .i64 (4 * j))])
       (fun j => [⟨bT, row t, 28⟩, ⟨bR, row (zeros 16), 28⟩, ⟨bB, row (mcS t t j), 28⟩]) (fun j => j ≤ 4) (fun j => 4 - j) 0 (by decide) (less_of ⟨rfl, rfl, rfl, rfl, rfl, rfl, rfl, trivial⟩ rfl) ?_
      intro j hj
      have hml := (mcS_len t t j).trans htl
      repeat first
       | refine qm rfl rfl ?_
       | refine step_pure rfl (pure_lss rfl rfl) ?_
       | refine step_nil ?_
       | refine c_seq ?_
       | refine c_region ?_
      refine c_cond rfl (fun h => ?_) (fun h => ?_)
      ·have hj4 : j < 4 := by have := of_decide_eq_true h; omega
       clear h
       refine c_skip ?_
       repeat first
        | refine c_seq ?_
        | refine c_block ?_
       refine d_region p17c follows (by kernel_rfl) ?_
       repeat first
        | refine qd rfl rfl rfl rfl ?_
        | refine d_pure0 rfl rfl rfl (pure_assign rfl) ?_
        | refine d_pure0 rfl rfl rfl (pure_add64 rfl rfl (by omega) (by omega)) ?_
        | refine d_pure0 rfl rfl rfl (pure_ix (off' := 4 * j) rfl rfl rfl rfl rfl (by omega) (by omega) (by show 0 + (4 * (j : Int)).toNat * 1 = _; omega)) ?_
        | refine d_pure0 rfl rfl rfl (pure_ix (off' := 4 * j + 1) rfl rfl rfl rfl rfl (by omega) (by omega) (by show 0 + (4 * (j : Int) + 1).toNat * 1 = _; omega)) ?_
        | refine d_pure0 rfl rfl rfl (pure_ix (off' := 4 * j + 2) rfl rfl rfl rfl rfl (by omega) (by omega) (by show 0 + (4 * (j : Int) + 2).toNat * 1 = _; omega)) ?_
        | refine d_pure0 rfl rfl rfl (pure_ix (off' := 4 * j + 3) rfl rfl rfl rfl rfl (by omega) (by omega) (by show 0 + (4 * (j : Int) + 3).toNat * 1 = _; omega)) ?_
        | refine d_pure1 rfl rfl rfl (pure_load (i := 0) rfl rfl rfl rfl rfl (row_get _ _ (by omega))) (SubMem.refl _) ?_
       refine d_nil ?_
       repeat first
        | refine qm rfl rfl ?_
        | refine step_pure rfl (pure_xor rfl rfl) ?_
        | refine step_as rfl (pure_assign rfl) (show _ = Value.int .u8 (mixA t (4 * j)) from rfl) ?_
        | refine step_nil ?_
        | refine c_seq ?_
        | refine c_region ?_
       refine d_region p17d follows (by kernel_rfl) ?_
       repeat first
        | refine qd rfl rfl rfl rfl ?_
        | refine d_pure0 rfl rfl rfl (pure_xor rfl rfl) ?_
        | refine d_pure0 rfl rfl rfl (pure_add64 rfl rfl (by omega) (by omega)) ?_
        | refine d_pure0 rfl rfl rfl (pure_ix (off' := 4 * j) rfl rfl rfl rfl rfl (by omega) (by omega) (by show 0 + (4 * (j : Int)).toNat * 1 = _; omega)) ?_
        | refine d_pure0 rfl rfl rfl (pure_ix (off' := 4 * j + 1) rfl rfl rfl rfl rfl (by omega) (by omega) (by show 0 + (4 * (j : Int) + 1).toNat * 1 = _; omega)) ?_
        | refine d_pure0 rfl rfl rfl (pure_ix (off' := 4 * j + 2) rfl rfl rfl rfl rfl (by omega) (by omega) (by show 0 + (4 * (j : Int) + 2).toNat * 1 = _; omega)) ?_
        | refine d_pure0 rfl rfl rfl (pure_ix (off' := 4 * j + 3) rfl rfl rfl rfl rfl (by omega) (by omega) (by show 0 + (4 * (j : Int) + 3).toNat * 1 = _; omega)) ?_
        | refine d_gives rfl rfl rfl fun93 rfl (fun w _ _ => double_any _ w) (SubMem.refl _) ?_
        | refine d_store 2 rfl rfl rfl rfl rfl rfl rfl rfl rfl rfl (by simp only [row_len, List.length_set, hml]; omega) (row_set _ _ _) rfl rfl ?_
        | refine d_nil ?_
       repeat first
        | refine qm rfl rfl ?_
        | refine step_pure rfl (pure_add64 rfl rfl (by omega) (by omega)) ?_
        | refine qa rfl rfl ?_
        | refine step_nil ?_
        | refine c_region ?_
       refine ⟨j + 1, hj4, by omega, less_of ⟨rfl, rfl, rfl, rfl, rfl, rfl, rfl, trivial⟩ rfl⟩
      ·have hj4 : j = 4 := by have := of_decide_eq_false h; omega
       rw [hj4] at hml ⊢
       rw [← hu]
       exact c_exit (less_of ⟨rfl, rfl, rfl, rfl, rfl, trivial⟩ rfl)
     ·have hn1 : ¬ n + 1 < 10 := by have := of_decide_eq_false h; omega
      rw [if_neg hn1] at hu
      subst hu
      refine c_skip (less_of ⟨rfl, rfl, rfl, rfl, rfl, trivial⟩ rfl)
    ·repeat first
      | refine qm rfl rfl ?_
      | refine step_nil ?_
      | refine c_seq ?_
      | refine c_region ?_
      | refine c_block ?_
     refine c_loop (α := Nat) (fun i => [(0, .pointer (some ⟨bk, 0, none⟩)), (1, .pointer (some ⟨bb, 0, none⟩)), (5, .pointer (some ⟨bB, 0, none⟩)), (6, .pointer (some ⟨bR, 0, none⟩)), (8, .int .i64 (n + 1)), (127, .int .i64 i)])
      (fun i => [⟨bT, row t, 28⟩, ⟨bR, row (zeros 16), 28⟩, ⟨bB, row (akS K u (n + 1) i), 28⟩]) (fun i => i ≤ 16) (fun i => 16 - i) 0 (by decide) (less_regs ⟨rfl, rfl, rfl, rfl, rfl, rfl, trivial⟩) ?_
     intro i hi
     have hli := (akS_len K u (n + 1) i).trans hul
     repeat first
      | refine step_pure rfl (pure_lss rfl rfl) ?_
      | refine step_nil ?_
      | refine c_seq ?_
      | refine c_region ?_
     refine c_cond rfl (fun h => ?_) (fun h => ?_)
     ·have hlt16 : i < 16 := by have := of_decide_eq_true h; omega
      clear h
      refine c_skip ?_
      repeat first
       | refine qm rfl rfl ?_
       | refine qa rfl rfl ?_
       | refine step_nil ?_
       | refine c_seq ?_
       | refine c_region ?_
       | refine c_block ?_
      refine d_region p17e follows (by kernel_rfl) ?_
      repeat first
       | refine qd rfl rfl rfl rfl ?_
       | refine d_pure0 rfl rfl rfl (pure_nilCheck rfl) ?_
       | refine d_pure0 rfl rfl rfl (pure_xor rfl rfl) ?_
       | refine d_pure0 rfl rfl rfl (pure_ix (off' := 16 * (n + 1)) rfl rfl rfl rfl rfl (by omega) (by omega) (by show 0 + ((n : Int) + 1).toNat * 16 = _; omega)) ?_
       | refine d_pure0 rfl rfl rfl (pure_ix (off' := i) rfl rfl rfl rfl rfl (by omega) (by omega) (by show 0 + (i : Int).toNat * 1 = _; omega)) ?_
       | refine d_pure0 rfl rfl rfl (pure_ix (off' := 16 * (n + 1) + i) rfl rfl rfl rfl rfl (by omega) (by omega) (by show 16 * (n + 1) + (i : Int).toNat * 1 = _; omega)) ?_
       | refine d_pure1 rfl rfl rfl (pure_load (i := 2) rfl rfl rfl rfl rfl (row_get _ _ (by omega))) (SubMem.refl _) ?_
       | refine d_pure1 rfl rfl rfl (pure_view rfl rfl rfl (hK _ (by omega)) hbk) (SubMem.refl _) ?_
      refine d_store 2 rfl rfl rfl rfl rfl rfl rfl rfl rfl rfl (by rw [row_len]; omega) (row_set _ _ _) rfl rfl ?_
      refine d_nil ?_
      repeat first
       | refine qm rfl rfl ?_
       | refine step_pure rfl (pure_add64 rfl rfl (by omega) (by omega)) ?_
       | refine step_nil ?_
       | refine c_region ?_
      exact ⟨i + 1, hlt16, by omega, less_of ⟨rfl, rfl, rfl, rfl, rfl, rfl, trivial⟩ rfl⟩
     ·have hi16 : i = 16 := by have := of_decide_eq_false h; omega
      have hT : akS K u (n + 1) i = blkS S K l (n + 1) := by rw [hi16, hnext, hnx, hu]
      rw [hT]
      clear h hT hi16 hli hi
      refine c_exit ?_
      repeat first
       | refine qm rfl rfl ?_
       | refine qa rfl rfl ?_
       | refine step_pure rfl (pure_add64 rfl rfl (by omega) (by omega)) ?_
       | refine step_nil ?_
       | refine c_region ?_
      exact ⟨n + 1, hlt, by omega, look_all ⟨rfl, rfl, rfl, rfl, rfl, trivial⟩, fun _ h => ⟨h.2.2.1, h.2.2.2.1, h.2.2.2.2⟩, fun _ h => h.2⟩
  ·have hi10 : n = 10 := by have := of_decide_eq_false h; omega
   have hT : row (blkF S K l) = row (blkS S K l n) := by rw [blkF_is S K l n hi10]
   rw [hT]
   have hl' : (row (blkS S K l n)).length = 16 := by rw [row_len, hBl]
   have hone : ∀ v ∈ row (blkS S K l n), v.oneCell' = true := row_one _
   generalize row (blkS S K l n) = T at hl' hone ⊢
   clear h hT hi10 hBl hBb
   refine c_exit ?_
   repeat first
    | refine step_pure rfl (pure_load_agg (i := 1) rfl rfl rfl rfl rfl (by rw [hl']; decide) (show _ = T from by rw [List.drop_zero, List.take_of_length_le (by rw [hl']; decide)])) ?_
    | refine c_seq ?_
    | refine c_region ?_
   refine step_store_agg 0 rfl rfl rfl hone rfl hl' rfl rfl (by simp only [row_len, zeros_len]; decide) (splice_all (by rw [hl', row_len, zeros_len])) ?_
   refine step_nil (c_ret ⟨_, res_cell_agg (i := 0) Try.results88 rfl rfl rfl rfl rfl (by show 0 + 16 ≤ T.length; rw [hl']; decide) rfl, ?_⟩)
   show Value.agg ((T.drop 0).take 16).toArray = _
   rw [List.drop_zero, List.take_of_length_le (by rw [hl']; decide)]
end Go.Proofs.Ythieegnhjoehbaa
