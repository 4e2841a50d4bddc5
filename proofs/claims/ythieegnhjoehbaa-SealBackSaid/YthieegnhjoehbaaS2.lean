/- A block mixed into a hash: walked. -/
import Derived.Test.YthieegnhjoehbaaS1
namespace Go.Proofs.Ythieegnhjoehbaa
open Go.RowKit Go.Vc
set_option linter.unusedVariables false
theorem turned_z (x : W) {z : Int} (w : World) (h1 : 1 ≤ z) (h2 : z ≤ 31) : Gives tb 91 [.int .u32 (wd x), .int .i64 z] w (.int .u32 (wd (rotr x z.toNat))) := by
 obtain ⟨k, rfl⟩ : ∃ k : Nat, z = k := ⟨z.toNat, by omega⟩
 rw [Int.toNat_natCast]
 exact turned_any x k w (by omega) (by omega)
theorem wRow_set (l : List W) (i : Nat) (x : W) : (wRow l).set i (.int .u32 (wd x)) = wRow (l.set i x) := (List.map_set ..).symm
theorem wRow_one (l : List W) : ∀ v ∈ wRow l, v.oneCell' = true := by
 intro v hv
 obtain ⟨x, _, rfl⟩ := List.mem_map.1 hv
 rfl
/-- The numbers of a block's rounds, the first i of them there. -/
def wAt (b : List Int) (i : Nat) : List W := sched b i ++ List.replicate (64 - i) 0
theorem wAt_len (b : List Int) {i : Nat} (h : i ≤ 64) : (wAt b i).length = 64 := by
 unfold wAt
 rw [List.length_append, sched_len, List.length_replicate]
 omega
theorem wAt_get (b : List Int) {i k : Nat} (h : k < i) (hi : i ≤ 64) : (wRow (wAt b i))[k]? = some (.int .u32 (wd ((sched b i).getD k 0))) := by
 rw [wRow_get _ _ (by rw [wAt_len b hi]; omega)]
 unfold wAt
 rw [List.getD_eq_getElem?_getD, List.getElem?_append_left (by rw [sched_len]; exact h), List.getD_eq_getElem?_getD]
theorem wAt_set (b : List Int) {i : Nat} {x : W} (hi : i < 64) (hx : x = if i < 16 then word b i else nextW (sched b i) i) : (wRow (wAt b i)).set i (.int .u32 (wd x)) = wRow (wAt b (i + 1)) := by
 rw [wRow_set]
 congr 1
 unfold wAt
 rw [List.set_append_right _ _ (by rw [sched_len]; exact Nat.le_refl _), sched_len, Nat.sub_self, show 64 - i = (64 - (i + 1)) + 1 by omega, List.replicate_succ]
 show sched b i ++ (x :: List.replicate (64 - (i + 1)) 0) = (sched b i ++ [_]) ++ _
 rw [List.append_assoc, hx]
 rfl
theorem wAt_end (b : List Int) : wAt b 64 = sched b 64 := by
 unfold wAt
 rw [Nat.sub_self]
 exact List.append_nil _
/-! four bytes are a word -/
theorem wOf_nat (n : Nat) : wOf (n : Int) = BitVec.ofNat 32 n := by
 unfold wOf
 exact BitVec.ofInt_natCast ..
theorem or4 (a b c d : Nat) (ha : a < 256) (hb : b < 256) (hc : c < 256) (hd : d < 256) : ((a <<< 24 ||| b <<< 16) ||| c <<< 8) ||| d = ((a * 16777216 + b * 65536) + c * 256) + d := by
 have e1 : c <<< 8 + d = c <<< 8 ||| d := Nat.shiftLeft_add_eq_or_of_lt (by omega) _
 have e2 : b <<< 16 + (c <<< 8 + d) = b <<< 16 ||| (c <<< 8 + d) := Nat.shiftLeft_add_eq_or_of_lt (by rw [Nat.shiftLeft_eq]; omega) _
 have e3 : a <<< 24 + (b <<< 16 + (c <<< 8 + d)) = a <<< 24 ||| (b <<< 16 + (c <<< 8 + d)) := Nat.shiftLeft_add_eq_or_of_lt (by rw [Nat.shiftLeft_eq, Nat.shiftLeft_eq]; omega) _
 rw [Nat.or_assoc, Nat.or_assoc, ← e1, ← e2, ← e3]
 simp only [Nat.shiftLeft_eq]
 omega
theorem word_or (a b c d : Int) (ha : 0 ≤ a ∧ a < 256) (hb : 0 ≤ b ∧ b < 256) (hc : 0 ≤ c ∧ c < 256) (hd : 0 ≤ d ∧ d < 256) :
  ((wOf a <<< 24 ||| wOf b <<< 16) ||| wOf c <<< 8) ||| wOf d = wOf (((a * 16777216 + b * 65536) + c * 256) + d) := by
 obtain ⟨a, rfl⟩ : ∃ k : Nat, a = k := ⟨a.toNat, by omega⟩
 obtain ⟨b, rfl⟩ : ∃ k : Nat, b = k := ⟨b.toNat, by omega⟩
 obtain ⟨c, rfl⟩ : ∃ k : Nat, c = k := ⟨c.toNat, by omega⟩
 obtain ⟨d, rfl⟩ : ∃ k : Nat, d = k := ⟨d.toNat, by omega⟩
 have e : ((((a : Int) * 16777216 + b * 65536) + c * 256) + d) = (((((a * 16777216 + b * 65536) + c * 256) + d : Nat)) : Int) := by omega
 rw [e, wOf_nat, wOf_nat, wOf_nat, wOf_nat, wOf_nat]
 refine BitVec.eq_of_toNat_eq ?_
 have m : ∀ n : Nat, n < 4294967296 → n % 2 ^ 32 = n := fun n h => Nat.mod_eq_of_lt (by omega)
 simp only [BitVec.toNat_or, BitVec.toNat_shiftLeft, BitVec.toNat_ofNat]
 rw [m a (by omega), m b (by omega), m c (by omega), m d (by omega), m (a <<< 24) (by rw [Nat.shiftLeft_eq]; omega), m (b <<< 16) (by rw [Nat.shiftLeft_eq]; omega), m (c <<< 8) (by rw [Nat.shiftLeft_eq]; omega), m _ (by omega), or4 a b c d (by omega) (by omega) (by omega) (by omega)]
theorem word_add (a b c d : Int) (ha : 0 ≤ a ∧ a < 256) (hb : 0 ≤ b ∧ b < 256) (hc : 0 ≤ c ∧ c < 256) (hd : 0 ≤ d ∧ d < 256) :
  ((wOf a <<< 24 + wOf b <<< 16) + wOf c <<< 8) + wOf d = wOf (((a * 16777216 + b * 65536) + c * 256) + d) := by
 obtain ⟨a, rfl⟩ : ∃ k : Nat, a = k := ⟨a.toNat, by omega⟩
 obtain ⟨b, rfl⟩ : ∃ k : Nat, b = k := ⟨b.toNat, by omega⟩
 obtain ⟨c, rfl⟩ : ∃ k : Nat, c = k := ⟨c.toNat, by omega⟩
 obtain ⟨d, rfl⟩ : ∃ k : Nat, d = k := ⟨d.toNat, by omega⟩
 have e : ((((a : Int) * 16777216 + b * 65536) + c * 256) + d) = (((((a * 16777216 + b * 65536) + c * 256) + d : Nat)) : Int) := by omega
 rw [e, wOf_nat, wOf_nat, wOf_nat, wOf_nat, wOf_nat]
 refine BitVec.eq_of_toNat_eq ?_
 simp only [BitVec.toNat_add, BitVec.toNat_shiftLeft, BitVec.toNat_ofNat, Nat.shiftLeft_eq]
 omega
theorem conv_byte {a : Int} (h : 0 ≤ a ∧ a < 256) : Value.int .u32 (IntKind.u32.wrap a) = .int .u32 (wd (wOf a)) := by
 rw [wd_wOf (by omega) (by omega), IntKind.wrap_u32']
 congr 1
 omega
/-- The numbers of a hash, the first j of them added to. -/
def addAt (v u : V8) (j : Nat) : List W := (addV v u).l.take j ++ v.l.drop j
theorem addAt_len (v u : V8) {j : Nat} (h : j ≤ 8) : (addAt v u j).length = 8 := by
 unfold addAt
 rw [List.length_append, List.length_take, List.length_drop]
 show min j 8 + (8 - j) = 8
 omega
theorem addAt_step (v u : V8) {j : Nat} (h : j < 8) : (addAt v u j).getD j 0 = v.l.getD j 0 ∧ (addAt v u j).set j (v.l.getD j 0 + u.l.getD j 0) = addAt v u (j + 1) := by
 have : j = 0 ∨ j = 1 ∨ j = 2 ∨ j = 3 ∨ j = 4 ∨ j = 5 ∨ j = 6 ∨ j = 7 := by omega
 rcases this with rfl | rfl | rfl | rfl | rfl | rfl | rfl | rfl <;> exact ⟨rfl, rfl⟩
theorem vl_len (v : V8) : v.l.length = 8 := rfl
set_option maxHeartbeats 2000000 in
set_option maxRecDepth 100000 in
theorem mixed_any (V : V8) (B : List Int) (v : Value) (w : World) (hB : B.length = 64) (hb : Bytes B) (hv : SlC (fun p x => w.cell? p = some x) 1 v B.length (row B)) :
  Gives tb 84 [.agg (wRow V.l).toArray, v] w (.agg (wRow (mixV V B).l).toArray) := by
 obtain ⟨base, cap, rfl, hcap, -, hp⟩ := hv
 obtain ⟨p, rfl, hc⟩ := hp (by intro h; have := row_len B; rw [h] at this; simp at this; omega)
 have hc : ∀ j x, (row B)[j]? = some x → Cel ⟨w, [], []⟩ (p.add j) x := fun j x h => ⟨hc j x h, by simp⟩
 rw [hB] at hcap ⊢
 refine gives_of (fn := Try.f84) Try.func84 rfl Try.ntmps84 rfl ?_
 repeat refine c_seq ?_
 refine c_region ?_
 refine step_box_agg rfl rfl (fun b2 => ?_)
 refine step_alloc rfl zero113 (fun b4 => ?_)
 refine step_nil ?_
 repeat refine c_seq ?_
 refine c_region ?_
 refine step_alloc rfl zero129 (fun b5 => ?_)
 refine step_nil ?_
 repeat refine c_seq ?_
 refine c_region ?_
 refine qm rfl rfl ?_
 refine step_nil ?_
 repeat refine c_seq ?_
 refine c_block ?_
 repeat refine c_seq ?_
 refine c_loop (α := Nat) (fun i => [(1, .slice (some p) 64 cap), (2, .pointer (some ⟨b2, 0, none⟩)), (4, .pointer (some ⟨b4, 0, none⟩)), (5, .pointer (some ⟨b5, 0, none⟩)), (18, .int .i64 i)])
  (fun i => [⟨b5, wRow (wAt B i), 129⟩, ⟨b4, wRow (List.replicate 8 0), 113⟩, ⟨b2, wRow V.l, 113⟩]) (fun i => i ≤ 64) (fun i => 64 - i) 0 (by decide) (less_of ⟨rfl, rfl, rfl, rfl, rfl, trivial⟩ rfl) ?_
 intro i hi
 repeat refine c_seq ?_
 refine c_region ?_
 refine step_pure rfl (pure_lss rfl rfl) ?_
 refine step_nil ?_
 repeat refine c_seq ?_
 refine c_cond rfl (fun h => ?_) (fun h => ?_)
 ·have hlt : i < 64 := by have := of_decide_eq_true h; omega
  clear h
  refine c_skip ?_
  repeat refine c_seq ?_
  refine c_meet [(1, .slice (some p) 64 cap), (2, .pointer (some ⟨b2, 0, none⟩)), (4, .pointer (some ⟨b4, 0, none⟩)), (5, .pointer (some ⟨b5, 0, none⟩)), (18, .int .i64 i)]
   [⟨b5, wRow (wAt B (i + 1)), 129⟩, ⟨b4, wRow (List.replicate 8 0), 113⟩, ⟨b2, wRow V.l, 113⟩] ?_ ?_
  ·repeat refine c_seq ?_
   refine c_block ?_
   have hset := fun {x : W} => wAt_set (x := x) B hlt
   have hgt := fun {k : Nat} (h : k < i) => wAt_get B h hi
   have hln := wRow_len (wAt B i)
   rw [wAt_len B hi] at hln
   repeat refine c_seq ?_
   refine c_region ?_
   refine qm rfl rfl ?_
   refine qa rfl rfl ?_
   refine step_nil ?_
   repeat refine c_seq ?_
   refine c_region ?_
   refine qm rfl rfl ?_
   refine step_pure rfl (pure_lss rfl rfl) ?_
   refine step_nil ?_
   repeat refine c_seq ?_
   refine c_cond rfl (fun h => ?_) (fun h => ?_)
   ·have h16 : i < 16 := by have := of_decide_eq_true h; omega
    clear h hgt
    have e0 := hb.at (4 * i)
    have e1 := hb.at (4 * i + 1)
    have e2 := hb.at (4 * i + 2)
    have e3 := hb.at (4 * i + 3)
    have g0 := hc _ _ (row_get B (4 * i) (by omega))
    have g1 := hc _ _ (row_get B (4 * i + 1) (by omega))
    have g2 := hc _ _ (row_get B (4 * i + 2) (by omega))
    have g3 := hc _ _ (row_get B (4 * i + 3) (by omega))
    have hwd : (if i < 16 then word B i else nextW (sched B i) i) = wOf (((B.getD (4 * i) 0 * 16777216 + B.getD (4 * i + 1) 0 * 65536) + B.getD (4 * i + 2) 0 * 256) + B.getD (4 * i + 3) 0) := if_pos h16
    rw [hwd, ← word_or _ _ _ _ e0 e1 e2 e3] at hset
    clear hwd
    generalize B.getD (4 * i) 0 = c0 at *
    generalize B.getD (4 * i + 1) 0 = c1 at *
    generalize B.getD (4 * i + 2) 0 = c2 at *
    generalize B.getD (4 * i + 3) 0 = c3 at *
    generalize wRow (wAt B i) = Y at *
    have had : ∀ k : Nat, (p.add (4 * i)).add k = p.add (4 * i + k) := fun k => Deep.add_add ..
    repeat refine c_seq ?_
    refine c_region ?_
    refine qm rfl rfl ?_
    refine qm rfl rfl ?_
    refine step_pure rfl (pure_mul64 rfl rfl (by omega) (by omega)) ?_
    refine qm rfl rfl ?_
    refine step_pure rfl (pure_mul64 rfl rfl (by omega) (by omega)) ?_
    refine step_pure rfl (pure_add64 rfl rfl (by omega) (by omega)) ?_
    refine step_as rfl (pure_sub_both rfl rfl rfl rfl rfl rfl (by omega) (by omega) (by omega)) (show _ = Value.slice (some (p.add (4 * i))) 4 (cap - 4 * i) from by show subS (some p) cap 1 (4 * (i : Int)).toNat (4 * (i : Int) + 4).toNat = _; rw [show (4 * (i : Int)).toNat = 4 * i by omega, show (4 * (i : Int) + 4).toNat = 4 * i + 4 by omega]; unfold subS; rw [if_neg (by omega), show 4 * i + 4 - 4 * i = 4 by omega, Nat.mul_one]; rfl) ?_
    refine qa rfl rfl ?_
    refine step_nil ?_
    repeat refine c_seq ?_
    refine d_region [1, 9, 17, 27, 33, 41, 49, 57, 67, 73, 81, 89, 97, 105, 115, 121, 129, 137, 145, 153, 163, 169, 177, 185, 196] follows (by kernel_rfl) ?_
    refine qd rfl rfl rfl rfl ?_
    refine qd rfl rfl rfl rfl ?_
    refine d_as0 rfl rfl rfl (pure_indexAddr_at rfl rfl rfl rfl rfl (by decide) (by decide)) (show _ = Value.pointer (some (p.add (4 * i))) from by exact congrArg (fun q => Value.pointer (some q)) (had 0)) ?_
    refine d_pure1 rfl rfl rfl (pure_cel rfl rfl rfl g0) (by exact SubMem.refl _) ?_
    refine d_as0 rfl rfl rfl (pure_conv rfl rfl rfl rfl) (conv_byte e0) ?_
    refine d_pure0 rfl rfl rfl (pure_wshl (k := 24) (by decide) rfl rfl) ?_
    refine qd rfl rfl rfl rfl ?_
    refine d_as0 rfl rfl rfl (pure_indexAddr_at rfl rfl rfl rfl rfl (by decide) (by decide)) (show _ = Value.pointer (some (p.add (4 * i + 1))) from by exact congrArg (fun q => Value.pointer (some q)) (had 1)) ?_
    refine d_pure1 rfl rfl rfl (pure_cel rfl rfl rfl g1) (by exact SubMem.refl _) ?_
    refine d_as0 rfl rfl rfl (pure_conv rfl rfl rfl rfl) (conv_byte e1) ?_
    refine d_pure0 rfl rfl rfl (pure_wshl (k := 16) (by decide) rfl rfl) ?_
    refine d_pure0 rfl rfl rfl (pure_wor rfl rfl) ?_
    refine qd rfl rfl rfl rfl ?_
    refine d_as0 rfl rfl rfl (pure_indexAddr_at rfl rfl rfl rfl rfl (by decide) (by decide)) (show _ = Value.pointer (some (p.add (4 * i + 2))) from by exact congrArg (fun q => Value.pointer (some q)) (had 2)) ?_
    refine d_pure1 rfl rfl rfl (pure_cel rfl rfl rfl g2) (by exact SubMem.refl _) ?_
    refine d_as0 rfl rfl rfl (pure_conv rfl rfl rfl rfl) (conv_byte e2) ?_
    refine d_pure0 rfl rfl rfl (pure_wshl (k := 8) (by decide) rfl rfl) ?_
    refine d_pure0 rfl rfl rfl (pure_wor rfl rfl) ?_
    refine qd rfl rfl rfl rfl ?_
    refine d_as0 rfl rfl rfl (pure_indexAddr_at rfl rfl rfl rfl rfl (by decide) (by decide)) (show _ = Value.pointer (some (p.add (4 * i + 3))) from by exact congrArg (fun q => Value.pointer (some q)) (had 3)) ?_
    refine d_pure1 rfl rfl rfl (pure_cel rfl rfl rfl g3) (by exact SubMem.refl _) ?_
    refine d_as0 rfl rfl rfl (pure_conv rfl rfl rfl rfl) (conv_byte e3) ?_
    refine d_pure0 rfl rfl rfl (pure_wor rfl rfl) ?_
    refine d_pure0 rfl rfl rfl (pure_ix (off' := i) rfl rfl rfl rfl rfl (by omega) (by omega) (by show 0 + (i : Int).toNat * 1 = _; omega)) ?_
    refine d_store 0 rfl rfl rfl rfl rfl rfl rfl rfl rfl rfl (by show i < Y.length; omega) (hset rfl) rfl rfl ?_
    refine d_nil ?_
    refine c_exit ?_
    exact less_of ⟨rfl, rfl, rfl, rfl, rfl, trivial⟩ rfl
   ·have h16 : ¬ i < 16 := by have := of_decide_eq_false h; omega
    clear h
    refine c_skip ?_
    have hwd : (if i < 16 then word B i else nextW (sched B i) i) = nextW (sched B i) i := if_neg h16
    have hnx : nextW (sched B i) i = (((sched B i).getD (i - 16) 0 + (sched B i).getD (i - 7) 0) + sg0 ((sched B i).getD (i - 15) 0)) + sg1 ((sched B i).getD (i - 2) 0) := rfl
    rw [hwd, hnx] at hset
    clear hwd hnx
    have g0 := hgt (k := i - 16) (by omega)
    have g1 := hgt (k := i - 7) (by omega)
    have g2 := hgt (k := i - 15) (by omega)
    have g3 := hgt (k := i - 2) (by omega)
    clear hgt
    generalize (sched B i).getD (i - 16) 0 = x0 at *
    generalize (sched B i).getD (i - 7) 0 = x1 at *
    generalize (sched B i).getD (i - 15) 0 = x2 at *
    generalize (sched B i).getD (i - 2) 0 = x3 at *
    generalize wRow (wAt B i) = Y at *
    repeat refine c_seq ?_
    refine d_region [1, 9, 17, 27, 33, 41, 49, 59, 65, 73] follows (by kernel_rfl) ?_
    refine qd rfl rfl rfl rfl ?_
    refine d_pure0 rfl rfl rfl (pure_sub64 rfl rfl (by omega) (by omega)) ?_
    refine d_pure0 rfl rfl rfl (pure_ix (off' := i - 15) rfl rfl rfl rfl rfl (by omega) (by omega) (by show 0 + ((i : Int) - 15).toNat * 1 = _; omega)) ?_
    refine d_pure1 rfl rfl rfl (pure_load (i := 0) rfl rfl rfl rfl rfl g2) (by exact SubMem.refl _) ?_
    refine qd rfl rfl rfl rfl ?_
    refine d_pure0 rfl rfl rfl (pure_sub64 rfl rfl (by omega) (by omega)) ?_
    refine d_pure0 rfl rfl rfl (pure_ix (off' := i - 2) rfl rfl rfl rfl rfl (by omega) (by omega) (by show 0 + ((i : Int) - 2).toNat * 1 = _; omega)) ?_
    refine d_pure1 rfl rfl rfl (pure_load (i := 0) rfl rfl rfl rfl rfl g3) (by exact SubMem.refl _) ?_
    refine d_pure0 rfl rfl rfl (pure_assign rfl) ?_
    refine d_pure0 rfl rfl rfl (pure_assign rfl) ?_
    refine d_nil ?_
    repeat refine c_seq ?_
    refine d_region [1, 9, 17, 25, 35, 41, 49, 57, 67, 73, 81, 91, 97, 107, 113, 121, 129, 137, 145, 153, 163, 169, 179, 185, 193, 201, 209, 217, 225, 236] follows (by kernel_rfl) ?_
    refine qd rfl rfl rfl rfl ?_
    refine qd rfl rfl rfl rfl ?_
    refine d_pure0 rfl rfl rfl (pure_sub64 rfl rfl (by omega) (by omega)) ?_
    refine d_pure0 rfl rfl rfl (pure_ix (off' := i - 16) rfl rfl rfl rfl rfl (by omega) (by omega) (by show 0 + ((i : Int) - 16).toNat * 1 = _; omega)) ?_
    refine d_pure1 rfl rfl rfl (pure_load (i := 0) rfl rfl rfl rfl rfl g0) (by exact SubMem.refl _) ?_
    refine qd rfl rfl rfl rfl ?_
    refine d_pure0 rfl rfl rfl (pure_sub64 rfl rfl (by omega) (by omega)) ?_
    refine d_pure0 rfl rfl rfl (pure_ix (off' := i - 7) rfl rfl rfl rfl rfl (by omega) (by omega) (by show 0 + ((i : Int) - 7).toNat * 1 = _; omega)) ?_
    refine d_pure1 rfl rfl rfl (pure_load (i := 0) rfl rfl rfl rfl rfl g1) (by exact SubMem.refl _) ?_
    refine d_pure0 rfl rfl rfl (pure_wadd rfl rfl) ?_
    refine qd rfl rfl rfl rfl ?_
    refine d_gives rfl rfl rfl fun91 rfl (fun w _ _ => turned_z _ w (by decide) (by decide)) (by exact SubMem.refl _) ?_
    refine qd rfl rfl rfl rfl ?_
    refine d_gives rfl rfl rfl fun91 rfl (fun w _ _ => turned_z _ w (by decide) (by decide)) (by exact SubMem.refl _) ?_
    refine d_pure0 rfl rfl rfl (pure_wxor rfl rfl) ?_
    refine qd rfl rfl rfl rfl ?_
    refine d_pure0 rfl rfl rfl (pure_wshr (k := 3) (by decide) rfl rfl) ?_
    refine d_pure0 rfl rfl rfl (pure_wxor rfl rfl) ?_
    refine d_pure0 rfl rfl rfl (pure_wadd rfl rfl) ?_
    refine qd rfl rfl rfl rfl ?_
    refine d_gives rfl rfl rfl fun91 rfl (fun w _ _ => turned_z _ w (by decide) (by decide)) (by exact SubMem.refl _) ?_
    refine qd rfl rfl rfl rfl ?_
    refine d_gives rfl rfl rfl fun91 rfl (fun w _ _ => turned_z _ w (by decide) (by decide)) (by exact SubMem.refl _) ?_
    refine d_pure0 rfl rfl rfl (pure_wxor rfl rfl) ?_
    refine qd rfl rfl rfl rfl ?_
    refine d_pure0 rfl rfl rfl (pure_wshr (k := 10) (by decide) rfl rfl) ?_
    refine d_pure0 rfl rfl rfl (pure_wxor rfl rfl) ?_
    refine d_pure0 rfl rfl rfl (pure_wadd rfl rfl) ?_
    refine d_pure0 rfl rfl rfl (pure_ix (off' := i) rfl rfl rfl rfl rfl (by omega) (by omega) (by show 0 + (i : Int).toNat * 1 = _; omega)) ?_
    refine d_store 0 rfl rfl rfl rfl rfl rfl rfl rfl rfl rfl (by show i < Y.length; omega) (hset rfl) rfl rfl ?_
    refine d_nil ?_
    exact less_of ⟨rfl, rfl, rfl, rfl, rfl, trivial⟩ rfl
  ·repeat refine c_seq ?_
   refine c_region ?_
   refine step_pure rfl (pure_add64 rfl rfl (by omega) (by omega)) ?_
   refine qm rfl rfl ?_
   refine step_nil ?_
   exact ⟨i + 1, hlt, by omega, less_of ⟨rfl, rfl, rfl, rfl, rfl, trivial⟩ rfl⟩
 have hi64 : i = 64 ∨ True := .inr trivial
 have h64 : i = 64 := by have := of_decide_eq_false h; omega
 subst h64
 clear h hi hi64
 refine c_exit ?_
 rw [wAt_end]
 have hS : (sched B 64).length = 64 := sched_len B 64
 have hmix : mixV V B = addV V (rndsW V (sched B 64) 64) := rfl
 rw [hmix]
 clear hmix
 generalize sched B 64 = Sc at *
 have hpart := parts_any
 have hKl := kW_len
 have hrnd : ∀ i, rndsW V Sc (i + 1) = rndW (rndsW V Sc i) (kW.getD i 0) (Sc.getD i 0) := fun _ => rfl
 have hr0 : rndsW V Sc 0 = V := rfl
 generalize kW = K at *
 generalize rndsW V Sc = U at *
 repeat refine c_seq ?_
 refine c_region ?_
 refine step_gives rfl fun92 rfl (fun w _ _ => hpart w) ?_
 refine step_alloc rfl zero129 (fun b10 => ?_)
 refine step_store_agg 0 rfl rfl rfl (wRow_one _) rfl (by rw [wRow_len]; exact hKl) rfl rfl (Nat.le_of_ble_eq_true rfl) (splice_all (by rw [wRow_len, hKl]; rfl)) ?_
 refine step_nil ?_
 repeat refine c_seq ?_
 refine c_region ?_
 refine step_pure rfl (pure_load_agg (i := 3) rfl rfl rfl rfl rfl (by exact Nat.le_of_ble_eq_true rfl) rfl) ?_
 refine step_alloc rfl zero113 (fun b11 => ?_)
 refine step_store_agg 0 rfl rfl rfl (of_one rfl) rfl rfl rfl rfl (Nat.le_of_ble_eq_true rfl) rfl ?_
 refine step_nil ?_
 repeat refine c_seq ?_
 refine c_region ?_
 refine qm rfl rfl ?_
 refine step_nil ?_
 repeat refine c_seq ?_
 refine c_block ?_
 repeat refine c_seq ?_
 refine c_loop (α := Nat) (fun i => [(2, .pointer (some ⟨b2, 0, none⟩)), (4, .pointer (some ⟨b4, 0, none⟩)), (5, .pointer (some ⟨b5, 0, none⟩)), (10, .pointer (some ⟨b10, 0, none⟩)), (11, .pointer (some ⟨b11, 0, none⟩)), (94, .int .i64 i)])
  (fun i => [⟨b11, wRow (U i).l, 113⟩, ⟨b10, wRow K, 129⟩, ⟨b5, wRow Sc, 129⟩, ⟨b4, wRow (List.replicate 8 0), 113⟩, ⟨b2, wRow V.l, 113⟩]) (fun i => i ≤ 64) (fun i => 64 - i) 0 (by decide)
  (less_of ⟨rfl, rfl, rfl, rfl, rfl, rfl, trivial⟩ (by rw [hr0]; rfl)) ?_
 intro i hi
 repeat refine c_seq ?_
 refine c_region ?_
 refine step_pure rfl (pure_lss rfl rfl) ?_
 refine step_nil ?_
 repeat refine c_seq ?_
 refine c_cond rfl (fun h => ?_) (fun h => ?_)
 ·have hlt : i < 64 := by have := of_decide_eq_true h; omega
  clear h
  refine c_skip ?_
  have hn := hrnd i
  have gk := wRow_get K i (by omega)
  have gs := wRow_get Sc i (by omega)
  obtain ⟨u', hu'⟩ : ∃ x, x = U (i + 1) := ⟨_, rfl⟩
  rw [← hu'] at hn
  generalize hU : U i = u at *
  clear hU
  generalize K.getD i 0 = kx at *
  generalize Sc.getD i 0 = sx at *
  generalize wRow K = Kr at *
  generalize wRow Sc = Sr at *
  repeat refine c_seq ?_
  refine c_meet [(2, .pointer (some ⟨b2, 0, none⟩)), (4, .pointer (some ⟨b4, 0, none⟩)), (5, .pointer (some ⟨b5, 0, none⟩)), (10, .pointer (some ⟨b10, 0, none⟩)), (11, .pointer (some ⟨b11, 0, none⟩)), (94, .int .i64 i)]
   [⟨b11, wRow u'.l, 113⟩, ⟨b10, Kr, 129⟩, ⟨b5, Sr, 129⟩, ⟨b4, wRow (List.replicate 8 0), 113⟩, ⟨b2, wRow V.l, 113⟩] ?_ ?_
  ·repeat refine c_seq ?_
   refine c_block ?_
   repeat refine c_seq ?_
   refine c_region ?_
   refine qm rfl rfl ?_
   refine qa rfl rfl ?_
   refine step_nil ?_
   repeat refine c_seq ?_
   refine d_region [1, 11, 17, 27, 33, 41] follows (by kernel_rfl) ?_
   refine d_pure0 rfl rfl rfl (pure_ix rfl rfl rfl rfl rfl (by decide) (by decide) rfl) ?_
   refine d_pure1 rfl rfl rfl (pure_load (i := 0) rfl rfl rfl rfl rfl rfl) (by exact SubMem.refl _) ?_
   refine d_pure0 rfl rfl rfl (pure_ix rfl rfl rfl rfl rfl (by decide) (by decide) rfl) ?_
   refine d_pure1 rfl rfl rfl (pure_load (i := 0) rfl rfl rfl rfl rfl rfl) (by exact SubMem.refl _) ?_
   refine d_pure0 rfl rfl rfl (pure_assign rfl) ?_
   refine d_pure0 rfl rfl rfl (pure_assign rfl) ?_
   refine d_nil ?_
   repeat refine c_seq ?_
   refine d_region [1, 11, 17, 27, 33, 43, 49, 57, 67, 73, 81, 89, 97, 107, 113, 121, 129, 137, 147, 153, 161, 169, 177, 185, 195, 201, 209, 217, 227, 233, 241] follows (by kernel_rfl) ?_
   refine d_pure0 rfl rfl rfl (pure_ix rfl rfl rfl rfl rfl (by decide) (by decide) rfl) ?_
   refine d_pure1 rfl rfl rfl (pure_load (i := 0) rfl rfl rfl rfl rfl rfl) (by exact SubMem.refl _) ?_
   refine qd rfl rfl rfl rfl ?_
   refine d_gives rfl rfl rfl fun91 rfl (fun w _ _ => turned_z _ w (by decide) (by decide)) (by exact SubMem.refl _) ?_
   refine qd rfl rfl rfl rfl ?_
   refine d_gives rfl rfl rfl fun91 rfl (fun w _ _ => turned_z _ w (by decide) (by decide)) (by exact SubMem.refl _) ?_
   refine d_pure0 rfl rfl rfl (pure_wxor rfl rfl) ?_
   refine qd rfl rfl rfl rfl ?_
   refine d_gives rfl rfl rfl fun91 rfl (fun w _ _ => turned_z _ w (by decide) (by decide)) (by exact SubMem.refl _) ?_
   refine d_pure0 rfl rfl rfl (pure_wxor rfl rfl) ?_
   refine d_pure0 rfl rfl rfl (pure_wadd rfl rfl) ?_
   refine qd rfl rfl rfl rfl ?_
   refine d_pure0 rfl rfl rfl (pure_ix rfl rfl rfl rfl rfl (by decide) (by decide) rfl) ?_
   refine d_pure1 rfl rfl rfl (pure_load (i := 0) rfl rfl rfl rfl rfl rfl) (by exact SubMem.refl _) ?_
   refine d_pure0 rfl rfl rfl (pure_wand rfl rfl) ?_
   refine qd rfl rfl rfl rfl ?_
   refine d_pure0 rfl rfl rfl (pure_wnot rfl) ?_
   refine d_pure0 rfl rfl rfl (pure_ix rfl rfl rfl rfl rfl (by decide) (by decide) rfl) ?_
   refine d_pure1 rfl rfl rfl (pure_load (i := 0) rfl rfl rfl rfl rfl rfl) (by exact SubMem.refl _) ?_
   refine d_pure0 rfl rfl rfl (pure_wand rfl rfl) ?_
   refine d_pure0 rfl rfl rfl (pure_wxor rfl rfl) ?_
   refine d_pure0 rfl rfl rfl (pure_wadd rfl rfl) ?_
   refine qd rfl rfl rfl rfl ?_
   refine d_pure0 rfl rfl rfl (pure_ix (off' := i) rfl rfl rfl rfl rfl (by omega) (by omega) (by show 0 + (i : Int).toNat * 1 = _; omega)) ?_
   refine d_pure1 rfl rfl rfl (pure_load (i := 1) rfl rfl rfl rfl rfl gk) (by exact SubMem.refl _) ?_
   refine d_pure0 rfl rfl rfl (pure_wadd rfl rfl) ?_
   refine qd rfl rfl rfl rfl ?_
   refine d_pure0 rfl rfl rfl (pure_ix (off' := i) rfl rfl rfl rfl rfl (by omega) (by omega) (by show 0 + (i : Int).toNat * 1 = _; omega)) ?_
   refine d_pure1 rfl rfl rfl (pure_load (i := 2) rfl rfl rfl rfl rfl gs) (by exact SubMem.refl _) ?_
   refine d_pure0 rfl rfl rfl (pure_wadd rfl rfl) ?_
   refine d_pure0 rfl rfl rfl (pure_assign rfl) ?_
   refine d_nil ?_
   repeat refine c_seq ?_
   refine d_region [1, 11, 17, 27, 33, 41, 51, 57, 65, 73, 83, 89, 97, 105, 115, 121, 129, 137, 147, 153, 163, 169, 177, 185, 193] follows (by kernel_rfl) ?_
   refine qd rfl rfl rfl rfl ?_
   refine d_gives rfl rfl rfl fun91 rfl (fun w _ _ => turned_z _ w (by decide) (by decide)) (by exact SubMem.refl _) ?_
   refine qd rfl rfl rfl rfl ?_
   refine d_gives rfl rfl rfl fun91 rfl (fun w _ _ => turned_z _ w (by decide) (by decide)) (by exact SubMem.refl _) ?_
   refine d_pure0 rfl rfl rfl (pure_wxor rfl rfl) ?_
   refine qd rfl rfl rfl rfl ?_
   refine d_gives rfl rfl rfl fun91 rfl (fun w _ _ => turned_z _ w (by decide) (by decide)) (by exact SubMem.refl _) ?_
   refine d_pure0 rfl rfl rfl (pure_wxor rfl rfl) ?_
   refine qd rfl rfl rfl rfl ?_
   refine d_pure0 rfl rfl rfl (pure_ix rfl rfl rfl rfl rfl (by decide) (by decide) rfl) ?_
   refine d_pure1 rfl rfl rfl (pure_load (i := 0) rfl rfl rfl rfl rfl rfl) (by exact SubMem.refl _) ?_
   refine d_pure0 rfl rfl rfl (pure_wand rfl rfl) ?_
   refine qd rfl rfl rfl rfl ?_
   refine d_pure0 rfl rfl rfl (pure_ix rfl rfl rfl rfl rfl (by decide) (by decide) rfl) ?_
   refine d_pure1 rfl rfl rfl (pure_load (i := 0) rfl rfl rfl rfl rfl rfl) (by exact SubMem.refl _) ?_
   refine d_pure0 rfl rfl rfl (pure_wand rfl rfl) ?_
   refine d_pure0 rfl rfl rfl (pure_wxor rfl rfl) ?_
   refine d_pure0 rfl rfl rfl (pure_ix rfl rfl rfl rfl rfl (by decide) (by decide) rfl) ?_
   refine d_pure1 rfl rfl rfl (pure_load (i := 0) rfl rfl rfl rfl rfl rfl) (by exact SubMem.refl _) ?_
   refine d_pure0 rfl rfl rfl (pure_ix rfl rfl rfl rfl rfl (by decide) (by decide) rfl) ?_
   refine d_pure1 rfl rfl rfl (pure_load (i := 0) rfl rfl rfl rfl rfl rfl) (by exact SubMem.refl _) ?_
   refine d_pure0 rfl rfl rfl (pure_wand rfl rfl) ?_
   refine d_pure0 rfl rfl rfl (pure_wxor rfl rfl) ?_
   refine d_pure0 rfl rfl rfl (pure_wadd rfl rfl) ?_
   refine d_pure0 rfl rfl rfl (pure_assign rfl) ?_
   refine d_nil ?_
   repeat refine c_seq ?_
   refine c_region ?_
   refine qm rfl rfl ?_
   refine qm rfl rfl ?_
   refine step_pure rfl (pure_wadd rfl rfl) ?_
   refine qm rfl rfl ?_
   refine step_pure rfl (pure_ix rfl rfl rfl rfl rfl (by decide) (by decide) rfl) ?_
   refine step_pure rfl (pure_load (i := 0) rfl rfl rfl rfl rfl rfl) ?_
   refine step_pure rfl (pure_ix rfl rfl rfl rfl rfl (by decide) (by decide) rfl) ?_
   refine step_pure rfl (pure_load (i := 0) rfl rfl rfl rfl rfl rfl) ?_
   refine step_pure rfl (pure_ix rfl rfl rfl rfl rfl (by decide) (by decide) rfl) ?_
   refine step_pure rfl (pure_load (i := 0) rfl rfl rfl rfl rfl rfl) ?_
   refine qm rfl rfl ?_
   refine step_pure rfl (pure_wadd rfl rfl) ?_
   refine qm rfl rfl ?_
   refine step_pure rfl (pure_ix rfl rfl rfl rfl rfl (by decide) (by decide) rfl) ?_
   refine step_pure rfl (pure_load (i := 0) rfl rfl rfl rfl rfl rfl) ?_
   refine step_pure rfl (pure_ix rfl rfl rfl rfl rfl (by decide) (by decide) rfl) ?_
   refine step_pure rfl (pure_load (i := 0) rfl rfl rfl rfl rfl rfl) ?_
   refine step_pure rfl (pure_build_arr rfl zero113 rfl rfl rfl rfl) ?_
   refine step_store_agg 0 rfl rfl rfl (of_one rfl) rfl rfl rfl rfl (Nat.le_of_ble_eq_true rfl) rfl ?_
   refine step_nil ?_
   exact less_of ⟨rfl, rfl, rfl, rfl, rfl, rfl, trivial⟩ (by rw [hn]; rfl)
  ·repeat refine c_seq ?_
   refine c_region ?_
   refine step_pure rfl (pure_add64 rfl rfl (by omega) (by omega)) ?_
   refine qm rfl rfl ?_
   refine step_nil ?_
   exact ⟨i + 1, by show i + 1 ≤ 64; omega, by omega, less_of ⟨rfl, rfl, rfl, rfl, rfl, rfl, trivial⟩ (by rw [hu'])⟩
 have h64 : i = 64 := by have := of_decide_eq_false h; omega
 subst h64
 clear h hi
 refine c_exit ?_
 generalize U 64 = u at *
 repeat refine c_seq ?_
 refine c_region ?_
 refine qm rfl rfl ?_
 refine step_nil ?_
 repeat refine c_seq ?_
 refine c_block ?_
 repeat refine c_seq ?_
 refine c_loop (α := Nat) (fun i => [(2, .pointer (some ⟨b2, 0, none⟩)), (4, .pointer (some ⟨b4, 0, none⟩)), (11, .pointer (some ⟨b11, 0, none⟩)), (174, .int .i64 i)])
  (fun i => [⟨b11, wRow u.l, 113⟩, ⟨b10, wRow K, 129⟩, ⟨b5, wRow Sc, 129⟩, ⟨b4, wRow (List.replicate 8 0), 113⟩, ⟨b2, wRow (addAt V u i), 113⟩]) (fun i => i ≤ 8) (fun i => 8 - i) 0 (by decide)
  (less_of ⟨rfl, rfl, rfl, rfl, trivial⟩ rfl) ?_
 intro i hi
 repeat refine c_seq ?_
 refine c_region ?_
 refine step_pure rfl (pure_lss rfl rfl) ?_
 refine step_nil ?_
 repeat refine c_seq ?_
 refine c_cond rfl (fun h => ?_) (fun h => ?_)
 ·have hlt : i < 8 := by have := of_decide_eq_true h; omega
  clear h
  refine c_skip ?_
  have gv := wRow_get (addAt V u i) i (by rw [addAt_len V u hi]; exact hlt)
  have gu := wRow_get u.l i hlt
  have hs := (addAt_step V u hlt).2
  have hset := wRow_set (addAt V u i) i (V.l.getD i 0 + u.l.getD i 0)
  rw [hs] at hset
  rw [(addAt_step V u hlt).1] at gv
  have hln : (wRow (addAt V u i)).length = 8 := by rw [wRow_len, addAt_len V u hi]
  clear hs
  repeat refine c_seq ?_
  refine c_meet [(2, .pointer (some ⟨b2, 0, none⟩)), (4, .pointer (some ⟨b4, 0, none⟩)), (11, .pointer (some ⟨b11, 0, none⟩)), (174, .int .i64 i)]
   [⟨b11, wRow u.l, 113⟩, ⟨b10, wRow K, 129⟩, ⟨b5, wRow Sc, 129⟩, ⟨b4, wRow (List.replicate 8 0), 113⟩, ⟨b2, wRow (addAt V u (i + 1)), 113⟩] ?_ ?_
  ·repeat refine c_seq ?_
   refine c_block ?_
   generalize V.l.getD i 0 = xv at *
   generalize u.l.getD i 0 = xu at *
   generalize wRow (addAt V u i) = Y at *
   generalize wRow u.l = Ur at *
   repeat refine c_seq ?_
   refine c_region ?_
   refine qm rfl rfl ?_
   refine qa rfl rfl ?_
   refine step_nil ?_
   repeat refine c_seq ?_
   refine d_region [1, 9, 19, 25, 33, 43, 49, 57, 68] follows (by kernel_rfl) ?_
   refine qd rfl rfl rfl rfl ?_
   refine d_pure0 rfl rfl rfl (pure_ix (off' := i) rfl rfl rfl rfl rfl (by omega) (by omega) (by show 0 + (i : Int).toNat * 1 = _; omega)) ?_
   refine d_pure1 rfl rfl rfl (pure_load (i := 4) rfl rfl rfl rfl rfl gv) (by exact SubMem.refl _) ?_
   refine qd rfl rfl rfl rfl ?_
   refine d_pure0 rfl rfl rfl (pure_ix (off' := i) rfl rfl rfl rfl rfl (by omega) (by omega) (by show 0 + (i : Int).toNat * 1 = _; omega)) ?_
   refine d_pure1 rfl rfl rfl (pure_load (i := 0) rfl rfl rfl rfl rfl gu) (by exact SubMem.refl _) ?_
   refine d_pure0 rfl rfl rfl (pure_wadd rfl rfl) ?_
   refine d_pure0 rfl rfl rfl (pure_ix (off' := i) rfl rfl rfl rfl rfl (by omega) (by omega) (by show 0 + (i : Int).toNat * 1 = _; omega)) ?_
   refine d_store 4 rfl rfl rfl rfl rfl rfl rfl rfl rfl rfl (by show i < Y.length; omega) hset rfl rfl ?_
   refine d_nil ?_
   exact less_of ⟨rfl, rfl, rfl, rfl, trivial⟩ rfl
  ·repeat refine c_seq ?_
   refine c_region ?_
   refine step_pure rfl (pure_add64 rfl rfl (by omega) (by omega)) ?_
   refine qm rfl rfl ?_
   refine step_nil ?_
   exact ⟨i + 1, hlt, by omega, less_of ⟨rfl, rfl, rfl, rfl, trivial⟩ rfl⟩
 have h8 : i = 8 := by have := of_decide_eq_false h; omega
 subst h8
 refine c_exit ?_
 repeat refine c_seq ?_
 refine c_region ?_
 refine step_pure rfl (pure_load_agg (i := 4) rfl rfl rfl rfl rfl (by exact Nat.le_of_ble_eq_true rfl) rfl) ?_
 refine step_store_agg 3 rfl rfl rfl (of_one rfl) rfl rfl rfl rfl (Nat.le_of_ble_eq_true rfl) rfl ?_
 refine step_nil ?_
 exact c_ret ⟨_, res_cell_agg (i := 3) Try.results84 rfl rfl rfl rfl rfl (Nat.le_of_ble_eq_true rfl) rfl, rfl⟩
end Go.Proofs.Ythieegnhjoehbaa
