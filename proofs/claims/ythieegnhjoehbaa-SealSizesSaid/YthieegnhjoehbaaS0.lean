/- Hashes, plain: words of thirty-two bits; a block mixed; a text's hash. -/
import Derived.Test.YthieegnhjoehbaaFA
import Derived.Laws.BitsAllLaws
namespace Go.Proofs.Ythieegnhjoehbaa
open Go.RowKit Go.Vc
set_option linter.unusedVariables false
abbrev W := BitVec 32
def wd (x : W) : Int := (x.toNat : Int)
theorem wd_in (x : W) : 0 ≤ wd x ∧ wd x < 4294967296 := by
 unfold wd
 have := x.isLt
 omega
theorem wd_xor (x y : W) : bits .xor .u32 (wd x) (wd y) = wd (x ^^^ y) := by
 rw [u32_xor _ _ (wd_in x).1 (wd_in x).2 (wd_in y).1 (wd_in y).2]
 unfold wd
 rw [Int.toNat_natCast, Int.toNat_natCast, BitVec.toNat_xor]
theorem wd_and (x y : W) : bits .and .u32 (wd x) (wd y) = wd (x &&& y) := by
 rw [u32_and _ _ (wd_in x).1 (wd_in x).2 (wd_in y).1 (wd_in y).2]
 unfold wd
 rw [Int.toNat_natCast, Int.toNat_natCast, BitVec.toNat_and]
theorem wd_or (x y : W) : bits .or .u32 (wd x) (wd y) = wd (x ||| y) := by
 rw [u32_or _ _ (wd_in x).1 (wd_in x).2 (wd_in y).1 (wd_in y).2]
 unfold wd
 rw [Int.toNat_natCast, Int.toNat_natCast, BitVec.toNat_or]
theorem wd_add (x y : W) : IntKind.u32.wrap (wd x + wd y) = wd (x + y) := by
 rw [IntKind.wrap_u32']
 unfold wd
 rw [BitVec.toNat_add]
 omega
theorem wd_shr (x : W) (k : Nat) : wd x / 2 ^ k = wd (x >>> k) := by
 unfold wd
 rw [BitVec.toNat_ushiftRight, Nat.shiftRight_eq_div_pow]
 norm_cast
theorem wd_shl (x : W) (k : Nat) : IntKind.u32.wrap (wd x * 2 ^ k) = wd (x <<< k) := by
 rw [IntKind.wrap_u32']
 unfold wd
 rw [BitVec.toNat_shiftLeft, Nat.shiftLeft_eq, Int.natCast_emod, Int.natCast_mul, Int.natCast_pow]
 rfl
theorem wd_not (x : W) : 4294967295 - wd x = wd (~~~x) := by
 unfold wd
 rw [BitVec.toNat_not]
 have := x.isLt
 omega
section
variable {E : Env} {n : Nat} {all rest : List Oper} {rs : Rs} {m : Mem} {K : Act → World → Prop} {dst : Option Tmp} {ty : TypeId} {pos : String} {aft : Array Edge} {gd : Option (Nat × Bool)} {x y : Operand} {T U : TypeId} {p q : W}
theorem pure_wxor (hx : ev rs x = some (.int .u32 (wd p))) (hy : ev rs y = some (.int .u32 (wd q))) : Pure tb E rs m ⟨dst, .binOp .xor T x y U, ty, pos, aft, gd⟩ (.int .u32 (wd (p ^^^ q))) := by rw [← wd_xor]; exact pure_xor hx hy
theorem pure_wand (hx : ev rs x = some (.int .u32 (wd p))) (hy : ev rs y = some (.int .u32 (wd q))) : Pure tb E rs m ⟨dst, .binOp .and T x y U, ty, pos, aft, gd⟩ (.int .u32 (wd (p &&& q))) := by rw [← wd_and]; exact pure_and hx hy
theorem pure_wor (hx : ev rs x = some (.int .u32 (wd p))) (hy : ev rs y = some (.int .u32 (wd q))) : Pure tb E rs m ⟨dst, .binOp .or T x y U, ty, pos, aft, gd⟩ (.int .u32 (wd (p ||| q))) := by rw [← wd_or]; exact pure_or hx hy
theorem pure_wadd (hx : ev rs x = some (.int .u32 (wd p))) (hy : ev rs y = some (.int .u32 (wd q))) : Pure tb E rs m ⟨dst, .binOp .add T x y U, ty, pos, aft, gd⟩ (.int .u32 (wd (p + q))) := by rw [← wd_add]; exact pure_add hx hy
theorem pure_wshr {k : Nat} {k' : IntKind} (hk : k ≤ 32) (hx : ev rs x = some (.int .u32 (wd p))) (hy : ev rs y = some (.int k' (k : Int))) : Pure tb E rs m ⟨dst, .binOp .shr T x y U, ty, pos, aft, gd⟩ (.int .u32 (wd (p >>> k))) := by
 have h := pure_shr (B := tb) (E := E) (m := m) (T := T) (U := U) (dst := dst) (ty := ty) (pos := pos) (aft := aft) (gd := gd) hx hy (Int.natCast_nonneg k)
 rw [Int.toNat_natCast, show min k IntKind.u32.bits = k from by show min k 32 = k; omega, wd_shr] at h
 exact h
theorem pure_wshl {k : Nat} {k' : IntKind} (hk : k ≤ 32) (hx : ev rs x = some (.int .u32 (wd p))) (hy : ev rs y = some (.int k' (k : Int))) : Pure tb E rs m ⟨dst, .binOp .shl T x y U, ty, pos, aft, gd⟩ (.int .u32 (wd (p <<< k))) := by
 have h := pure_shl (B := tb) (E := E) (m := m) (T := T) (U := U) (dst := dst) (ty := ty) (pos := pos) (aft := aft) (gd := gd) hx hy (Int.natCast_nonneg k)
 rw [Int.toNat_natCast, show min k IntKind.u32.bits = k from by show min k 32 = k; omega, wd_shl] at h
 exact h
theorem pure_wnot (hx : ev rs x = some (.int .u32 (wd p))) : Pure tb E rs m ⟨dst, .unOp .xor T x, ty, pos, aft, gd⟩ (.int .u32 (wd (~~~p))) := by
 refine ⟨fun a w hr hh hk => ?_⟩
 have h : bits .xor .u32 4294967295 (wd p) = wd (~~~p) := by
  have h1 := wd_xor 4294967295#32 p
  rw [show wd 4294967295#32 = 4294967295 by decide] at h1
  rw [h1, show (4294967295#32 : W) = BitVec.allOnes 32 by decide, BitVec.allOnes_xor]
 have h2 : IntKind.u32.max = 4294967295 := rfl
 have h3 : IntKind.u32.signed = false := rfl
 simp [execOp, ev_ok hr hx, Op.unary, Op.intBits, h2, h3]
 simpa [bits] using h
end
/-! a block mixed -/
def rotr (x : W) (k : Nat) : W := (x <<< (32 - k)) ||| (x >>> k)
def sg0 (x : W) : W := (rotr x 7 ^^^ rotr x 18) ^^^ (x >>> 3)
def sg1 (x : W) : W := (rotr x 17 ^^^ rotr x 19) ^^^ (x >>> 10)
def Sg0 (x : W) : W := (rotr x 2 ^^^ rotr x 13) ^^^ rotr x 22
def Sg1 (x : W) : W := (rotr x 6 ^^^ rotr x 11) ^^^ rotr x 25
def chW (e f g : W) : W := (e &&& f) ^^^ (~~~e &&& g)
def mjW (a b c : W) : W := ((a &&& b) ^^^ (a &&& c)) ^^^ (b &&& c)
theorem ch_or (e f g : W) : (e &&& f) ||| ((e ^^^ 4294967295#32) &&& g) = chW e f g := by
 unfold chW
 have h : (4294967295#32 : W) = BitVec.allOnes 32 := by decide
 rw [h]
 ext i hi
 simp only [BitVec.getElem_or, BitVec.getElem_and, BitVec.getElem_xor, BitVec.getElem_not, BitVec.getElem_allOnes]
 cases e[i] <;> cases f[i] <;> cases g[i] <;> rfl
theorem mj_or (a b c : W) : ((a &&& b) ||| (a &&& c)) ||| (b &&& c) = mjW a b c := by
 unfold mjW
 ext i hi
 simp only [BitVec.getElem_or, BitVec.getElem_and, BitVec.getElem_xor]
 cases a[i] <;> cases b[i] <;> cases c[i] <;> rfl
theorem rotr_or (x : W) (k : Nat) : (x >>> k) ||| (x <<< (32 - k)) = rotr x k := BitVec.or_comm _ _
/-- Four bytes as a word. -/
def wOf (z : Int) : W := BitVec.ofInt 32 z
theorem wd_wOf {z : Int} (h0 : 0 ≤ z) (h1 : z < 4294967296) : wd (wOf z) = z := by
 obtain ⟨k, rfl⟩ : ∃ k : Nat, z = k := ⟨z.toNat, by omega⟩
 unfold wd wOf
 rw [ofInt_u32 k (by omega)]
theorem wOf_wd (x : W) : wOf (wd x) = x := by
 refine BitVec.eq_of_toNat_eq ?_
 have := wd_wOf (wd_in x).1 (wd_in x).2
 unfold wd at this ⊢
 omega
def word (b : List Int) (i : Nat) : W := wOf (((b.getD (4 * i) 0 * 16777216 + b.getD (4 * i + 1) 0 * 65536) + b.getD (4 * i + 2) 0 * 256) + b.getD (4 * i + 3) 0)
def nextW (l : List W) (i : Nat) : W := ((l.getD (i - 16) 0 + l.getD (i - 7) 0) + sg0 (l.getD (i - 15) 0)) + sg1 (l.getD (i - 2) 0)
def sched (b : List Int) : Nat → List W
 | 0 => []
 | i + 1 => sched b i ++ [if i < 16 then word b i else nextW (sched b i) i]
theorem sched_len (b : List Int) : ∀ i, (sched b i).length = i
 | 0 => rfl
 | i + 1 => by
  show (sched b i ++ [_]).length = _
  rw [List.length_append, sched_len b i]
  rfl
theorem sched_get (b : List Int) {i j : Nat} (h : i < j) : (sched b j).getD i 0 = if i < 16 then word b i else nextW (sched b i) i := by
 induction j with
 | zero => omega
 | succ j ih =>
  show (sched b j ++ [_]).getD i 0 = _
  rw [List.getD_eq_getElem?_getD]
  by_cases hij : i < j
  ·rw [List.getElem?_append_left (by rw [sched_len]; exact hij), ← List.getD_eq_getElem?_getD, ih hij]
  ·have : i = j := by omega
   subst this
   rw [List.getElem?_append_right (by rw [sched_len]; omega), sched_len, Nat.sub_self]
   rfl
structure V8 where
 a : W
 b : W
 c : W
 d : W
 e : W
 f : W
 g : W
 h : W
def V8.l (v : V8) : List W := [v.a, v.b, v.c, v.d, v.e, v.f, v.g, v.h]
def tW (v : V8) (k w : W) : W := (((v.h + Sg1 v.e) + chW v.e v.f v.g) + k) + w
def uW (v : V8) : W := Sg0 v.a + mjW v.a v.b v.c
def rndW (v : V8) (k w : W) : V8 := ⟨tW v k w + uW v, v.a, v.b, v.c, v.d + tW v k w, v.e, v.f, v.g⟩
def kInts : List Int := [0x428a2f98, 0x71374491, 0xb5c0fbcf, 0xe9b5dba5, 0x3956c25b, 0x59f111f1, 0x923f82a4, 0xab1c5ed5,
 0xd807aa98, 0x12835b01, 0x243185be, 0x550c7dc3, 0x72be5d74, 0x80deb1fe, 0x9bdc06a7, 0xc19bf174,
 0xe49b69c1, 0xefbe4786, 0x0fc19dc6, 0x240ca1cc, 0x2de92c6f, 0x4a7484aa, 0x5cb0a9dc, 0x76f988da,
 0x983e5152, 0xa831c66d, 0xb00327c8, 0xbf597fc7, 0xc6e00bf3, 0xd5a79147, 0x06ca6351, 0x14292967,
 0x27b70a85, 0x2e1b2138, 0x4d2c6dfc, 0x53380d13, 0x650a7354, 0x766a0abb, 0x81c2c92e, 0x92722c85,
 0xa2bfe8a1, 0xa81a664b, 0xc24b8b70, 0xc76c51a3, 0xd192e819, 0xd6990624, 0xf40e3585, 0x106aa070,
 0x19a4c116, 0x1e376c08, 0x2748774c, 0x34b0bcb5, 0x391c0cb3, 0x4ed8aa4a, 0x5b9cca4f, 0x682e6ff3,
 0x748f82ee, 0x78a5636f, 0x84c87814, 0x8cc70208, 0x90befffa, 0xa4506ceb, 0xbef9a3f7, 0xc67178f2]
def kW : List W := kInts.map wOf
def firstI : List Int := [0x6a09e667, 0xbb67ae85, 0x3c6ef372, 0xa54ff53a, 0x510e527f, 0x9b05688c, 0x1f83d9ab, 0x5be0cd19]
def firstV : V8 := ⟨wOf 0x6a09e667, wOf 0xbb67ae85, wOf 0x3c6ef372, wOf 0xa54ff53a, wOf 0x510e527f, wOf 0x9b05688c, wOf 0x1f83d9ab, wOf 0x5be0cd19⟩
/-- Words, as cells. -/
def wRow (l : List W) : List Value := l.map fun x => .int .u32 (wd x)
theorem wRow_len (l : List W) : (wRow l).length = l.length := List.length_map ..
theorem wRow_get (l : List W) (i : Nat) (h : i < l.length) : (wRow l)[i]? = some (.int .u32 (wd (l.getD i 0))) := by
 unfold wRow
 rw [List.getElem?_map, List.getD_eq_getElem?_getD, List.getElem?_eq_getElem h]
 rfl
theorem kInts_in : ∀ z ∈ kInts, wd (wOf z) = z := by decide +kernel
theorem kW_row : wRow kW = ints .u32 kInts := by
 unfold wRow kW ints
 rw [List.map_map]
 exact List.map_congr_left fun z hz => congrArg (Value.int .u32) (kInts_in z hz)
theorem firstI_in : ∀ z ∈ firstI, wd (wOf z) = z := by decide +kernel
theorem firstV_row : wRow firstV.l = ints .u32 firstI := by
 show wRow (firstI.map wOf) = _
 unfold wRow ints
 rw [List.map_map]
 exact List.map_congr_left fun z hz => congrArg (Value.int .u32) (firstI_in z hz)
theorem kW_len : kW.length = 64 := by decide +kernel
def rndsW (v : V8) (w : List W) : Nat → V8
 | 0 => v
 | i + 1 => rndW (rndsW v w i) (kW.getD i 0) (w.getD i 0)
def addV (v u : V8) : V8 := ⟨v.a + u.a, v.b + u.b, v.c + u.c, v.d + u.d, v.e + u.e, v.f + u.f, v.g + u.g, v.h + u.h⟩
def mixV (v : V8) (b : List Int) : V8 := addV v (rndsW v (sched b 64) 64)
/-! texts -/
def absV (v : V8) : Nat → List Int → V8
 | 0, _ => v
 | n + 1, b => absV (mixV v (b.take 64)) n (b.drop 64)
def left (b : List Int) : List Int := b.drop (64 * (b.length / 64))
def hashV (v : V8) (b : List Int) : V8 := absV v (b.length / 64) b
theorem absV_app (v : V8) : ∀ (n m : Nat) (b : List Int), absV v (n + m) b = absV (absV v n b) m (b.drop (64 * n))
 | 0, m, b => by rw [Nat.zero_add, Nat.mul_zero, List.drop_zero]; rfl
 | n + 1, m, b => by
  rw [show n + 1 + m = (n + m) + 1 by omega]
  show absV (mixV v (b.take 64)) (n + m) (b.drop 64) = _
  rw [absV_app _ n m, List.drop_drop, show 64 + 64 * n = 64 * (n + 1) by omega]
  rfl
theorem absV_pre (v : V8) : ∀ (n : Nat) (b c : List Int), 64 * n ≤ b.length → absV v n (b ++ c) = absV v n b
 | 0, b, c, _ => rfl
 | n + 1, b, c, h => by
  show absV (mixV v ((b ++ c).take 64)) n ((b ++ c).drop 64) = absV (mixV v (b.take 64)) n (b.drop 64)
  rw [List.take_append_of_le_length (by omega), List.drop_append_of_le_length (by omega)]
  exact absV_pre _ n _ c (by rw [List.length_drop]; omega)
theorem left_len (b : List Int) : (left b).length = b.length % 64 := by
 unfold left
 rw [List.length_drop]
 omega
theorem left_app (t b : List Int) : left (t ++ b) = left (left t ++ b) ∧ hashV firstV (t ++ b) = hashV (hashV firstV t) (left t ++ b) := by
 have hl := left_len t
 have h1 : t ++ b = t.take (64 * (t.length / 64)) ++ (left t ++ b) := by
  unfold left
  rw [← List.append_assoc, List.take_append_drop]
 have h2 : (t.take (64 * (t.length / 64))).length = 64 * (t.length / 64) := by rw [List.length_take]; omega
 have h3 : (t ++ b).length = 64 * (t.length / 64) + (left t ++ b).length := by
  rw [List.length_append, List.length_append, hl]
  omega
 have h4 : (t ++ b).length / 64 = t.length / 64 + (left t ++ b).length / 64 := by rw [h3]; omega
 have h5 : (t ++ b).drop (64 * (t.length / 64)) = left t ++ b := by
  unfold left
  rw [List.drop_append_of_le_length (by omega)]
 refine ⟨?_, ?_⟩
 ·show (t ++ b).drop _ = (left t ++ b).drop _
  rw [h4, Nat.mul_add, ← List.drop_drop, h5]
 ·unfold hashV
  rw [h4, absV_app, h5, absV_pre _ _ t b (by omega)]
/-- The bytes of a hash. -/
def outB (v : V8) : List Int := (List.range 32).map fun i => (wd (v.l.getD (i / 4) 0) / 2 ^ (24 - 8 * (i % 4))) % 256
def lenB (n : Nat) : List Int := (List.range 8).map fun i => ((8 * (n : Int)) / 2 ^ (56 - 8 * i)) % 256
def padT (t : List Int) : List Int := t ++ (128 :: (zeros ((119 - t.length % 64) % 64) ++ lenB t.length))
def shaF (t : List Int) : List Int := outB (hashV firstV (padT t))
theorem outB_len (v : V8) : (outB v).length = 32 := by unfold outB; rw [List.length_map, List.length_range]
theorem lenB_len (n : Nat) : (lenB n).length = 8 := by unfold lenB; rw [List.length_map, List.length_range]
theorem outB_bytes (v : V8) : Bytes (outB v) := by
 intro x hx
 unfold outB at hx
 obtain ⟨i, _, rfl⟩ := List.mem_map.1 hx
 omega
theorem lenB_bytes (n : Nat) : Bytes (lenB n) := by
 intro x hx
 unfold lenB at hx
 obtain ⟨i, _, rfl⟩ := List.mem_map.1 hx
 omega
theorem shaF_len (t : List Int) : (shaF t).length = 32 := outB_len _
theorem shaF_bytes (t : List Int) : Bytes (shaF t) := outB_bytes _
end Go.Proofs.Ythieegnhjoehbaa
