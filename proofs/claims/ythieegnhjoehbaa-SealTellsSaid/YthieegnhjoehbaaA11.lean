/- What the statements' common head says. -/
import Derived.Test.YthieegnhjoehbaaAC
import Derived.Test.YthieegnhjoehbaaVt
import Derived.Laws.BitsAllLaws
namespace Go.Proofs.Ythieegnhjoehbaa
open Go.RowKit Go.Vc
set_option linter.unusedVariables false
/-! plain -/
def boxL : List Int := [99, 124, 119, 123, 242, 107, 111, 197, 48, 1, 103, 43, 254, 215, 171, 118, 202, 130, 201, 125, 250, 89, 71, 240, 173, 212, 162, 175, 156, 164, 114, 192, 183, 253, 147, 38, 54, 63, 247, 204, 52, 165, 229, 241, 113, 216, 49, 21, 4, 199, 35, 195, 24, 150, 5, 154, 7, 18, 128, 226, 235, 39, 178, 117, 9, 131, 44, 26, 27, 110, 90, 160, 82, 59, 214, 179, 41, 227, 47, 132, 83, 209, 0, 237, 32, 252, 177, 91, 106, 203, 190, 57, 74, 76, 88, 207, 208, 239, 170, 251, 67, 77, 51, 133, 69, 249, 2, 127, 80, 60, 159, 168, 81, 163, 64, 143, 146, 157, 56, 245, 188, 182, 218, 33, 16, 255, 243, 210, 205, 12, 19, 236, 95, 151, 68, 23, 196, 167, 126, 61, 100, 93, 25, 115, 96, 129, 79, 220, 34, 42, 144, 136, 70, 238, 184, 20, 222, 94, 11, 219, 224, 50, 58, 10, 73, 6, 36, 92, 194, 211, 172, 98, 145, 149, 228, 121, 231, 200, 55, 109, 141, 213, 78, 169, 108, 86, 244, 234, 101, 122, 174, 8, 186, 120, 37, 46, 28, 166, 180, 198, 232, 221, 116, 31, 75, 189, 139, 138, 112, 62, 181, 102, 72, 3, 246, 14, 97, 53, 87, 185, 134, 193, 29, 158, 225, 248, 152, 17, 105, 217, 142, 148, 155, 30, 135, 233, 206, 85, 40, 223, 140, 161, 137, 13, 191, 230, 66, 104, 65, 153, 45, 15, 176, 84, 187, 22]
theorem boxT_lit : boxT = boxL := by decide +kernel
def K0 : List Int := [0,1,2,3,4,5,6,7,8,9,10,11,12,13,14,15]
def B0 : List Int := [0,17,34,51,68,85,102,119,136,153,170,187,204,221,238,255]
set_option maxRecDepth 100000 in
theorem k0_keys : ((expF boxT K0).getD 160 0, (expF boxT K0).getD 175 0) = (19, 197) := by rw [boxT_lit]; decide +kernel
set_option maxRecDepth 100000 in
theorem k0_block : ((blkF boxT (expF boxT K0) B0).getD 0 0, (blkF boxT (expF boxT K0) B0).getD 1 0, (blkF boxT (expF boxT K0) B0).getD 15 0) = (105, 196, 90) := by rw [boxT_lit]; decide +kernel
theorem xor_back (a b : Int) (h1 : 0 ≤ a ∧ a < 256) (h2 : 0 ≤ b ∧ b < 256) : bits .xor .u8 (bits .xor .u8 a b) b = a := by
 have h3 := bits_byte .xor a b
 rw [u8_xor _ _ h3.1 h3.2 h2.1 h2.2, u8_xor _ _ h1.1 h1.2 h2.1 h2.2, Int.toNat_natCast, Nat.xor_assoc, Nat.xor_self, Nat.xor_zero]
 omega
theorem strB_bytes (key A : List Int) (c0 : Int) (q : Nat) (hA : Bytes A) : Bytes (strB key A c0 q) := blkF_bytes _ _ _ (xbL_bytes A _ hA 8) boxT_bytes
theorem strAt_byte (key A : List Int) (c0 : Int) (k : Nat) (hA : Bytes A) : 0 ≤ strAt key A c0 k ∧ strAt key A c0 k < 256 := (strB_bytes key A c0 _ hA).at _
theorem outF_len (key A bs : List Int) (c : Int) : (outF key A bs c).length = bs.length := by simp [outF]
theorem outF_bytes (key A bs : List Int) (c : Int) : Bytes (outF key A bs c) := by
 intro x hx
 obtain ⟨i, _, rfl⟩ := List.mem_map.1 hx
 exact bits_byte _ _ _
theorem outF_back (key A bs : List Int) (c : Int) (hA : Bytes A) (hb : Bytes bs) : outF key A (outF key A bs c) c = bs := by
 apply List.ext_getElem?
 intro i
 by_cases hi : i < bs.length
 ·have h1 : (outF key A bs c)[i]? = some (outAt key A bs c i) := by simp [outF, hi]
  have h2 : (outF key A (outF key A bs c) c)[i]? = some (outAt key A (outF key A bs c) c i) := by simp [outF, hi]
  rw [h2]
  unfold outAt
  rw [List.getD_eq_getElem?_getD, h1]
  simp only [Option.getD_some, outAt]
  rw [xor_back _ _ (hb.at i) (strAt_byte _ _ _ _ hA)]
  simp [hi]
 ·rw [List.getElem?_eq_none (by rw [outF_len, outF_len]; omega), List.getElem?_eq_none (by omega)]
def awK : Nat → List Int
 | 0 => zeros 16
 | i + 1 => (awK i).set i (IntKind.u8.wrap i)
def awB : Nat → List Int
 | 0 => zeros 16
 | i + 1 => (awB i).set i (IntKind.u8.wrap (17 * (i : Int)))
theorem awK_len (i : Nat) : (awK i).length = 16 := by
 induction i with
 | zero => exact zeros_len 16
 | succ i ih => exact (List.length_set ..).trans ih
theorem awB_len (i : Nat) : (awB i).length = 16 := by
 induction i with
 | zero => exact zeros_len 16
 | succ i ih => exact (List.length_set ..).trans ih
theorem aw_end : awK 16 = K0 ∧ awB 16 = B0 := by decide +kernel
theorem slv_own {u : Ty} {eT : TypeId} {e : Ent} {base : Option Addr} {len cap j : Nat} {xs : List Value} {w : World} {m : Mem} (hu : u.size = 1) (hs : SlIs u eT e base len cap xs) (hh : Has w m) (he : nth m j = some e) :
  SlV w (.slice base len cap) xs := by
 have hl := hs.len
 rw [hu, Nat.mul_one] at hl
 refine ⟨⟨base, cap, by rw [hl], fun hne => ?_⟩, fun _ _ _ h => by cases h; exact hs.le⟩
 have hlive : e.cells ≠ [] := fun h => hne (by rw [← hs.xs, h]; simp)
 obtain ⟨hb, hel⟩ := hs.at_ hlive
 refine ⟨_, hb, fun j x hx => ?_⟩
 rw [add_none, Nat.zero_add]
 refine cell_of (hh.cell (nth_mem he) hlive) ?_
 rw [← hs.xs, List.getElem?_take] at hx
 split at hx
 ·exact hx
 ·cases hx
end Go.Proofs.Ythieegnhjoehbaa
