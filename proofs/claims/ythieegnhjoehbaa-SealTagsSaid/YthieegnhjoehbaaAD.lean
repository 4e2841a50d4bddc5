/- Plain: what the round keys are. -/
import Derived.Test.YthieegnhjoehbaaA11
import Derived.Test.YthieegnhjoehbaaAC
namespace Go.Proofs.Ythieegnhjoehbaa
open Go.RowKit Go.Vc
set_option linter.unusedVariables false
theorem xr_comm (a b : Int) : xr a b = xr b a := by
 show bits .xor .u8 a b = bits .xor .u8 b a
 simp only [bits, BitVec.xor_comm]
theorem getD_set_ne (l : List Int) (i j : Nat) (x : Int) (h : i ≠ j) : (l.set i x).getD j 0 = l.getD j 0 := by
 simp [h]
/-- What a round of the keys has done when c bytes are written. -/
structure ExI (i : Nat) (s : List Int × List Int) (c : Nat) : Prop where
 old : ∀ j, j < 16 * (i + 1) → (exCs i s c).2.getD j 0 = s.2.getD j 0
 last : ∀ r, r < 4 → (exCs i s c).1.getD r 0 = if c ≤ r then s.1.getD r 0 else (exCs i s c).2.getD (16 * (i + 1) + (r + 4 * ((c - 1 - r) / 4))) 0
 new : ∀ j, 4 ≤ j → j < c → (exCs i s c).2.getD (16 * (i + 1) + j) 0 = xr ((exCs i s c).2.getD (16 * (i + 1) + j - 4) 0) (s.2.getD (16 * i + j) 0)
theorem exI (i : Nat) (s : List Int × List Int) (h1 : s.1.length = 4) (h2 : 16 * (i + 2) ≤ s.2.length) : ∀ c, c ≤ 16 → ExI i s c := by
 intro c
 induction c with
 | zero => exact fun _ => ⟨fun _ _ => rfl, fun r _ => by simp [exCs], fun j _ h => by omega⟩
 | succ c ih =>
  intro hc
  have I := ih (by omega)
  have hl1 := (exCs_len i s c).1.trans h1
  have hl2 := (exCs_len i s c).2
  have hs : exCs i s (c + 1) = exC i c (exCs i s c) := rfl
  have hold : (exCs i s c).2.getD (16 * i + c) 0 = s.2.getD (16 * i + c) 0 := I.old _ (by omega)
  have hlast := I.last (c % 4) (by omega)
  have e1 : (exCs i s (c + 1)).1 = (exCs i s c).1.set (c % 4) (xr ((exCs i s c).1.getD (c % 4) 0) (s.2.getD (16 * i + c) 0)) := by rw [hs]; unfold exC; rw [hold]
  have e2 : (exCs i s (c + 1)).2 = (exCs i s c).2.set (16 * (i + 1) + c) (xr ((exCs i s c).1.getD (c % 4) 0) (s.2.getD (16 * i + c) 0)) := by rw [hs]; unfold exC; rw [hold]
  refine ⟨fun j hj => ?_, fun r hr => ?_, fun j hj hjc => ?_⟩
  ·rw [e2, getD_set_ne _ _ _ _ (by omega)]; exact I.old j hj
  ·rw [e1, e2]
   by_cases hrc : r = c % 4
   ·rw [if_neg (by omega), hrc, getD_set_self _ _ _ (by omega), show c % 4 + 4 * ((c + 1 - 1 - c % 4) / 4) = c by omega, getD_set_self _ _ _ (by omega)]
   ·rw [getD_set_ne _ _ _ _ (by omega), I.last r hr]
    by_cases hcr : c ≤ r
    ·rw [if_pos hcr, if_pos (by omega)]
    ·rw [if_neg hcr, if_neg (by omega), getD_set_ne _ _ _ _ (by omega), show (c + 1 - 1 - r) / 4 = (c - 1 - r) / 4 by omega]
  ·rw [e2]
   by_cases hjc' : j = c
   ·subst hjc'
    rw [getD_set_self _ _ _ (by omega), getD_set_ne _ _ _ _ (by omega), hlast, if_neg (by omega)]
    rw [show 16 * (i + 1) + (j % 4 + 4 * ((j - 1 - j % 4) / 4)) = 16 * (i + 1) + j - 4 by omega]
   ·rw [getD_set_ne _ _ _ _ (by omega), getD_set_ne _ _ _ _ (by omega)]
    exact I.new j hj (by omega)
structure KOk (key O : List Int) (i : Nat) : Prop where
 first : ∀ j, j < 16 → O.getD j 0 = key.getD j 0
 next : ∀ n, n < i → ∀ j, 4 ≤ j → j < 16 → O.getD (16 * (n + 1) + j) 0 = xr (O.getD (16 * n + j) 0) (O.getD (16 * (n + 1) + j - 4) 0)
theorem exK_ok (S key : List Int) (hk : key.length = 16) : ∀ i, i ≤ 10 → KOk key (exK S key i).1 i := by
 intro i
 induction i with
 | zero =>
  intro _
  refine ⟨fun j hj => ?_, fun n hn => by omega⟩
  show (key ++ zeros 160).getD j 0 = _
  simp [List.getElem?_append, hk, hj]
 | succ i ih =>
  intro hi
  have I := ih (by omega)
  have hl := exK_len S key hk i
  have X := exI i (exLast S (exK S key i).1 i (exK S key i).2, (exK S key i).1) rfl (by show 16 * (i + 2) ≤ (exK S key i).1.length; omega) 16 (Nat.le_refl _)
  rw [exK_succ]
  refine ⟨fun j hj => ?_, fun n hn j hj hj2 => ?_⟩
  ·rw [X.old j (by omega)]; exact I.first j hj
  ·by_cases hni : n = i
   ·subst hni
    rw [X.new j hj hj2, xr_comm, X.old (16 * n + j) (by omega)]
   ·rw [X.old _ (by omega), X.old _ (by omega), X.old _ (by omega)]
    exact I.next n (by omega) j hj hj2
theorem expF_ok (S key : List Int) (hk : key.length = 16) : KOk key (expF S key) 10 := by
 rw [expF_is S key 10 rfl]
 exact exK_ok S key hk 10 (Nat.le_refl _)
end Go.Proofs.Ythieegnhjoehbaa
/- Plain: the program's round keys and blocks are the reference's. -/
namespace Go.Proofs.Ythieegnhjoehbaa
open Go.RowKit Go.Vc
set_option linter.unusedVariables false
theorem byte_nat {a : Int} (h : 0 ≤ a ∧ a < 256) : ∃ n : Nat, n < 256 ∧ a = n := ⟨a.toNat, by omega, by omega⟩
set_option maxRecDepth 100000 in
theorem tms2_all : ∀ n : Nat, n < 256 → tms n 2 = dbl n := by decide +kernel
set_option maxRecDepth 100000 in
theorem tms3_all : ∀ n : Nat, n < 256 → tms n 3 = xr (dbl n) n := by decide +kernel
set_option maxRecDepth 100000 in
theorem rbox_all : ∀ n : Nat, n < 256 → rbox n = boxL.getD n 0 := by decide +kernel
theorem tms2 {a : Int} (h : 0 ≤ a ∧ a < 256) : tms a 2 = dbl a := by obtain ⟨n, hn, rfl⟩ := byte_nat h; exact tms2_all n hn
theorem tms3 {a : Int} (h : 0 ≤ a ∧ a < 256) : tms a 3 = xr (dbl a) a := by obtain ⟨n, hn, rfl⟩ := byte_nat h; exact tms3_all n hn
theorem rbox_is {a : Int} (h : 0 ≤ a ∧ a < 256) : rbox a = boxT.getD a.toNat 0 := by
 obtain ⟨n, hn, rfl⟩ := byte_nat h
 rw [boxT_lit, Int.toNat_natCast]
 exact rbox_all n hn
theorem dbl_byte (a : Int) : 0 ≤ dbl a ∧ dbl a < 256 := by unfold dbl xr; exact bits_byte _ _ _
/-! the round keys -/
theorem sub_getD (O : List Int) (k c : Nat) (h : c < 16) : ((O.drop k).take 16).getD c 0 = O.getD (k + c) 0 := by
 simp [h]
theorem keys_round (O : List Int) (i : Nat) (rd : Int) (hl : O.length = 176) (hO : Bytes O) (hi : i < 10) : ∀ c, c ≤ 16 →
  (exCs i (exLast boxT O i rd, O) c).2 = rkC ((O.drop (16 * i)).take 16) O i rd c := by
 intro c
 induction c with
 | zero => exact fun _ => rfl
 | succ c ih =>
  intro hc
  have hih := ih (by omega)
  have X := exI i (exLast boxT O i rd, O) rfl (by show 16 * (i + 2) ≤ O.length; omega) c (by omega)
  show (exCs i (exLast boxT O i rd, O) c).2.set (16 * (i + 1) + c) (xr ((exCs i (exLast boxT O i rd, O) c).1.getD (c % 4) 0) ((exCs i (exLast boxT O i rd, O) c).2.getD (16 * i + c) 0)) =
   (rkC ((O.drop (16 * i)).take 16) O i rd c).set (16 * (i + 1) + c) (xr (((O.drop (16 * i)).take 16).getD c 0) (rkA2 ((O.drop (16 * i)).take 16) (rkC ((O.drop (16 * i)).take 16) O i rd c) i c rd))
  have hold := X.old (16 * i + c) (by omega)
  have hlast := X.last (c % 4) (by omega)
  rw [hold, hlast, sub_getD _ _ _ (by omega), xr_comm, ← hih]
  congr 2
  dsimp only
  by_cases h4 : c < 4
  ·have e4 : c % 4 = c := by omega
   rw [e4, if_pos (Nat.le_refl _)]
   unfold rkA2 rkA1
   rw [if_pos h4, sub_getD _ _ _ (by omega)]
   have hb := fun j => rbox_is (hO.at j)
   obtain rfl | rfl | rfl | rfl : c = 0 ∨ c = 1 ∨ c = 2 ∨ c = 3 := by omega
   ·rw [if_pos rfl, hb]; rfl
   ·rw [if_neg (by decide), hb]; rfl
   ·rw [if_neg (by decide), hb]; rfl
   ·rw [if_neg (by decide), hb]; rfl
  ·rw [if_neg (by omega)]
   unfold rkA2 rkA1
   rw [if_neg (by omega), if_neg h4, show 16 * (i + 1) + (c % 4 + 4 * ((c - 1 - c % 4) / 4)) = 16 * (i + 1) + (c - 4) by omega]
theorem keys_eq (key : List Int) (hk : key.length = 16) (hb : Bytes key) : ∀ i, i ≤ 10 → exK boxT key i = rkK key i := by
 intro i
 induction i with
 | zero => exact fun _ => rfl
 | succ i ih =>
  intro hi
  have h := ih (by omega)
  have hl := exK_len boxT key hk i
  have hB := exK_bytes boxT key hb i
  have hrd : 0 ≤ (exK boxT key i).2 ∧ (exK boxT key i).2 < 256 := by
   cases i with
   | zero => exact (show (0 : Int) ≤ 1 ∧ (1 : Int) < 256 from by decide)
   | succ i => exact dbl_byte _
  rw [exK_succ, rkK_succ, ← h, keys_round _ i _ hl hB (by omega) 16 (Nat.le_refl _), tms2 hrd]
theorem rkF_eq (key : List Int) (hk : key.length = 16) (hb : Bytes key) : rkF key = expF boxT key := by
 rw [rkF_is key 10 rfl, expF_is boxT key 10 rfl, keys_eq key hk hb 10 (Nat.le_refl _)]
end Go.Proofs.Ythieegnhjoehbaa
/- Plain: the program's blocks are the reference's. -/
namespace Go.Proofs.Ythieegnhjoehbaa
open Go.RowKit Go.Vc
set_option linter.unusedVariables false
/-! bytes as bit vectors -/
def byt (x : BitVec 8) : Int := (x.toNat : Int)
theorem byt_in (x : BitVec 8) : 0 ≤ byt x ∧ byt x < 256 := by
 unfold byt
 have := x.isLt
 omega
theorem byt_of {a : Int} (h : 0 ≤ a ∧ a < 256) : ∃ x : BitVec 8, a = byt x := by
 refine ⟨BitVec.ofNat 8 a.toNat, ?_⟩
 unfold byt
 rw [BitVec.toNat_ofNat]
 omega
theorem byt_inj {x y : BitVec 8} (h : byt x = byt y) : x = y := by
 unfold byt at h
 exact BitVec.eq_of_toNat_eq (by omega)
theorem xr_byt (x y : BitVec 8) : xr (byt x) (byt y) = byt (x ^^^ y) := by
 have h := u8_xor (byt x) (byt y) (byt_in x).1 (byt_in x).2 (byt_in y).1 (byt_in y).2
 show bits .xor .u8 (byt x) (byt y) = _
 rw [h]
 unfold byt
 rw [Int.toNat_natCast, Int.toNat_natCast, BitVec.toNat_xor]
def dv (x : BitVec 8) : BitVec 8 := (x <<< 1) ^^^ ((x >>> 7) * 27#8)
set_option maxRecDepth 100000 in
theorem dbl_all : ∀ n : Nat, n < 256 → dbl n = byt (dv (BitVec.ofNat 8 n)) := by decide +kernel
theorem dbl_byt (x : BitVec 8) : dbl (byt x) = byt (dv x) := by
 have := dbl_all x.toNat x.isLt
 rw [BitVec.ofNat_toNat, BitVec.setWidth_eq] at this
 exact this
theorem dv_xor_step (x y : BitVec 8) : ((x ^^^ y) >>> 7) * 27#8 = ((x >>> 7) * 27#8) ^^^ ((y >>> 7) * 27#8) := by
 have key : ∀ z : BitVec 8, z >>> 7 = 0#8 ∨ z >>> 7 = 1#8 := by
  intro z
  have h : (z >>> 7).toNat < 2 := by rw [BitVec.toNat_ushiftRight, Nat.shiftRight_eq_div_pow]; have := z.isLt; omega
  rcases Nat.lt_or_ge (z >>> 7).toNat 1 with h1 | h1
  ·exact .inl (BitVec.eq_of_toNat_eq (by show _ = 0; omega))
  ·exact .inr (BitVec.eq_of_toNat_eq (by show _ = 1; omega))
 rw [BitVec.ushiftRight_xor_distrib]
 rcases key x with h1 | h1 <;> rcases key y with h2 | h2 <;> rw [h1, h2] <;> decide
theorem dv_xor (x y : BitVec 8) : dv (x ^^^ y) = dv x ^^^ dv y := by
 unfold dv
 rw [dv_xor_step, BitVec.shiftLeft_xor_distrib]
 generalize x <<< 1 = a
 generalize y <<< 1 = b
 generalize (x >>> 7) * 27#8 = c
 generalize (y >>> 7) * 27#8 = d
 ext i hi
 simp only [BitVec.getElem_xor]
 cases a[i] <;> cases b[i] <;> cases c[i] <;> cases d[i] <;> rfl
/-! a column -/
theorem mix_eq0 (a b c d A B : BitVec 8) : (a ^^^ (((a ^^^ b) ^^^ c) ^^^ d)) ^^^ (A ^^^ B) = ((A ^^^ (B ^^^ b)) ^^^ c) ^^^ d := by
 ext i hi
 simp only [BitVec.getElem_xor]
 cases a[i] <;> cases b[i] <;> cases c[i] <;> cases d[i] <;> cases A[i] <;> cases B[i] <;> rfl
theorem mix_eq1 (a b c d A B : BitVec 8) : (b ^^^ (((a ^^^ b) ^^^ c) ^^^ d)) ^^^ (A ^^^ B) = ((A ^^^ (B ^^^ c)) ^^^ d) ^^^ a := by
 ext i hi
 simp only [BitVec.getElem_xor]
 cases a[i] <;> cases b[i] <;> cases c[i] <;> cases d[i] <;> cases A[i] <;> cases B[i] <;> rfl
theorem mix_eq2 (a b c d A B : BitVec 8) : (c ^^^ (((a ^^^ b) ^^^ c) ^^^ d)) ^^^ (A ^^^ B) = ((A ^^^ (B ^^^ d)) ^^^ a) ^^^ b := by
 ext i hi
 simp only [BitVec.getElem_xor]
 cases a[i] <;> cases b[i] <;> cases c[i] <;> cases d[i] <;> cases A[i] <;> cases B[i] <;> rfl
theorem mix_eq3 (a b c d A B : BitVec 8) : (d ^^^ (((a ^^^ b) ^^^ c) ^^^ d)) ^^^ (A ^^^ B) = ((A ^^^ (B ^^^ a)) ^^^ b) ^^^ c := by
 ext i hi
 simp only [BitVec.getElem_xor]
 cases a[i] <;> cases b[i] <;> cases c[i] <;> cases d[i] <;> cases A[i] <;> cases B[i] <;> rfl
/-- What the program makes of a column, and the reference. -/
def colP (a b c d : Int) : List Int := [xr (xr a (xr (xr (xr a b) c) d)) (dbl (xr a b)), xr (xr b (xr (xr (xr a b) c) d)) (dbl (xr b c)), xr (xr c (xr (xr (xr a b) c) d)) (dbl (xr c d)), xr (xr d (xr (xr (xr a b) c) d)) (dbl (xr d a))]
def colR (a b c d : Int) : List Int := [xr (xr (xr (tms a 2) (tms b 3)) c) d, xr (xr (xr (tms b 2) (tms c 3)) d) a, xr (xr (xr (tms c 2) (tms d 3)) a) b, xr (xr (xr (tms d 2) (tms a 3)) b) c]
theorem tms2_byt (x : BitVec 8) : tms (byt x) 2 = byt (dv x) := by rw [tms2 (byt_in x), dbl_byt]
theorem tms3_byt (x : BitVec 8) : tms (byt x) 3 = byt (dv x ^^^ x) := by rw [tms3 (byt_in x), dbl_byt, xr_byt]
theorem col_eq {a b c d : Int} (ha : 0 ≤ a ∧ a < 256) (hb : 0 ≤ b ∧ b < 256) (hc : 0 ≤ c ∧ c < 256) (hd : 0 ≤ d ∧ d < 256) : colP a b c d = colR a b c d := by
 obtain ⟨x, rfl⟩ := byt_of ha
 obtain ⟨y, rfl⟩ := byt_of hb
 obtain ⟨z, rfl⟩ := byt_of hc
 obtain ⟨u, rfl⟩ := byt_of hd
 unfold colP colR
 simp only [xr_byt, dbl_byt, tms2_byt, tms3_byt, dv_xor]
 rw [mix_eq0, mix_eq1, mix_eq2, mix_eq3]
/-! a round -/
theorem list16 (l : List Int) (h : l.length = 16) : ∃ a b c d e f g i j k m n o p q r : Int, l = [a, b, c, d, e, f, g, i, j, k, m, n, o, p, q, r] := by
 obtain _ | ⟨a, _ | ⟨b, _ | ⟨c, _ | ⟨d, _ | ⟨e, _ | ⟨f, _ | ⟨g, _ | ⟨i, _ | ⟨j, _ | ⟨k, _ | ⟨m, _ | ⟨n, _ | ⟨o, _ | ⟨p, _ | ⟨q, _ | ⟨r, _ | ⟨x, l⟩⟩⟩⟩⟩⟩⟩⟩⟩⟩⟩⟩⟩⟩⟩⟩⟩ := l <;> simp at h
 exact ⟨a, b, c, d, e, f, g, i, j, k, m, n, o, p, q, r, rfl⟩
theorem mc_is (a b c d e f g i j k m n o p q r : Int) :
  mcS [a, b, c, d, e, f, g, i, j, k, m, n, o, p, q, r] [a, b, c, d, e, f, g, i, j, k, m, n, o, p, q, r] 4 = colP a b c d ++ colP e f g i ++ colP j k m n ++ colP o p q r := rfl
theorem rm_is (a b c d e f g i j k m n o p q r : Int) :
  rmC [a, b, c, d, e, f, g, i, j, k, m, n, o, p, q, r] 4 = colR a b c d ++ colR e f g i ++ colR j k m n ++ colR o p q r := by kernel_rfl
theorem mix_eq (t : List Int) (h : t.length = 16) (hb : Bytes t) : mcS t t 4 = rmC t 4 := by
 obtain ⟨a, b, c, d, e, f, g, i, j, k, m, n, o, p, q, r, rfl⟩ := list16 t h
 rw [mc_is, rm_is]
 have B := fun x hx => hb x hx
 simp only [List.mem_cons, List.not_mem_nil, or_false] at B
 rw [col_eq (B a (by simp)) (B b (by simp)) (B c (by simp)) (B d (by simp)), col_eq (B e (by simp)) (B f (by simp)) (B g (by simp)) (B i (by simp)),
  col_eq (B j (by simp)) (B k (by simp)) (B m (by simp)) (B n (by simp)), col_eq (B o (by simp)) (B p (by simp)) (B q (by simp)) (B r (by simp))]
/-- Bytes out of a table, moved. -/
def moved (f : Int → Int) (a b c d e g h i j k m n o p q r : Int) : List Int := [f a, f g, f m, f r, f e, f k, f q, f d, f j, f p, f c, f i, f o, f b, f h, f n]
theorem sb_is (S : List Int) (a b c d e g h i j k m n o p q r : Int) :
  sbS S [a, b, c, d, e, g, h, i, j, k, m, n, o, p, q, r] 16 = moved (fun x => S.getD x.toNat 0) a b c d e g h i j k m n o p q r := rfl
theorem rs_is (a b c d e g h i j k m n o p q r : Int) :
  rsC [a, b, c, d, e, g, h, i, j, k, m, n, o, p, q, r] 4 = moved rbox a b c d e g h i j k m n o p q r := rfl
theorem sub_eq (t : List Int) (h : t.length = 16) (hb : Bytes t) : rsC t 4 = sbS boxT t 16 := by
 obtain ⟨a, b, c, d, e, f, g, i, j, k, m, n, o, p, q, r, rfl⟩ := list16 t h
 rw [sb_is, rs_is]
 have B := fun x hx => rbox_is (hb x hx)
 simp only [List.mem_cons, List.not_mem_nil, or_false] at B
 unfold moved
 rw [B a (by simp), B b (by simp), B c (by simp), B d (by simp), B e (by simp), B f (by simp), B g (by simp), B i (by simp),
  B j (by simp), B k (by simp), B m (by simp), B n (by simp), B o (by simp), B p (by simp), B q (by simp), B r (by simp)]
theorem ak_eq (K b : List Int) (n : Nat) : ∀ i, i ≤ 16 → akS K b n i = chS b ((K.drop (16 * n)).take 16) i := by
 intro i
 induction i with
 | zero => exact fun _ => rfl
 | succ i ih =>
  intro hi
  show (akS K b n i).set i (xr ((akS K b n i).getD i 0) (K.getD (16 * n + i) 0)) = (chS b ((K.drop (16 * n)).take 16) i).set i (xr ((chS b ((K.drop (16 * n)).take 16) i).getD i 0) (((K.drop (16 * n)).take 16).getD i 0))
  rw [ih (by omega), sub_getD _ _ _ (by omega)]
theorem rnd_eq (K b : List Int) (n : Nat) (h : b.length = 16) (hb : Bytes b) : rndS boxT K b n = rrnd K b n := by
 unfold rndS rrnd
 rw [ak_eq _ _ _ 16 (Nat.le_refl _), sub_eq b h hb, mix_eq _ (sbS_len ..) (sbS_bytes boxT b boxT_bytes 16)]
theorem blk_eq (K b : List Int) (h : b.length = 16) (hb : Bytes b) : ∀ n, blkS boxT K b n = rblk K b n := by
 intro n
 induction n with
 | zero => exact ak_eq K b 0 16 (Nat.le_refl _)
 | succ n ih =>
  show rndS boxT K (blkS boxT K b n) (n + 1) = rrnd K (rblk K b n) (n + 1)
  rw [rnd_eq K _ (n + 1) (blkS_len boxT K b h n) (blkS_bytes boxT K b hb boxT_bytes n), ih]
theorem rblkF_eq (K b : List Int) (h : b.length = 16) (hb : Bytes b) : rblkF K b = blkF boxT K b := by
 rw [rblkF_is K b 10 rfl, blkF_is boxT K b 10 rfl]
 exact (blk_eq K b h hb 10).symm
/-! a stream -/
theorem list8 (l : List Int) (h : l.length = 8) : ∃ a b c d e f g i : Int, l = [a, b, c, d, e, f, g, i] := by
 obtain _ | ⟨a, _ | ⟨b, _ | ⟨c, _ | ⟨d, _ | ⟨e, _ | ⟨f, _ | ⟨g, _ | ⟨i, _ | ⟨x, l⟩⟩⟩⟩⟩⟩⟩⟩⟩ := l <;> simp at h
 exact ⟨a, b, c, d, e, f, g, i, rfl⟩
theorem xb_eq (A : List Int) (n : Int) (h : A.length = 8) : rxL A n 8 = xbL A n 8 := by
 obtain ⟨a, b, c, d, e, f, g, i, rfl⟩ := list8 A h
 kernel_rfl
theorem routF_eq (key A bs : List Int) (c : Int) (hk : key.length = 16) (hkb : Bytes key) (hA : A.length = 8) (hAb : Bytes A) : routF key A bs c = outF key A bs c := by
 unfold routF outF
 refine List.map_congr_left fun i _ => ?_
 unfold routAt outAt strAt rstrB strB
 rw [rkF_eq key hk hkb, xb_eq A _ hA, rblkF_eq _ _ (xbL_len A _ hA 8) (xbL_bytes A _ hAb 8)]
end Go.Proofs.Ythieegnhjoehbaa
/- Plain: a stream's parts; a block's way back. -/
namespace Go.Proofs.Ythieegnhjoehbaa
open Go.RowKit Go.Vc
set_option linter.unusedVariables false
/-! a stream goes on, block by block -/
theorem ctr_is (c : Int) (q : Nat) : ctr (IntKind.u64.wrap c) q = IntKind.u64.wrap (c + q) := by
 induction q with
 | zero => show IntKind.u64.wrap c = _; simp
 | succ q ih =>
  show IntKind.u64.wrap (ctr (IntKind.u64.wrap c) q + 1) = _
  rw [ih]
  simp only [IntKind.wrap_u64]
  omega
theorem strB_add (key A : List Int) (c : Int) (k q : Nat) : strB key A (IntKind.u64.wrap (c + k)) q = strB key A (IntKind.u64.wrap c) (k + q) := by
 unfold strB
 rw [ctr_is, ctr_is, show c + (k : Int) + (q : Int) = c + ((k + q : Nat) : Int) by omega]
theorem strAt_add (key A : List Int) (c : Int) (k i : Nat) : strAt key A (IntKind.u64.wrap (c + k)) i = strAt key A (IntKind.u64.wrap c) (16 * k + i) := by
 unfold strAt
 rw [strB_add, show (16 * k + i) / 16 = k + i / 16 by omega, show (16 * k + i) % 16 = i % 16 by omega]
theorem outF_get (key A bs : List Int) (c : Int) (i : Nat) : (outF key A bs c)[i]? = if i < bs.length then some (outAt key A bs c i) else none := by
 unfold outF
 by_cases h : i < bs.length
 ·simp [h]
 ·simp [h]
theorem outF_parts (key A bs : List Int) (c : Int) (k : Nat) (h : 16 * k ≤ bs.length) : outF key A (bs.take (16 * k)) c ++ outF key A (bs.drop (16 * k)) (c + k) = outF key A bs c := by
 apply List.ext_getElem?
 intro i
 have hl : (outF key A (bs.take (16 * k)) c).length = 16 * k := by rw [outF_len, List.length_take]; omega
 by_cases hi : i < 16 * k
 ·rw [List.getElem?_append_left (by omega), outF_get, outF_get, if_pos (by rw [List.length_take]; omega), if_pos (by omega)]
  unfold outAt
  congr 2
  simp [hi]
 ·rw [List.getElem?_append_right (by omega), hl, outF_get, outF_get, List.length_drop]
  by_cases hb : i < bs.length
  ·rw [if_pos (by omega), if_pos hb]
   unfold outAt
   rw [strAt_add, show 16 * k + (i - 16 * k) = i by omega]
   congr 2
   simp only [List.getD_eq_getElem?_getD, List.getElem?_drop]
   rw [show 16 * k + (i - 16 * k) = i by omega]
  ·rw [if_neg (by omega), if_neg hb]
/-! a block's way back -/
theorem xr_cancel {a b k : Int} (ha : 0 ≤ a ∧ a < 256) (hb : 0 ≤ b ∧ b < 256) (hk : 0 ≤ k ∧ k < 256) (h : xr a k = xr b k) : a = b := by
 have h1 := xor_back a k ha hk
 have h2 := xor_back b k hb hk
 rw [← h1, ← h2]
 exact congrArg (fun x => bits .xor .u8 x k) h
theorem xcl (a b : BitVec 8) : a ^^^ (a ^^^ b) = b := by rw [← BitVec.xor_assoc, BitVec.xor_self, BitVec.zero_xor]
theorem xlc (a b c : BitVec 8) : a ^^^ (b ^^^ c) = b ^^^ (a ^^^ c) := by rw [← BitVec.xor_assoc, ← BitVec.xor_assoc, BitVec.xor_comm a b]
structure V4 where
 a : BitVec 8
 b : BitVec 8
 c : BitVec 8
 d : BitVec 8
def colV (v : V4) : V4 := ⟨((dv v.a ^^^ (dv v.b ^^^ v.b)) ^^^ v.c) ^^^ v.d, ((dv v.b ^^^ (dv v.c ^^^ v.c)) ^^^ v.d) ^^^ v.a, ((dv v.c ^^^ (dv v.d ^^^ v.d)) ^^^ v.a) ^^^ v.b, ((dv v.d ^^^ (dv v.a ^^^ v.a)) ^^^ v.b) ^^^ v.c⟩
def colV2 (v : V4) : V4 := ⟨v.a ^^^ (dv (dv v.a) ^^^ dv (dv v.c)), v.b ^^^ (dv (dv v.b) ^^^ dv (dv v.d)), v.c ^^^ (dv (dv v.c) ^^^ dv (dv v.a)), v.d ^^^ (dv (dv v.d) ^^^ dv (dv v.b))⟩
theorem colV_two (v : V4) : colV (colV v) = colV2 v := by
 unfold colV colV2
 congr 1 <;> simp only [dv_xor] <;> simp [BitVec.xor_assoc, BitVec.xor_comm, xlc, xcl]
theorem colV2_two (v : V4) : colV2 (colV2 v) = v := by
 obtain ⟨a, b, c, d⟩ := v
 unfold colV2
 congr 1 <;> simp only [dv_xor] <;> simp [BitVec.xor_assoc, BitVec.xor_comm, xlc]
theorem colV_inj {v w : V4} (h : colV v = colV w) : v = w := by
 rw [← colV2_two v, ← colV2_two w, ← colV_two v, ← colV_two w, h]
theorem colP_inj {a b c d a' b' c' d' : Int} (ha : 0 ≤ a ∧ a < 256) (hb : 0 ≤ b ∧ b < 256) (hc : 0 ≤ c ∧ c < 256) (hd : 0 ≤ d ∧ d < 256)
  (ha' : 0 ≤ a' ∧ a' < 256) (hb' : 0 ≤ b' ∧ b' < 256) (hc' : 0 ≤ c' ∧ c' < 256) (hd' : 0 ≤ d' ∧ d' < 256) (h : colP a b c d = colP a' b' c' d') : a = a' ∧ b = b' ∧ c = c' ∧ d = d' := by
 rw [col_eq ha hb hc hd, col_eq ha' hb' hc' hd'] at h
 obtain ⟨x, rfl⟩ := byt_of ha
 obtain ⟨y, rfl⟩ := byt_of hb
 obtain ⟨z, rfl⟩ := byt_of hc
 obtain ⟨u, rfl⟩ := byt_of hd
 obtain ⟨x', rfl⟩ := byt_of ha'
 obtain ⟨y', rfl⟩ := byt_of hb'
 obtain ⟨z', rfl⟩ := byt_of hc'
 obtain ⟨u', rfl⟩ := byt_of hd'
 unfold colR at h
 simp only [xr_byt, tms2_byt, tms3_byt, List.cons.injEq, and_true] at h
 have h' : colV ⟨x, y, z, u⟩ = colV ⟨x', y', z', u'⟩ := by
  unfold colV
  dsimp only
  rw [byt_inj h.1, byt_inj h.2.1, byt_inj h.2.2.1, byt_inj h.2.2.2]
 have e := colV_inj h'
 cases e
 exact ⟨rfl, rfl, rfl, rfl⟩
set_option maxRecDepth 100000 in
theorem box_back : ∀ n : Nat, n < 256 → boxL.idxOf (boxL.getD n 0) = n := by decide +kernel
theorem box_inj {a b : Int} (ha : 0 ≤ a ∧ a < 256) (hb : 0 ≤ b ∧ b < 256) (h : boxT.getD a.toNat 0 = boxT.getD b.toNat 0) : a = b := by
 rw [boxT_lit] at h
 have h1 := box_back a.toNat (by omega)
 have h2 := box_back b.toNat (by omega)
 rw [h, h2] at h1
 omega
theorem ch_is (K : List Int) (a b c d e f g i j k m n o p q r : Int) :
  chS [a, b, c, d, e, f, g, i, j, k, m, n, o, p, q, r] K 16 = [xr a (K.getD 0 0), xr b (K.getD 1 0), xr c (K.getD 2 0), xr d (K.getD 3 0), xr e (K.getD 4 0), xr f (K.getD 5 0), xr g (K.getD 6 0), xr i (K.getD 7 0),
   xr j (K.getD 8 0), xr k (K.getD 9 0), xr m (K.getD 10 0), xr n (K.getD 11 0), xr o (K.getD 12 0), xr p (K.getD 13 0), xr q (K.getD 14 0), xr r (K.getD 15 0)] := by kernel_rfl
theorem ak_inj (K b b' : List Int) (n : Nat) (hK : Bytes K) (h : b.length = 16) (hb : Bytes b) (h' : b'.length = 16) (hb' : Bytes b') (he : akS K b n 16 = akS K b' n 16) : b = b' := by
 rw [ak_eq _ _ _ 16 (Nat.le_refl _), ak_eq _ _ _ 16 (Nat.le_refl _)] at he
 have hk := fun i => (hK.sub (16 * n) 16).at i
 generalize (K.drop (16 * n)).take 16 = k at he hk
 obtain ⟨a0, a1, a2, a3, a4, a5, a6, a7, a8, a9, a10, a11, a12, a13, a14, a15, rfl⟩ := list16 b h
 obtain ⟨b0, b1, b2, b3, b4, b5, b6, b7, b8, b9, b10, b11, b12, b13, b14, b15, rfl⟩ := list16 b' h'
 rw [ch_is, ch_is] at he
 simp only [List.cons.injEq, and_true] at he
 obtain ⟨e0, e1, e2, e3, e4, e5, e6, e7, e8, e9, e10, e11, e12, e13, e14, e15⟩ := he
 have A := fun x hx => hb x hx
 have C := fun x hx => hb' x hx
 simp only [List.mem_cons, List.not_mem_nil, or_false] at A C
 rw [xr_cancel (A a0 (by simp)) (C b0 (by simp)) (hk 0) e0, xr_cancel (A a1 (by simp)) (C b1 (by simp)) (hk 1) e1, xr_cancel (A a2 (by simp)) (C b2 (by simp)) (hk 2) e2, xr_cancel (A a3 (by simp)) (C b3 (by simp)) (hk 3) e3,
  xr_cancel (A a4 (by simp)) (C b4 (by simp)) (hk 4) e4, xr_cancel (A a5 (by simp)) (C b5 (by simp)) (hk 5) e5, xr_cancel (A a6 (by simp)) (C b6 (by simp)) (hk 6) e6, xr_cancel (A a7 (by simp)) (C b7 (by simp)) (hk 7) e7,
  xr_cancel (A a8 (by simp)) (C b8 (by simp)) (hk 8) e8, xr_cancel (A a9 (by simp)) (C b9 (by simp)) (hk 9) e9, xr_cancel (A a10 (by simp)) (C b10 (by simp)) (hk 10) e10, xr_cancel (A a11 (by simp)) (C b11 (by simp)) (hk 11) e11,
  xr_cancel (A a12 (by simp)) (C b12 (by simp)) (hk 12) e12, xr_cancel (A a13 (by simp)) (C b13 (by simp)) (hk 13) e13, xr_cancel (A a14 (by simp)) (C b14 (by simp)) (hk 14) e14, xr_cancel (A a15 (by simp)) (C b15 (by simp)) (hk 15) e15]
theorem mc_inj (b b' : List Int) (h : b.length = 16) (hb : Bytes b) (h' : b'.length = 16) (hb' : Bytes b') (he : mcS b b 4 = mcS b' b' 4) : b = b' := by
 obtain ⟨a0, a1, a2, a3, a4, a5, a6, a7, a8, a9, a10, a11, a12, a13, a14, a15, rfl⟩ := list16 b h
 obtain ⟨b0, b1, b2, b3, b4, b5, b6, b7, b8, b9, b10, b11, b12, b13, b14, b15, rfl⟩ := list16 b' h'
 rw [mc_is, mc_is] at he
 have A := fun x hx => hb x hx
 have C := fun x hx => hb' x hx
 simp only [List.mem_cons, List.not_mem_nil, or_false] at A C
 obtain ⟨he, g3⟩ := List.append_inj he rfl
 obtain ⟨he, g2⟩ := List.append_inj he rfl
 obtain ⟨g0, g1⟩ := List.append_inj he rfl
 obtain ⟨rfl, rfl, rfl, rfl⟩ := colP_inj (A _ (by simp)) (A _ (by simp)) (A _ (by simp)) (A _ (by simp)) (C _ (by simp)) (C _ (by simp)) (C _ (by simp)) (C _ (by simp)) g0
 obtain ⟨rfl, rfl, rfl, rfl⟩ := colP_inj (A _ (by simp)) (A _ (by simp)) (A _ (by simp)) (A _ (by simp)) (C _ (by simp)) (C _ (by simp)) (C _ (by simp)) (C _ (by simp)) g1
 obtain ⟨rfl, rfl, rfl, rfl⟩ := colP_inj (A _ (by simp)) (A _ (by simp)) (A _ (by simp)) (A _ (by simp)) (C _ (by simp)) (C _ (by simp)) (C _ (by simp)) (C _ (by simp)) g2
 obtain ⟨rfl, rfl, rfl, rfl⟩ := colP_inj (A _ (by simp)) (A _ (by simp)) (A _ (by simp)) (A _ (by simp)) (C _ (by simp)) (C _ (by simp)) (C _ (by simp)) (C _ (by simp)) g3
 rfl
theorem sb_inj (b b' : List Int) (h : b.length = 16) (hb : Bytes b) (h' : b'.length = 16) (hb' : Bytes b') (he : sbS boxT b 16 = sbS boxT b' 16) : b = b' := by
 obtain ⟨a0, a1, a2, a3, a4, a5, a6, a7, a8, a9, a10, a11, a12, a13, a14, a15, rfl⟩ := list16 b h
 obtain ⟨b0, b1, b2, b3, b4, b5, b6, b7, b8, b9, b10, b11, b12, b13, b14, b15, rfl⟩ := list16 b' h'
 rw [sb_is, sb_is] at he
 have A := fun x hx => hb x hx
 have C := fun x hx => hb' x hx
 simp only [List.mem_cons, List.not_mem_nil, or_false] at A C
 unfold moved at he
 simp only [List.cons.injEq, and_true] at he
 obtain ⟨e0, e1, e2, e3, e4, e5, e6, e7, e8, e9, e10, e11, e12, e13, e14, e15⟩ := he
 obtain rfl := box_inj (A _ (by simp)) (C _ (by simp)) e0
 obtain rfl := box_inj (A _ (by simp)) (C _ (by simp)) e1
 obtain rfl := box_inj (A _ (by simp)) (C _ (by simp)) e2
 obtain rfl := box_inj (A _ (by simp)) (C _ (by simp)) e3
 obtain rfl := box_inj (A _ (by simp)) (C _ (by simp)) e4
 obtain rfl := box_inj (A _ (by simp)) (C _ (by simp)) e5
 obtain rfl := box_inj (A _ (by simp)) (C _ (by simp)) e6
 obtain rfl := box_inj (A _ (by simp)) (C _ (by simp)) e7
 obtain rfl := box_inj (A _ (by simp)) (C _ (by simp)) e8
 obtain rfl := box_inj (A _ (by simp)) (C _ (by simp)) e9
 obtain rfl := box_inj (A _ (by simp)) (C _ (by simp)) e10
 obtain rfl := box_inj (A _ (by simp)) (C _ (by simp)) e11
 obtain rfl := box_inj (A _ (by simp)) (C _ (by simp)) e12
 obtain rfl := box_inj (A _ (by simp)) (C _ (by simp)) e13
 obtain rfl := box_inj (A _ (by simp)) (C _ (by simp)) e14
 obtain rfl := box_inj (A _ (by simp)) (C _ (by simp)) e15
 rfl
theorem rnd_inj (K b b' : List Int) (n : Nat) (hK : Bytes K) (h : b.length = 16) (hb : Bytes b) (h' : b'.length = 16) (hb' : Bytes b') (he : rndS boxT K b n = rndS boxT K b' n) : b = b' := by
 unfold rndS at he
 have L := fun x => sbS_len boxT x 16
 have S := fun x => sbS_bytes boxT x boxT_bytes 16
 by_cases hn : n < 10
 ·rw [if_pos hn, if_pos hn] at he
  have e1 := ak_inj K _ _ n hK (by rw [mcS_len]; exact L b) (mcS_bytes _ _ (S b) 4) (by rw [mcS_len]; exact L b') (mcS_bytes _ _ (S b') 4) he
  exact sb_inj b b' h hb h' hb' (mc_inj _ _ (L b) (S b) (L b') (S b') e1)
 ·rw [if_neg hn, if_neg hn] at he
  exact sb_inj b b' h hb h' hb' (ak_inj K _ _ n hK (L b) (S b) (L b') (S b') he)
theorem blkS_inj (K b b' : List Int) (hK : Bytes K) (h : b.length = 16) (hb : Bytes b) (h' : b'.length = 16) (hb' : Bytes b') : ∀ n, blkS boxT K b n = blkS boxT K b' n → b = b' := by
 intro n
 induction n with
 | zero => exact fun he => ak_inj K b b' 0 hK h hb h' hb' he
 | succ n ih =>
  exact fun he => ih (rnd_inj K _ _ (n + 1) hK (blkS_len boxT K b h n) (blkS_bytes boxT K b hb boxT_bytes n) (blkS_len boxT K b' h' n) (blkS_bytes boxT K b' hb' boxT_bytes n) he)
theorem blkF_inj (K b b' : List Int) (hK : Bytes K) (h : b.length = 16) (hb : Bytes b) (h' : b'.length = 16) (hb' : Bytes b') : blkF boxT K b = blkF boxT K b' ↔ b = b' := by
 rw [blkF_is boxT K b 10 rfl, blkF_is boxT K b' 10 rfl]
 exact ⟨blkS_inj K b b' hK h hb h' hb' 10, fun e => by rw [e]⟩
end Go.Proofs.Ythieegnhjoehbaa
