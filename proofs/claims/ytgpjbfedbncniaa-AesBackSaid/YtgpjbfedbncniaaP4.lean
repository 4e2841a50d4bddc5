/- Plain: the program's blocks are the reference's. -/
import Derived.Test.YtgpjbfedbncniaaP3
namespace Go.Proofs.Ytgpjbfedbncniaa
open Go.RowKit Go.Vc
set_option linter.unusedVariables false

/-! bytes as bit vectors -/
def byt (x : BitVec 8) : Int := (x.toNat : Int)
theorem byt_in (x : BitVec 8) : 0 ≤ byt x ∧ byt x < 256 := by
  unfold byt
  have := x.isLt
  omega
theorem byt_of {a : Int} (h : 0 ≤ a ∧ a < 256) : ∃ x : BitVec 8, a = byt x := by
  refine ⟨BitVec.ofNat 8 a.toNat, ?_⟩
  unfold byt
  rw [BitVec.toNat_ofNat]
  omega
theorem byt_inj {x y : BitVec 8} (h : byt x = byt y) : x = y := by
  unfold byt at h
  exact BitVec.eq_of_toNat_eq (by omega)
theorem xr_byt (x y : BitVec 8) : xr (byt x) (byt y) = byt (x ^^^ y) := by
  have h := u8_xor (byt x) (byt y) (byt_in x).1 (byt_in x).2 (byt_in y).1 (byt_in y).2
  show bits .xor .u8 (byt x) (byt y) = _
  rw [h]
  unfold byt
  rw [Int.toNat_natCast, Int.toNat_natCast, BitVec.toNat_xor]
def dv (x : BitVec 8) : BitVec 8 := (x <<< 1) ^^^ ((x >>> 7) * 27#8)
set_option maxRecDepth 100000 in
theorem dbl_all : ∀ n : Nat, n < 256 → dbl n = byt (dv (BitVec.ofNat 8 n)) := by decide +kernel
theorem dbl_byt (x : BitVec 8) : dbl (byt x) = byt (dv x) := by
  have := dbl_all x.toNat x.isLt
  rw [BitVec.ofNat_toNat, BitVec.setWidth_eq] at this
  exact this
theorem dv_xor_step (x y : BitVec 8) : ((x ^^^ y) >>> 7) * 27#8 = ((x >>> 7) * 27#8) ^^^ ((y >>> 7) * 27#8) := by
  have key : ∀ z : BitVec 8, z >>> 7 = 0#8 ∨ z >>> 7 = 1#8 := by
    intro z
    have h : (z >>> 7).toNat < 2 := by rw [BitVec.toNat_ushiftRight, Nat.shiftRight_eq_div_pow]; have := z.isLt; omega
    rcases Nat.lt_or_ge (z >>> 7).toNat 1 with h1 | h1
    · exact .inl (BitVec.eq_of_toNat_eq (by show _ = 0; omega))
    · exact .inr (BitVec.eq_of_toNat_eq (by show _ = 1; omega))
  rw [BitVec.ushiftRight_xor_distrib]
  rcases key x with h1 | h1 <;> rcases key y with h2 | h2 <;> rw [h1, h2] <;> decide
theorem dv_xor (x y : BitVec 8) : dv (x ^^^ y) = dv x ^^^ dv y := by
  unfold dv
  rw [dv_xor_step, BitVec.shiftLeft_xor_distrib]
  generalize x <<< 1 = a
  generalize y <<< 1 = b
  generalize (x >>> 7) * 27#8 = c
  generalize (y >>> 7) * 27#8 = d
  ext i hi
  simp only [BitVec.getElem_xor]
  cases a[i] <;> cases b[i] <;> cases c[i] <;> cases d[i] <;> rfl

/-! a column -/
theorem mix_eq0 (a b c d A B : BitVec 8) : (a ^^^ (((a ^^^ b) ^^^ c) ^^^ d)) ^^^ (A ^^^ B) = ((A ^^^ (B ^^^ b)) ^^^ c) ^^^ d := by
  ext i hi
  simp only [BitVec.getElem_xor]
  cases a[i] <;> cases b[i] <;> cases c[i] <;> cases d[i] <;> cases A[i] <;> cases B[i] <;> rfl
theorem mix_eq1 (a b c d A B : BitVec 8) : (b ^^^ (((a ^^^ b) ^^^ c) ^^^ d)) ^^^ (A ^^^ B) = ((A ^^^ (B ^^^ c)) ^^^ d) ^^^ a := by
  ext i hi
  simp only [BitVec.getElem_xor]
  cases a[i] <;> cases b[i] <;> cases c[i] <;> cases d[i] <;> cases A[i] <;> cases B[i] <;> rfl
theorem mix_eq2 (a b c d A B : BitVec 8) : (c ^^^ (((a ^^^ b) ^^^ c) ^^^ d)) ^^^ (A ^^^ B) = ((A ^^^ (B ^^^ d)) ^^^ a) ^^^ b := by
  ext i hi
  simp only [BitVec.getElem_xor]
  cases a[i] <;> cases b[i] <;> cases c[i] <;> cases d[i] <;> cases A[i] <;> cases B[i] <;> rfl
theorem mix_eq3 (a b c d A B : BitVec 8) : (d ^^^ (((a ^^^ b) ^^^ c) ^^^ d)) ^^^ (A ^^^ B) = ((A ^^^ (B ^^^ a)) ^^^ b) ^^^ c := by
  ext i hi
  simp only [BitVec.getElem_xor]
  cases a[i] <;> cases b[i] <;> cases c[i] <;> cases d[i] <;> cases A[i] <;> cases B[i] <;> rfl
/-- What the program makes of a column, and the reference. -/
def colP (a b c d : Int) : List Int := [xr (xr a (xr (xr (xr a b) c) d)) (dbl (xr a b)), xr (xr b (xr (xr (xr a b) c) d)) (dbl (xr b c)), xr (xr c (xr (xr (xr a b) c) d)) (dbl (xr c d)), xr (xr d (xr (xr (xr a b) c) d)) (dbl (xr d a))]
def colR (a b c d : Int) : List Int := [xr (xr (xr (tms a 2) (tms b 3)) c) d, xr (xr (xr (tms b 2) (tms c 3)) d) a, xr (xr (xr (tms c 2) (tms d 3)) a) b, xr (xr (xr (tms d 2) (tms a 3)) b) c]
theorem tms2_byt (x : BitVec 8) : tms (byt x) 2 = byt (dv x) := by rw [tms2 (byt_in x), dbl_byt]
theorem tms3_byt (x : BitVec 8) : tms (byt x) 3 = byt (dv x ^^^ x) := by rw [tms3 (byt_in x), dbl_byt, xr_byt]
theorem col_eq {a b c d : Int} (ha : 0 ≤ a ∧ a < 256) (hb : 0 ≤ b ∧ b < 256) (hc : 0 ≤ c ∧ c < 256) (hd : 0 ≤ d ∧ d < 256) : colP a b c d = colR a b c d := by
  obtain ⟨x, rfl⟩ := byt_of ha
  obtain ⟨y, rfl⟩ := byt_of hb
  obtain ⟨z, rfl⟩ := byt_of hc
  obtain ⟨u, rfl⟩ := byt_of hd
  unfold colP colR
  simp only [xr_byt, dbl_byt, tms2_byt, tms3_byt, dv_xor]
  rw [mix_eq0, mix_eq1, mix_eq2, mix_eq3]

/-! a round -/
theorem list16 (l : List Int) (h : l.length = 16) : ∃ a b c d e f g i j k m n o p q r : Int, l = [a, b, c, d, e, f, g, i, j, k, m, n, o, p, q, r] := by
  obtain _ | ⟨a, _ | ⟨b, _ | ⟨c, _ | ⟨d, _ | ⟨e, _ | ⟨f, _ | ⟨g, _ | ⟨i, _ | ⟨j, _ | ⟨k, _ | ⟨m, _ | ⟨n, _ | ⟨o, _ | ⟨p, _ | ⟨q, _ | ⟨r, _ | ⟨x, l⟩⟩⟩⟩⟩⟩⟩⟩⟩⟩⟩⟩⟩⟩⟩⟩⟩ := l <;> simp at h
  exact ⟨a, b, c, d, e, f, g, i, j, k, m, n, o, p, q, r, rfl⟩
theorem mc_is (a b c d e f g i j k m n o p q r : Int) :
    mcS [a, b, c, d, e, f, g, i, j, k, m, n, o, p, q, r] [a, b, c, d, e, f, g, i, j, k, m, n, o, p, q, r] 4 = colP a b c d ++ colP e f g i ++ colP j k m n ++ colP o p q r := rfl
theorem rm_is (a b c d e f g i j k m n o p q r : Int) :
    rmC [a, b, c, d, e, f, g, i, j, k, m, n, o, p, q, r] 4 = colR a b c d ++ colR e f g i ++ colR j k m n ++ colR o p q r := by kernel_rfl
theorem mix_eq (t : List Int) (h : t.length = 16) (hb : Bytes t) : mcS t t 4 = rmC t 4 := by
  obtain ⟨a, b, c, d, e, f, g, i, j, k, m, n, o, p, q, r, rfl⟩ := list16 t h
  rw [mc_is, rm_is]
  have B := fun x hx => hb x hx
  simp only [List.mem_cons, List.not_mem_nil, or_false] at B
  rw [col_eq (B a (by simp)) (B b (by simp)) (B c (by simp)) (B d (by simp)), col_eq (B e (by simp)) (B f (by simp)) (B g (by simp)) (B i (by simp)),
    col_eq (B j (by simp)) (B k (by simp)) (B m (by simp)) (B n (by simp)), col_eq (B o (by simp)) (B p (by simp)) (B q (by simp)) (B r (by simp))]
/-- Bytes out of a table, moved. -/
def moved (f : Int → Int) (a b c d e g h i j k m n o p q r : Int) : List Int := [f a, f g, f m, f r, f e, f k, f q, f d, f j, f p, f c, f i, f o, f b, f h, f n]
theorem sb_is (S : List Int) (a b c d e g h i j k m n o p q r : Int) :
    sbS S [a, b, c, d, e, g, h, i, j, k, m, n, o, p, q, r] 16 = moved (fun x => S.getD x.toNat 0) a b c d e g h i j k m n o p q r := rfl
theorem rs_is (a b c d e g h i j k m n o p q r : Int) :
    rsC [a, b, c, d, e, g, h, i, j, k, m, n, o, p, q, r] 4 = moved rbox a b c d e g h i j k m n o p q r := rfl
theorem sub_eq (t : List Int) (h : t.length = 16) (hb : Bytes t) : rsC t 4 = sbS boxT t 16 := by
  obtain ⟨a, b, c, d, e, f, g, i, j, k, m, n, o, p, q, r, rfl⟩ := list16 t h
  rw [sb_is, rs_is]
  have B := fun x hx => rbox_is (hb x hx)
  simp only [List.mem_cons, List.not_mem_nil, or_false] at B
  unfold moved
  rw [B a (by simp), B b (by simp), B c (by simp), B d (by simp), B e (by simp), B f (by simp), B g (by simp), B i (by simp),
    B j (by simp), B k (by simp), B m (by simp), B n (by simp), B o (by simp), B p (by simp), B q (by simp), B r (by simp)]
theorem ak_eq (K b : List Int) (n : Nat) : ∀ i, i ≤ 16 → akS K b n i = chS b ((K.drop (16 * n)).take 16) i := by
  intro i
  induction i with
  | zero => exact fun _ => rfl
  | succ i ih =>
    intro hi
    show (akS K b n i).set i (xr ((akS K b n i).getD i 0) (K.getD (16 * n + i) 0)) = (chS b ((K.drop (16 * n)).take 16) i).set i (xr ((chS b ((K.drop (16 * n)).take 16) i).getD i 0) (((K.drop (16 * n)).take 16).getD i 0))
    rw [ih (by omega), sub_getD _ _ _ (by omega)]
theorem rnd_eq (K b : List Int) (n : Nat) (h : b.length = 16) (hb : Bytes b) : rndS boxT K b n = rrnd K b n := by
  unfold rndS rrnd
  rw [ak_eq _ _ _ 16 (Nat.le_refl _), sub_eq b h hb, mix_eq _ (sbS_len ..) (sbS_bytes boxT b boxT_bytes 16)]
theorem blk_eq (K b : List Int) (h : b.length = 16) (hb : Bytes b) : ∀ n, blkS boxT K b n = rblk K b n := by
  intro n
  induction n with
  | zero => exact ak_eq K b 0 16 (Nat.le_refl _)
  | succ n ih =>
    show rndS boxT K (blkS boxT K b n) (n + 1) = rrnd K (rblk K b n) (n + 1)
    rw [rnd_eq K _ (n + 1) (blkS_len boxT K b h n) (blkS_bytes boxT K b hb boxT_bytes n), ih]
theorem rblkF_eq (K b : List Int) (h : b.length = 16) (hb : Bytes b) : rblkF K b = blkF boxT K b := by
  rw [rblkF_is K b 10 rfl, blkF_is boxT K b 10 rfl]
  exact (blk_eq K b h hb 10).symm

/-! a stream -/
theorem list8 (l : List Int) (h : l.length = 8) : ∃ a b c d e f g i : Int, l = [a, b, c, d, e, f, g, i] := by
  obtain _ | ⟨a, _ | ⟨b, _ | ⟨c, _ | ⟨d, _ | ⟨e, _ | ⟨f, _ | ⟨g, _ | ⟨i, _ | ⟨x, l⟩⟩⟩⟩⟩⟩⟩⟩⟩ := l <;> simp at h
  exact ⟨a, b, c, d, e, f, g, i, rfl⟩
theorem xb_eq (A : List Int) (n : Int) (h : A.length = 8) : rxL A n 8 = xbL A n 8 := by
  obtain ⟨a, b, c, d, e, f, g, i, rfl⟩ := list8 A h
  kernel_rfl
theorem routF_eq (key A bs : List Int) (c : Int) (hk : key.length = 16) (hkb : Bytes key) (hA : A.length = 8) (hAb : Bytes A) : routF key A bs c = outF key A bs c := by
  unfold routF outF
  refine List.map_congr_left fun i _ => ?_
  unfold routAt outAt strAt rstrB strB
  rw [rkF_eq key hk hkb, xb_eq A _ hA, rblkF_eq _ _ (xbL_len A _ hA 8) (xbL_bytes A _ hAb 8)]
end Go.Proofs.Ytgpjbfedbncniaa
