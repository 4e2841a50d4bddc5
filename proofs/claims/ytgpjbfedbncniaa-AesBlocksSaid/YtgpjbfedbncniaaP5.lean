/- Plain: a stream's parts; a block's way back. -/
import Derived.Test.YtgpjbfedbncniaaP4
import Derived.Test.YtgpjbfedbncniaaA9
namespace Go.Proofs.Ytgpjbfedbncniaa
open Go.RowKit Go.Vc
set_option linter.unusedVariables false

/-! a stream goes on, block by block -/
theorem ctr_is (c : Int) (q : Nat) : ctr (IntKind.u64.wrap c) q = IntKind.u64.wrap (c + q) := by
  induction q with
  | zero => show IntKind.u64.wrap c = _; simp
  | succ q ih =>
    show IntKind.u64.wrap (ctr (IntKind.u64.wrap c) q + 1) = _
    rw [ih]
    simp only [IntKind.wrap_u64]
    omega
theorem strB_add (key A : List Int) (c : Int) (k q : Nat) : strB key A (IntKind.u64.wrap (c + k)) q = strB key A (IntKind.u64.wrap c) (k + q) := by
  unfold strB
  rw [ctr_is, ctr_is, show c + (k : Int) + (q : Int) = c + ((k + q : Nat) : Int) by omega]
theorem strAt_add (key A : List Int) (c : Int) (k i : Nat) : strAt key A (IntKind.u64.wrap (c + k)) i = strAt key A (IntKind.u64.wrap c) (16 * k + i) := by
  unfold strAt
  rw [strB_add, show (16 * k + i) / 16 = k + i / 16 by omega, show (16 * k + i) % 16 = i % 16 by omega]
theorem outF_get (key A bs : List Int) (c : Int) (i : Nat) : (outF key A bs c)[i]? = if i < bs.length then some (outAt key A bs c i) else none := by
  unfold outF
  by_cases h : i < bs.length
  · simp [h]
  · simp [h]
theorem outF_parts (key A bs : List Int) (c : Int) (k : Nat) (h : 16 * k ≤ bs.length) : outF key A (bs.take (16 * k)) c ++ outF key A (bs.drop (16 * k)) (c + k) = outF key A bs c := by
  apply List.ext_getElem?
  intro i
  have hl : (outF key A (bs.take (16 * k)) c).length = 16 * k := by rw [outF_len, List.length_take]; omega
  by_cases hi : i < 16 * k
  · rw [List.getElem?_append_left (by omega), outF_get, outF_get, if_pos (by rw [List.length_take]; omega), if_pos (by omega)]
    unfold outAt
    congr 2
    simp [hi]
  · rw [List.getElem?_append_right (by omega), hl, outF_get, outF_get, List.length_drop]
    by_cases hb : i < bs.length
    · rw [if_pos (by omega), if_pos hb]
      unfold outAt
      rw [strAt_add, show 16 * k + (i - 16 * k) = i by omega]
      congr 2
      simp only [List.getD_eq_getElem?_getD, List.getElem?_drop]
      rw [show 16 * k + (i - 16 * k) = i by omega]
    · rw [if_neg (by omega), if_neg hb]

/-! a block's way back -/
theorem xr_cancel {a b k : Int} (ha : 0 ≤ a ∧ a < 256) (hb : 0 ≤ b ∧ b < 256) (hk : 0 ≤ k ∧ k < 256) (h : xr a k = xr b k) : a = b := by
  have h1 := xor_back a k ha hk
  have h2 := xor_back b k hb hk
  rw [← h1, ← h2]
  exact congrArg (fun x => bits .xor .u8 x k) h
theorem xcl (a b : BitVec 8) : a ^^^ (a ^^^ b) = b := by rw [← BitVec.xor_assoc, BitVec.xor_self, BitVec.zero_xor]
theorem xlc (a b c : BitVec 8) : a ^^^ (b ^^^ c) = b ^^^ (a ^^^ c) := by rw [← BitVec.xor_assoc, ← BitVec.xor_assoc, BitVec.xor_comm a b]
structure V4 where
  a : BitVec 8
  b : BitVec 8
  c : BitVec 8
  d : BitVec 8
def colV (v : V4) : V4 := ⟨((dv v.a ^^^ (dv v.b ^^^ v.b)) ^^^ v.c) ^^^ v.d, ((dv v.b ^^^ (dv v.c ^^^ v.c)) ^^^ v.d) ^^^ v.a, ((dv v.c ^^^ (dv v.d ^^^ v.d)) ^^^ v.a) ^^^ v.b, ((dv v.d ^^^ (dv v.a ^^^ v.a)) ^^^ v.b) ^^^ v.c⟩
def colV2 (v : V4) : V4 := ⟨v.a ^^^ (dv (dv v.a) ^^^ dv (dv v.c)), v.b ^^^ (dv (dv v.b) ^^^ dv (dv v.d)), v.c ^^^ (dv (dv v.c) ^^^ dv (dv v.a)), v.d ^^^ (dv (dv v.d) ^^^ dv (dv v.b))⟩
theorem colV_two (v : V4) : colV (colV v) = colV2 v := by
  unfold colV colV2
  congr 1 <;> simp only [dv_xor] <;> simp [BitVec.xor_assoc, BitVec.xor_comm, xlc, xcl]
theorem colV2_two (v : V4) : colV2 (colV2 v) = v := by
  obtain ⟨a, b, c, d⟩ := v
  unfold colV2
  congr 1 <;> simp only [dv_xor] <;> simp [BitVec.xor_assoc, BitVec.xor_comm, xlc]
theorem colV_inj {v w : V4} (h : colV v = colV w) : v = w := by
  rw [← colV2_two v, ← colV2_two w, ← colV_two v, ← colV_two w, h]
theorem colP_inj {a b c d a' b' c' d' : Int} (ha : 0 ≤ a ∧ a < 256) (hb : 0 ≤ b ∧ b < 256) (hc : 0 ≤ c ∧ c < 256) (hd : 0 ≤ d ∧ d < 256)
    (ha' : 0 ≤ a' ∧ a' < 256) (hb' : 0 ≤ b' ∧ b' < 256) (hc' : 0 ≤ c' ∧ c' < 256) (hd' : 0 ≤ d' ∧ d' < 256) (h : colP a b c d = colP a' b' c' d') : a = a' ∧ b = b' ∧ c = c' ∧ d = d' := by
  rw [col_eq ha hb hc hd, col_eq ha' hb' hc' hd'] at h
  obtain ⟨x, rfl⟩ := byt_of ha
  obtain ⟨y, rfl⟩ := byt_of hb
  obtain ⟨z, rfl⟩ := byt_of hc
  obtain ⟨u, rfl⟩ := byt_of hd
  obtain ⟨x', rfl⟩ := byt_of ha'
  obtain ⟨y', rfl⟩ := byt_of hb'
  obtain ⟨z', rfl⟩ := byt_of hc'
  obtain ⟨u', rfl⟩ := byt_of hd'
  unfold colR at h
  simp only [xr_byt, tms2_byt, tms3_byt, List.cons.injEq, and_true] at h
  have h' : colV ⟨x, y, z, u⟩ = colV ⟨x', y', z', u'⟩ := by
    unfold colV
    dsimp only
    rw [byt_inj h.1, byt_inj h.2.1, byt_inj h.2.2.1, byt_inj h.2.2.2]
  have e := colV_inj h'
  cases e
  exact ⟨rfl, rfl, rfl, rfl⟩
set_option maxRecDepth 100000 in
theorem box_back : ∀ n : Nat, n < 256 → boxL.idxOf (boxL.getD n 0) = n := by decide +kernel
theorem box_inj {a b : Int} (ha : 0 ≤ a ∧ a < 256) (hb : 0 ≤ b ∧ b < 256) (h : boxT.getD a.toNat 0 = boxT.getD b.toNat 0) : a = b := by
  rw [boxT_lit] at h
  have h1 := box_back a.toNat (by omega)
  have h2 := box_back b.toNat (by omega)
  rw [h, h2] at h1
  omega
theorem ch_is (K : List Int) (a b c d e f g i j k m n o p q r : Int) :
    chS [a, b, c, d, e, f, g, i, j, k, m, n, o, p, q, r] K 16 = [xr a (K.getD 0 0), xr b (K.getD 1 0), xr c (K.getD 2 0), xr d (K.getD 3 0), xr e (K.getD 4 0), xr f (K.getD 5 0), xr g (K.getD 6 0), xr i (K.getD 7 0),
      xr j (K.getD 8 0), xr k (K.getD 9 0), xr m (K.getD 10 0), xr n (K.getD 11 0), xr o (K.getD 12 0), xr p (K.getD 13 0), xr q (K.getD 14 0), xr r (K.getD 15 0)] := by kernel_rfl
theorem ak_inj (K b b' : List Int) (n : Nat) (hK : Bytes K) (h : b.length = 16) (hb : Bytes b) (h' : b'.length = 16) (hb' : Bytes b') (he : akS K b n 16 = akS K b' n 16) : b = b' := by
  rw [ak_eq _ _ _ 16 (Nat.le_refl _), ak_eq _ _ _ 16 (Nat.le_refl _)] at he
  have hk := fun i => (hK.sub (16 * n) 16).at i
  generalize (K.drop (16 * n)).take 16 = k at he hk
  obtain ⟨a0, a1, a2, a3, a4, a5, a6, a7, a8, a9, a10, a11, a12, a13, a14, a15, rfl⟩ := list16 b h
  obtain ⟨b0, b1, b2, b3, b4, b5, b6, b7, b8, b9, b10, b11, b12, b13, b14, b15, rfl⟩ := list16 b' h'
  rw [ch_is, ch_is] at he
  simp only [List.cons.injEq, and_true] at he
  obtain ⟨e0, e1, e2, e3, e4, e5, e6, e7, e8, e9, e10, e11, e12, e13, e14, e15⟩ := he
  have A := fun x hx => hb x hx
  have C := fun x hx => hb' x hx
  simp only [List.mem_cons, List.not_mem_nil, or_false] at A C
  rw [xr_cancel (A a0 (by simp)) (C b0 (by simp)) (hk 0) e0, xr_cancel (A a1 (by simp)) (C b1 (by simp)) (hk 1) e1, xr_cancel (A a2 (by simp)) (C b2 (by simp)) (hk 2) e2, xr_cancel (A a3 (by simp)) (C b3 (by simp)) (hk 3) e3,
    xr_cancel (A a4 (by simp)) (C b4 (by simp)) (hk 4) e4, xr_cancel (A a5 (by simp)) (C b5 (by simp)) (hk 5) e5, xr_cancel (A a6 (by simp)) (C b6 (by simp)) (hk 6) e6, xr_cancel (A a7 (by simp)) (C b7 (by simp)) (hk 7) e7,
    xr_cancel (A a8 (by simp)) (C b8 (by simp)) (hk 8) e8, xr_cancel (A a9 (by simp)) (C b9 (by simp)) (hk 9) e9, xr_cancel (A a10 (by simp)) (C b10 (by simp)) (hk 10) e10, xr_cancel (A a11 (by simp)) (C b11 (by simp)) (hk 11) e11,
    xr_cancel (A a12 (by simp)) (C b12 (by simp)) (hk 12) e12, xr_cancel (A a13 (by simp)) (C b13 (by simp)) (hk 13) e13, xr_cancel (A a14 (by simp)) (C b14 (by simp)) (hk 14) e14, xr_cancel (A a15 (by simp)) (C b15 (by simp)) (hk 15) e15]
theorem mc_inj (b b' : List Int) (h : b.length = 16) (hb : Bytes b) (h' : b'.length = 16) (hb' : Bytes b') (he : mcS b b 4 = mcS b' b' 4) : b = b' := by
  obtain ⟨a0, a1, a2, a3, a4, a5, a6, a7, a8, a9, a10, a11, a12, a13, a14, a15, rfl⟩ := list16 b h
  obtain ⟨b0, b1, b2, b3, b4, b5, b6, b7, b8, b9, b10, b11, b12, b13, b14, b15, rfl⟩ := list16 b' h'
  rw [mc_is, mc_is] at he
  have A := fun x hx => hb x hx
  have C := fun x hx => hb' x hx
  simp only [List.mem_cons, List.not_mem_nil, or_false] at A C
  obtain ⟨he, g3⟩ := List.append_inj he rfl
  obtain ⟨he, g2⟩ := List.append_inj he rfl
  obtain ⟨g0, g1⟩ := List.append_inj he rfl
  obtain ⟨rfl, rfl, rfl, rfl⟩ := colP_inj (A _ (by simp)) (A _ (by simp)) (A _ (by simp)) (A _ (by simp)) (C _ (by simp)) (C _ (by simp)) (C _ (by simp)) (C _ (by simp)) g0
  obtain ⟨rfl, rfl, rfl, rfl⟩ := colP_inj (A _ (by simp)) (A _ (by simp)) (A _ (by simp)) (A _ (by simp)) (C _ (by simp)) (C _ (by simp)) (C _ (by simp)) (C _ (by simp)) g1
  obtain ⟨rfl, rfl, rfl, rfl⟩ := colP_inj (A _ (by simp)) (A _ (by simp)) (A _ (by simp)) (A _ (by simp)) (C _ (by simp)) (C _ (by simp)) (C _ (by simp)) (C _ (by simp)) g2
  obtain ⟨rfl, rfl, rfl, rfl⟩ := colP_inj (A _ (by simp)) (A _ (by simp)) (A _ (by simp)) (A _ (by simp)) (C _ (by simp)) (C _ (by simp)) (C _ (by simp)) (C _ (by simp)) g3
  rfl
theorem sb_inj (b b' : List Int) (h : b.length = 16) (hb : Bytes b) (h' : b'.length = 16) (hb' : Bytes b') (he : sbS boxT b 16 = sbS boxT b' 16) : b = b' := by
  obtain ⟨a0, a1, a2, a3, a4, a5, a6, a7, a8, a9, a10, a11, a12, a13, a14, a15, rfl⟩ := list16 b h
  obtain ⟨b0, b1, b2, b3, b4, b5, b6, b7, b8, b9, b10, b11, b12, b13, b14, b15, rfl⟩ := list16 b' h'
  rw [sb_is, sb_is] at he
  have A := fun x hx => hb x hx
  have C := fun x hx => hb' x hx
  simp only [List.mem_cons, List.not_mem_nil, or_false] at A C
  unfold moved at he
  simp only [List.cons.injEq, and_true] at he
  obtain ⟨e0, e1, e2, e3, e4, e5, e6, e7, e8, e9, e10, e11, e12, e13, e14, e15⟩ := he
  obtain rfl := box_inj (A _ (by simp)) (C _ (by simp)) e0
  obtain rfl := box_inj (A _ (by simp)) (C _ (by simp)) e1
  obtain rfl := box_inj (A _ (by simp)) (C _ (by simp)) e2
  obtain rfl := box_inj (A _ (by simp)) (C _ (by simp)) e3
  obtain rfl := box_inj (A _ (by simp)) (C _ (by simp)) e4
  obtain rfl := box_inj (A _ (by simp)) (C _ (by simp)) e5
  obtain rfl := box_inj (A _ (by simp)) (C _ (by simp)) e6
  obtain rfl := box_inj (A _ (by simp)) (C _ (by simp)) e7
  obtain rfl := box_inj (A _ (by simp)) (C _ (by simp)) e8
  obtain rfl := box_inj (A _ (by simp)) (C _ (by simp)) e9
  obtain rfl := box_inj (A _ (by simp)) (C _ (by simp)) e10
  obtain rfl := box_inj (A _ (by simp)) (C _ (by simp)) e11
  obtain rfl := box_inj (A _ (by simp)) (C _ (by simp)) e12
  obtain rfl := box_inj (A _ (by simp)) (C _ (by simp)) e13
  obtain rfl := box_inj (A _ (by simp)) (C _ (by simp)) e14
  obtain rfl := box_inj (A _ (by simp)) (C _ (by simp)) e15
  rfl
theorem rnd_inj (K b b' : List Int) (n : Nat) (hK : Bytes K) (h : b.length = 16) (hb : Bytes b) (h' : b'.length = 16) (hb' : Bytes b') (he : rndS boxT K b n = rndS boxT K b' n) : b = b' := by
  unfold rndS at he
  have L := fun x => sbS_len boxT x 16
  have S := fun x => sbS_bytes boxT x boxT_bytes 16
  by_cases hn : n < 10
  · rw [if_pos hn, if_pos hn] at he
    have e1 := ak_inj K _ _ n hK (by rw [mcS_len]; exact L b) (mcS_bytes _ _ (S b) 4) (by rw [mcS_len]; exact L b') (mcS_bytes _ _ (S b') 4) he
    exact sb_inj b b' h hb h' hb' (mc_inj _ _ (L b) (S b) (L b') (S b') e1)
  · rw [if_neg hn, if_neg hn] at he
    exact sb_inj b b' h hb h' hb' (ak_inj K _ _ n hK (L b) (S b) (L b') (S b') he)
theorem blkS_inj (K b b' : List Int) (hK : Bytes K) (h : b.length = 16) (hb : Bytes b) (h' : b'.length = 16) (hb' : Bytes b') : ∀ n, blkS boxT K b n = blkS boxT K b' n → b = b' := by
  intro n
  induction n with
  | zero => exact fun he => ak_inj K b b' 0 hK h hb h' hb' he
  | succ n ih =>
    exact fun he => ih (rnd_inj K _ _ (n + 1) hK (blkS_len boxT K b h n) (blkS_bytes boxT K b hb boxT_bytes n) (blkS_len boxT K b' h' n) (blkS_bytes boxT K b' hb' boxT_bytes n) he)
theorem blkF_inj (K b b' : List Int) (hK : Bytes K) (h : b.length = 16) (hb : Bytes b) (h' : b'.length = 16) (hb' : Bytes b') : blkF boxT K b = blkF boxT K b' ↔ b = b' := by
  rw [blkF_is boxT K b 10 rfl, blkF_is boxT K b' 10 rfl]
  exact ⟨blkS_inj K b b' hK h hb h' hb' 10, fun e => by rw [e]⟩
end Go.Proofs.Ytgpjbfedbncniaa
