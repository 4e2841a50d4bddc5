/- The keys of a secret: Derive, the document's too; keys told otherwise: walked. -/
import Derived.Test.YthieegnhjoehbaaS9
namespace Go.Proofs.Ythieegnhjoehbaa
open Go.RowKit Go.Vc
set_option linter.unusedVariables false
def nmS (i : Nat) : ByteArray := if i = 0 then ⟨#[115, 101, 114, 118, 101, 114]⟩ else ⟨#[99, 108, 105, 101, 110, 116]⟩
def encN (i : Nat) : List Int := [101, 110, 99, 32] ++ bytesOf (nmS i)
def macN (i : Nat) : List Int := [109, 97, 99, 32] ++ bytesOf (nmS i)
abbrev dEnc (secret : List Int) (i : Nat) : List Int := tagF secret (encN i)
abbrev dMac (secret : List Int) (i : Nat) : List Int := macF secret (macN i)
theorem nmS_le (i : Nat) : (nmS i).size = 6 := by unfold nmS; split <;> rfl
theorem encN_of (i : Nat) : bytesOf ((⟨#[101, 110, 99]⟩ ++ ⟨#[32]⟩ : ByteArray) ++ nmS i) = encN i := by rw [bytesOf_app]; rfl
theorem macN_of (i : Nat) : bytesOf ((⟨#[109, 97, 99]⟩ ++ ⟨#[32]⟩ : ByteArray) ++ nmS i) = macN i := by rw [bytesOf_app]; rfl
theorem encN_of2 (i : Nat) : bytesOf ((⟨#[101, 110, 99, 32]⟩ : ByteArray) ++ nmS i) = encN i := by rw [bytesOf_app]; rfl
theorem macN_of2 (i : Nat) : bytesOf ((⟨#[109, 97, 99, 32]⟩ : ByteArray) ++ nmS i) = macN i := by rw [bytesOf_app]; rfl
/-- Keys, of their parts. -/
def kp (e0 e1 m0 m1 : List Int) : List Int := e0 ++ (e1 ++ (m0 ++ m1))
theorem splice_app {α : Type} (a b c x : List α) (n : Nat) (hn : n = a.length) (hx : x.length = b.length) : splice (a ++ (b ++ c)) n x = a ++ (x ++ c) := by
 subst hn
 unfold splice
 rw [List.take_left, hx, List.append_assoc]
 congr 2
 rw [← List.append_assoc, ← List.length_append, List.drop_left]
section
variable {e0 e1 m0 m1 x : List Int}
theorem kp_len (h0 : e0.length = 16) (h1 : e1.length = 16) (h2 : m0.length = 32) (h3 : m1.length = 32) : (kp e0 e1 m0 m1).length = 96 := by
 unfold kp
 rw [List.length_append, List.length_append, List.length_append, h0, h1, h2, h3]
theorem kp_bytes (h0 : Bytes e0) (h1 : Bytes e1) (h2 : Bytes m0) (h3 : Bytes m1) : Bytes (kp e0 e1 m0 m1) := h0.append (h1.append (h2.append h3))
theorem kp_e0 (h0 : e0.length = 16) (hx : x.length = 16) : splice (kp e0 e1 m0 m1) 0 x = kp x e1 m0 m1 := splice_app [] e0 _ x 0 rfl (by omega)
theorem kp_e1 (h0 : e0.length = 16) (h1 : e1.length = 16) (hx : x.length = 16) : splice (kp e0 e1 m0 m1) 16 x = kp e0 x m0 m1 := splice_app e0 e1 _ x 16 (by omega) (by omega)
theorem kp_m0 (h0 : e0.length = 16) (h1 : e1.length = 16) (h2 : m0.length = 32) (hx : x.length = 32) : splice (kp e0 e1 m0 m1) 32 x = kp e0 e1 x m1 := by
 unfold kp
 rw [← List.append_assoc, splice_app (e0 ++ e1) m0 m1 x 32 (by rw [List.length_append]; omega) (by omega), List.append_assoc]
theorem kp_m1 (h0 : e0.length = 16) (h1 : e1.length = 16) (h2 : m0.length = 32) (h3 : m1.length = 32) (hx : x.length = 32) : splice (kp e0 e1 m0 m1) 64 x = kp e0 e1 m0 x := by
 unfold kp
 have := splice_app (e0 ++ (e1 ++ m0)) m1 [] x 64 (by rw [List.length_append, List.length_append]; omega) (by omega)
 rw [List.append_nil, List.append_nil] at this
 rw [show e0 ++ (e1 ++ (m0 ++ m1)) = (e0 ++ (e1 ++ m0)) ++ m1 by simp, this]
 simp
theorem kp_enc0 (h0 : e0.length = 16) : encK (kp e0 e1 m0 m1) 0 = e0 := by
 show (e0 ++ _).take 16 = e0
 rw [← h0, List.take_left]
theorem kp_enc1 (h0 : e0.length = 16) (h1 : e1.length = 16) : encK (kp e0 e1 m0 m1) 1 = e1 := by
 show ((e0 ++ (e1 ++ _)).drop 16).take 16 = e1
 rw [← h0, List.drop_left, h0, ← h1, List.take_left]
theorem kp_mac0 (h0 : e0.length = 16) (h1 : e1.length = 16) (h2 : m0.length = 32) : macK (kp e0 e1 m0 m1) 0 = m0 := by
 show ((e0 ++ (e1 ++ (m0 ++ m1))).drop 32).take 32 = m0
 rw [show (32 : Nat) = (e0 ++ e1).length by rw [List.length_append, h0, h1], ← List.append_assoc, List.drop_left, List.length_append, h0, h1, show 16 + 16 = m0.length by omega, List.take_left]
theorem kp_mac1 (h0 : e0.length = 16) (h1 : e1.length = 16) (h2 : m0.length = 32) (h3 : m1.length = 32) : macK (kp e0 e1 m0 m1) 1 = m1 := by
 show ((e0 ++ (e1 ++ (m0 ++ m1))).drop 64).take 32 = m1
 rw [show e0 ++ (e1 ++ (m0 ++ m1)) = (e0 ++ (e1 ++ m0)) ++ m1 by simp, show (64 : Nat) = (e0 ++ (e1 ++ m0)).length by rw [List.length_append, List.length_append, h0, h1, h2], List.drop_left]
 exact List.take_of_length_le (by omega)
end
/-- Keys, of which i sides are there. -/
def kS (e m : Nat → List Int) (i : Nat) : List Int := if i = 0 then kp (zeros 16) (zeros 16) (zeros 32) (zeros 32) else if i = 1 then kp (e 0) (zeros 16) (m 0) (zeros 32) else kp (e 0) (e 1) (m 0) (m 1)
section
variable {e m : Nat → List Int} (he : ∀ i, (e i).length = 16) (hm : ∀ i, (m i).length = 32)
include he hm
theorem kS_len (i : Nat) : (kS e m i).length = 96 := by
 unfold kS
 split
 ·rfl
 ·split
  ·exact kp_len (he 0) rfl (hm 0) rfl
  ·exact kp_len (he 0) (he 1) (hm 0) (hm 1)
theorem kS_next {i : Nat} (h : i < 2) : splice (splice (kS e m i) (16 * i) (e i)) (32 + 32 * i) (m i) = kS e m (i + 1) := by
 obtain rfl | rfl : i = 0 ∨ i = 1 := by omega
 ·show splice (splice (kp (zeros 16) (zeros 16) (zeros 32) (zeros 32)) 0 (e 0)) 32 (m 0) = kp (e 0) (zeros 16) (m 0) (zeros 32)
  rw [kp_e0 rfl (he 0), kp_m0 (he 0) rfl rfl (hm 0)]
 ·show splice (splice (kp (e 0) (zeros 16) (m 0) (zeros 32)) 16 (e 1)) 64 (m 1) = kp (e 0) (e 1) (m 0) (m 1)
  rw [kp_e1 (he 0) rfl (he 1), kp_m1 (he 0) (he 1) (hm 0) rfl (hm 1)]
/-- The same where a code is there first, and its key comes byte by byte. -/
theorem kT_zero {i : Nat} (h : i < 2) : splice (kS e m i) (32 + 32 * i) (m i) = (if i = 0 then kp (fillAt (e 0) 0) (zeros 16) (m 0) (zeros 32) else kp (e 0) (fillAt (e 1) 0) (m 0) (m 1)) := by
 obtain rfl | rfl : i = 0 ∨ i = 1 := by omega
 ·show splice (kp (zeros 16) (zeros 16) (zeros 32) (zeros 32)) 32 (m 0) = kp (fillAt (e 0) 0) (zeros 16) (m 0) (zeros 32)
  rw [fillAt_zero, he, kp_m0 rfl rfl rfl (hm 0)]
 ·show splice (kp (e 0) (zeros 16) (m 0) (zeros 32)) 64 (m 1) = kp (e 0) (fillAt (e 1) 0) (m 0) (m 1)
  rw [fillAt_zero, he, kp_m1 (he 0) rfl (hm 0) rfl (hm 1)]
end
def kT (e m : Nat → List Int) (i j : Nat) : List Int := if i = 0 then kp (fillAt (e 0) j) (zeros 16) (m 0) (zeros 32) else kp (e 0) (fillAt (e 1) j) (m 0) (m 1)
theorem set_left {α : Type} (a b : List α) (n : Nat) (x : α) (h : n < a.length) : (a ++ b).set n x = a.set n x ++ b := List.set_append_left _ _ h
theorem set_right {α : Type} (a b : List α) (n k : Nat) (x : α) (h : n = a.length + k) : (a ++ b).set n x = a ++ b.set k x := by
 subst h
 rw [List.set_append_right _ _ (by omega), Nat.add_sub_cancel_left]
theorem fillAt_set0 (l : List Int) {i : Nat} (h : i < l.length) : (fillAt l i).set i (l.getD i 0) = fillAt l (i + 1) := by
 have := fillAt_set l h rfl
 rw [row_set] at this
 have hinj : ∀ a b : List Int, row a = row b → a = b := by
  intro a
  induction a with
  | nil => intro b hb; cases b with
   | nil => rfl
   | cons y b => cases hb
  | cons x a ih => intro b hb; cases b with
   | nil => cases hb
   | cons y b =>
    have h1 : Value.int .u8 x = .int .u8 y := by injection hb
    have h2 : row a = row b := by injection hb
    cases h1
    rw [ih b h2]
 exact hinj _ _ this
section
variable {e m : Nat → List Int} (he : ∀ i, (e i).length = 16) (hm : ∀ i, (m i).length = 32)
include he hm
theorem kT_len (i : Nat) {j : Nat} (h : j ≤ 16) : (kT e m i j).length = 96 := by
 unfold kT
 split
 ·exact kp_len (by rw [fillAt_len _ (by rw [he]; exact h), he]) rfl (hm 0) rfl
 ·exact kp_len (he 0) (by rw [fillAt_len _ (by rw [he]; exact h), he]) (hm 0) (hm 1)
omit hm in
theorem kT_next {i j : Nat} (hi : i < 2) (h : j < 16) : (row (kT e m i j)).set (16 * i + j) (.int .u8 ((e i).getD j 0)) = row (kT e m i (j + 1)) := by
 rw [row_set]
 congr 1
 obtain rfl | rfl : i = 0 ∨ i = 1 := by omega
 ·show (fillAt (e 0) j ++ _).set (16 * 0 + j) _ = fillAt (e 0) (j + 1) ++ _
  rw [Nat.mul_zero, Nat.zero_add, set_left _ _ _ _ (by rw [fillAt_len _ (by rw [he]; omega), he]; exact h), fillAt_set0 _ (by rw [he]; exact h)]
 ·show (e 0 ++ (fillAt (e 1) j ++ _)).set (16 * 1 + j) _ = e 0 ++ (fillAt (e 1) (j + 1) ++ _)
  rw [set_right _ _ _ j _ (by rw [he]), set_left _ _ _ _ (by rw [fillAt_len _ (by rw [he]; omega), he]; exact h), fillAt_set0 _ (by rw [he]; exact h)]
omit hm in
theorem kT_end {i : Nat} (hi : i < 2) : kT e m i 16 = kS e m (i + 1) := by
 have h16 : ∀ k, fillAt (e k) 16 = e k := fun k => by
  have := fillAt_end (e k)
  rw [he] at this
  exact this
 obtain rfl | rfl : i = 0 ∨ i = 1 := by omega
 ·show kp (fillAt (e 0) 16) (zeros 16) (m 0) (zeros 32) = kp (e 0) (zeros 16) (m 0) (zeros 32)
  rw [h16]
 ·show kp (e 0) (fillAt (e 1) 16) (m 0) (m 1) = kp (e 0) (e 1) (m 0) (m 1)
  rw [h16]
end
def derK (secret : List Int) : List Int := kS (dEnc secret) (dMac secret) 2
theorem derK_len (secret : List Int) : (derK secret).length = 96 := kS_len (fun i => tagF_len _ _) (fun i => macF_len _ _) 2
theorem derK_bytes (secret : List Int) : Bytes (derK secret) := kp_bytes (tagF_bytes _ _) (tagF_bytes _ _) (macF_bytes _ _) (macF_bytes _ _)
theorem dkey_any (secret : List Int) (kv : Value) (what side : ByteArray) (bk : Nat) (w : World) (hkc : w.cell? ⟨bk, 0, none⟩ = some kv) (hk : SlC (At w) 1 kv secret.length (row secret)) (hkb : Bytes secret) (hkl : secret.length ≤ 100000)
  (h1 : what.size ≤ 1000) (h2 : side.size ≤ 1000) : Gives tb 25 [.string what, .string side, .pointer (some ⟨bk, 0, none⟩)] w (.agg (row (macF secret (bytesOf ((what ++ ⟨#[32]⟩) ++ side)))).toArray) := by
 have hs : (what ++ (⟨#[32]⟩ : ByteArray)).size = what.size + 1 := ByteArray.size_append
 have hs2 : ((what ++ (⟨#[32]⟩ : ByteArray)) ++ side).size = what.size + 1 + side.size := by rw [ByteArray.size_append, hs]
 have hml := macF_len secret (bytesOf ((what ++ ⟨#[32]⟩) ++ side))
 refine gives_of (fn := Try.f25) Try.func25 rfl Try.ntmps25 rfl ?_
 repeat refine c_seq ?_
 refine c_region ?_
 refine step_alloc rfl zero30 (fun b5 => ?_)
 refine step_nil ?_
 repeat refine c_seq ?_
 refine c_region ?_
 refine step_pure rfl (pure_view rfl rfl rfl hkc (by simp)) ?_
 refine qm rfl rfl ?_
 refine step_pure rfl (pure_concat rfl rfl (by show what.size + 1 ≤ _; omega)) ?_
 refine qm rfl rfl ?_
 refine step_pure rfl (pure_concat rfl rfl (by rw [hs]; omega)) ?_
 refine step_gives rfl fun23 rfl (fun w' hh kp => macKey_any secret kv _ w' (hk.mono (at_keep kp)) hkb hkl (by rw [hs2]; omega)) ?_
 refine step_store_agg 0 rfl rfl rfl (row_one _) rfl (by rw [row_len]; exact hml) rfl rfl (Nat.le_of_ble_eq_true rfl) (splice_all (by rw [row_len, hml]; rfl)) ?_
 refine step_nil ?_
 exact c_ret ⟨_, res_cell_agg (i := 0) Try.results25 rfl rfl rfl rfl rfl (by show 0 + 32 ≤ (row (macF secret _)).length; rw [row_len, hml]; decide) (ints_whole _ _ 32 hml), rfl⟩
set_option maxHeartbeats 1000000 in
theorem derive_any (secret : List Int) (kv : Value) (w : World) (hk : SlC (At w) 1 kv secret.length (row secret)) (hkb : Bytes secret) (hkl : secret.length ≤ 100000) : Gives tb 11 [kv] w (.agg (row (derK secret)).toArray) := by
 have he : ∀ i, (dEnc secret i).length = 16 := fun i => tagF_len _ _
 have hm : ∀ i, (dMac secret i).length = 32 := fun i => macF_len _ _
 have hkl2 := derK_len secret
 have hnx := fun {i : Nat} (h : i < 2) => kS_next he hm h
 have hSl := fun i => kS_len he hm i
 have hdk : derK secret = kS (dEnc secret) (dMac secret) 2 := rfl
 have hS0 : kS (dEnc secret) (dMac secret) 0 = zeros 96 := rfl
 have hte : ∀ i, ((row (macF secret (encN i))).drop 0).take 16 = row (dEnc secret i) := fun i => ints_sub .u8 _ 0 16
 have hmac : ∀ i, macF secret (macN i) = dMac secret i := fun i => rfl
 have hml := fun i => macF_len secret (encN i)
 refine gives_of (fn := Try.f11) Try.func11 rfl Try.ntmps11 rfl ?_
 have hd1 := fun w' (kp : Keep w w' []) bk h i => dkey_any secret kv ⟨#[101, 110, 99]⟩ (nmS i) bk w' h (hk.mono (at_keep kp)) hkb hkl (by decide) (by rw [nmS_le]; decide)
 have hd2 := fun w' (kp : Keep w w' []) bk h i => dkey_any secret kv ⟨#[109, 97, 99]⟩ (nmS i) bk w' h (hk.mono (at_keep kp)) hkb hkl (by decide) (by rw [nmS_le]; decide)
 simp only [encN_of, macN_of, hmac] at hd1 hd2
 rw [hdk]
 clear hdk hmac
 generalize dEnc secret = de at *
 generalize dMac secret = dm at *
 generalize hme : (fun i => macF secret (encN i)) = me at *
 have hme2 : ∀ i, macF secret (encN i) = me i := fun i => by rw [← hme]
 simp only [hme2] at hte hml hd1
 clear hme hme2
 obtain ⟨kb, kc, rfl, hkcap⟩ := slc_str hk
 repeat refine c_seq ?_
 refine c_region ?_
 refine step_box rfl rfl rfl (fun b1 => ?_)
 refine step_alloc rfl zero33 (fun b2 => ?_)
 refine step_nil ?_
 repeat refine c_seq ?_
 refine c_region ?_
 refine step_pure rfl (pure_makeFunc rfl) ?_
 refine qa rfl rfl ?_
 refine step_nil ?_
 repeat refine c_seq ?_
 refine c_region ?_
 refine step_pure rfl (pure_build_arr rfl zero62 rfl rfl rfl rfl) ?_
 refine qm rfl rfl ?_
 refine step_nil ?_
 repeat refine c_seq ?_
 refine c_block ?_
 repeat refine c_seq ?_
 refine c_loop (α := Nat) (fun i => [(1, .pointer (some ⟨b1, 0, none⟩)), (2, .pointer (some ⟨b2, 0, none⟩)), (3, .func (.func 25) #[] #[.pointer (some ⟨b1, 0, none⟩)]), (8, .agg #[.string (nmS 0), .string (nmS 1)]), (9, .int .i64 i)])
  (fun i => [⟨b2, row (kS de dm i), 33⟩, ⟨b1, [.slice kb secret.length kc], 22⟩]) (fun i => i ≤ 2) (fun i => 2 - i) 0 (by decide) (less_of ⟨rfl, rfl, rfl, rfl, rfl, trivial⟩ (by rw [hS0] <;> rfl)) ?_
 intro i hi
 repeat refine c_seq ?_
 refine c_region ?_
 refine step_pure rfl (pure_lss rfl rfl) ?_
 refine step_nil ?_
 repeat refine c_seq ?_
 refine c_cond rfl (fun h => ?_) (fun h => ?_)
 ·have hlt : i < 2 := by have := of_decide_eq_true h; omega
  clear h
  refine c_skip ?_
  have hn := hnx hlt
  have hname : [Value.string (nmS 0), .string (nmS 1)][(i : Int).toNat * 1]? = some (.string (nmS i)) := by
   obtain rfl | rfl : i = 0 ∨ i = 1 := by omega
   ·rfl
   ·rfl
  have hl0 := hSl i
  have hs1 : splice (row (kS de dm i)) (16 * i) (row (de i)) = row (splice (kS de dm i) (16 * i) (de i)) := ints_splice ..
  have hs2 : splice (row (splice (kS de dm i) (16 * i) (de i))) (32 + 32 * i) (row (dm i)) = row (kS de dm (i + 1)) := by rw [ints_splice, hn]
  have hl1 : (splice (kS de dm i) (16 * i) (de i)).length = 96 := by rw [splice_len (by rw [he, hl0]; omega), hl0]
  generalize splice (kS de dm i) (16 * i) (de i) = K1 at *
  obtain ⟨K2, hK2⟩ : ∃ x, x = kS de dm (i + 1) := ⟨_, rfl⟩
  rw [← hK2] at hs2 hn
  generalize hK0 : kS de dm i = K0 at *
  clear hK0
  repeat refine c_seq ?_
  refine c_meet [(1, .pointer (some ⟨b1, 0, none⟩)), (2, .pointer (some ⟨b2, 0, none⟩)), (3, .func (.func 25) #[] #[.pointer (some ⟨b1, 0, none⟩)]), (8, .agg #[.string (nmS 0), .string (nmS 1)]), (9, .int .i64 i)]
   [⟨b2, row K2, 33⟩, ⟨b1, [.slice kb secret.length kc], 22⟩] ?_ ?_
  ·repeat refine c_seq ?_
   refine c_block ?_
   repeat refine c_seq ?_
   refine c_region ?_
   refine qm rfl rfl ?_
   refine step_pure rfl (pure_index (cs := [.string (nmS 0), .string (nmS 1)]) rfl rfl rfl rfl rfl rfl (by omega) (by omega) hname) ?_
   refine qa rfl rfl ?_
   refine qa rfl rfl ?_
   refine step_nil ?_
   repeat refine c_seq ?_
   refine c_region ?_
   refine qm rfl rfl ?_
   refine qm rfl rfl ?_
   refine step_givesc (caps := [.pointer (some ⟨b1, 0, none⟩)]) rfl rfl fun25 rfl rfl (fun w' hh kp => hd1 w' kp b1 (cell_of (hh.cell (e := ⟨b1, [.slice kb secret.length kc], 22⟩) (.tail _ (.head _)) (by simp)) rfl) i) ?_
   refine step_alloc rfl zero30 (fun b6 => ?_)
   refine step_store_agg 0 rfl rfl rfl (row_one _) rfl (by rw [row_len]; exact hml i) rfl rfl (Nat.le_of_ble_eq_true rfl) (splice_all (by rw [row_len, hml i]; rfl)) ?_
   refine step_nil ?_
   repeat refine c_seq ?_
   refine d_region2 [1, 9, 17, 25, 35, 41, 49, 59, 65, 73, 89, 84, 97, 108] ([⟨b6, row (me i), 30⟩, ⟨b2, row K0, 33⟩, ⟨b1, [.slice kb secret.length kc], 22⟩]) follows (by kernel_rfl) ?_
   refine qd rfl rfl rfl rfl ?_
   refine qd rfl rfl rfl rfl ?_
   refine d_pure0 rfl rfl rfl (pure_arr_hi rfl rfl rfl rfl rfl (by decide) (by decide)) ?_
   refine d_pure0 rfl rfl rfl (pure_toArr rfl rfl rfl (by decide)) ?_
   refine d_pure1 rfl rfl rfl (pure_load_agg (i := 0) rfl rfl rfl rfl rfl (by show 0 + 16 ≤ (row (me i)).length; rw [row_len, hml i]; decide) (hte i)) (by first | exact SubMem.refl _ | exact (SubMem.refl _).cons | exact (SubMem.refl _).cons.cons | exact (SubMem.refl _).cons.cons.cons | exact (SubMem.refl _).cons.cons.cons.cons | exact (fun w hh => Has.sublist (by repeat (first | exact List.Sublist.refl _ | exact List.nil_sublist _ | apply List.Sublist.cons_cons | apply List.Sublist.cons)) hh)) ?_
   refine qd rfl rfl rfl rfl ?_
   refine qd rfl rfl rfl rfl ?_
   refine d_givesc (caps := [.pointer (some ⟨b1, 0, none⟩)]) rfl rfl rfl rfl fun25 rfl rfl (fun w' hh kp => hd2 w' kp b1 (cell_of (hh.cell (e := ⟨b1, [.slice kb secret.length kc], 22⟩) (.tail _ (.tail _ (.head _))) (by simp)) rfl) i) (by first | exact SubMem.refl _ | exact (SubMem.refl _).cons | exact (SubMem.refl _).cons.cons | exact (SubMem.refl _).cons.cons.cons | exact (SubMem.refl _).cons.cons.cons.cons | exact (fun w hh => Has.sublist (by repeat (first | exact List.Sublist.refl _ | exact List.nil_sublist _ | apply List.Sublist.cons_cons | apply List.Sublist.cons)) hh)) ?_
   refine d_pure0 rfl rfl rfl (pure_fieldAddr rfl rfl rfl rfl rfl (by decide)) ?_
   refine d_pure0 rfl rfl rfl (pure_ix (off' := 16 * i) rfl rfl rfl rfl rfl (by omega) (by omega) (by show 0 + 0 + (i : Int).toNat * 16 = _; omega)) ?_
   refine d_pure0 rfl rfl rfl (pure_fieldAddr rfl rfl rfl rfl rfl (by decide)) ?_
   refine d_store_agg 1 rfl rfl rfl rfl rfl (row_one _) rfl (by rw [row_len]; exact he i) rfl rfl (by show 16 * i + 16 ≤ (row K0).length; rw [row_len]; omega) hs1 rfl rfl ?_
   refine d_pure0 rfl rfl rfl (pure_ix (off' := 32 + 32 * i) rfl rfl rfl rfl rfl (by omega) (by omega) (by show 0 + 32 + (i : Int).toNat * 32 = _; omega)) ?_
   refine d_store_agg 1 rfl rfl rfl rfl rfl (row_one _) rfl (by rw [row_len]; exact hm i) rfl rfl (by show 32 + 32 * i + 32 ≤ (row K1).length; rw [row_len]; omega) hs2 rfl rfl ?_
   refine d_nil ?_
   exact less_sub ⟨rfl, rfl, rfl, rfl, rfl, trivial⟩ (by repeat (first | exact List.Sublist.refl _ | exact List.nil_sublist _ | apply List.Sublist.cons_cons | apply List.Sublist.cons))
  ·repeat refine c_seq ?_
   refine c_region ?_
   first | refine step_pure rfl (pure_add64 rfl rfl (by omega) (by omega)) ?_ | refine step_pure rfl (pure_add rfl rfl) ?_
   refine qm rfl rfl ?_
   refine step_nil ?_
   exact ⟨i + 1, hlt, by omega, less_of ⟨rfl, rfl, rfl, rfl, rfl, trivial⟩ (by rw [hK2])⟩
 ·have hie : i = 2 := by have := of_decide_eq_false h; omega
  subst hie
  refine c_exit ?_
  have hl := hSl 2
  generalize kS de dm 2 = K at *
  repeat refine c_seq ?_
  refine c_region ?_
  refine step_pure rfl (pure_load_agg (i := 0) rfl rfl rfl rfl rfl (by show 0 + 96 ≤ (row K).length; rw [row_len, hl]; decide) (ints_whole _ _ 96 hl)) ?_
  refine step_store_agg 0 rfl rfl rfl (row_one _) rfl (by rw [row_len]; exact hl) rfl rfl (by show 0 + 96 ≤ (row K).length; rw [row_len, hl]; decide) (splice_all rfl) ?_
  refine step_nil ?_
  exact c_ret ⟨_, res_cell_agg (i := 0) Try.results11 rfl rfl rfl rfl rfl (by show 0 + 96 ≤ (row K).length; rw [row_len, hl]; decide) (ints_whole _ _ 96 hl), rfl⟩
theorem lkeys_any (K : List Int) (w : World) (hK : K.length = 96) : Gives tb 14 [.agg (row K).toArray] w (.agg (row K).toArray) := by
 refine gives_of (fn := Try.f14) Try.func14 rfl Try.ntmps14 rfl ?_
 have h1 : ((row K).drop 0).take 32 = row (K.take 32) := by rw [List.drop_zero]; exact (List.map_take ..).symm
 have h2 : ((row K).drop 32).take 64 = row (K.drop 32) := by rw [ints_sub]; congr 1; exact List.take_of_length_le (by rw [List.length_drop]; omega)
 have hl1 : (K.take 32).length = 32 := by rw [List.length_take]; omega
 have hl2 : (K.drop 32).length = 64 := by rw [List.length_drop]; omega
 have hj : K.take 32 ++ K.drop 32 = K := List.take_append_drop 32 K
 have hb : fillL (fun i => nth [(0, 32), (32, 64)] i) (row (zeros 96)) [(0, .agg (row (K.take 32)).toArray), (1, .agg (row (K.drop 32)).toArray)] = some (row K) := by
  obtain ⟨a, b, ha, hb, rfl⟩ : ∃ a b : List Int, a.length = 32 ∧ b.length = 64 ∧ K = a ++ b := ⟨_, _, hl1, hl2, hj.symm⟩
  have e1 : (a ++ b).take 32 = a := by rw [← ha, List.take_left]
  have e2 : (a ++ b).drop 32 = b := by rw [← ha, List.drop_left]
  rw [e1, e2]
  obtain ⟨x, y, a, rfl⟩ : ∃ x y a', a = x :: y :: a' := by
   rcases a with _ | ⟨x, _ | ⟨y, a⟩⟩
   ·cases ha
   ·cases ha
   ·exact ⟨x, y, a, rfl⟩
  obtain ⟨z, u, b, rfl⟩ : ∃ x y a', b = x :: y :: a' := by
   rcases b with _ | ⟨x, _ | ⟨y, a⟩⟩
   ·cases hb
   ·cases hb
   ·exact ⟨x, y, a, rfl⟩
  have c1 : ∀ cs rest, fillL (fun i => nth [(0, 32), (32, 64)] i) cs ((0, Value.agg (row (x :: y :: a)).toArray) :: rest) = bif Nat.beq (row (x :: y :: a)).length 32 && Nat.ble (0 + 32) cs.length then fillL (fun i => nth [(0, 32), (32, 64)] i) (splice cs 0 (row (x :: y :: a))) rest else none := fun cs rest => rfl
  have c2 : ∀ cs rest, fillL (fun i => nth [(0, 32), (32, 64)] i) cs ((1, Value.agg (row (z :: u :: b)).toArray) :: rest) = bif Nat.beq (row (z :: u :: b)).length 64 && Nat.ble (32 + 64) cs.length then fillL (fun i => nth [(0, 32), (32, 64)] i) (splice cs 32 (row (z :: u :: b))) rest else none := fun cs rest => rfl
  rw [c1, row_len, ha, row_len]
  show (bif Nat.beq 32 32 && Nat.ble (0 + 32) 96 then _ else none) = _
  have hsp1 : splice (row (zeros 96)) 0 (row (x :: y :: a)) = row ((x :: y :: a) ++ zeros 64) := by
   rw [ints_splice]
   congr 1
   have := splice_app [] (zeros 32) (zeros 64) (x :: y :: a) 0 rfl (by rw [ha]; rfl)
   exact this
  show fillL (fun i => nth [(0, 32), (32, 64)] i) (splice (row (zeros 96)) 0 (row (x :: y :: a))) [(1, Value.agg (row (z :: u :: b)).toArray)] = _
  rw [hsp1, c2, row_len, hb, row_len, List.length_append, ha]
  show fillL (fun i => nth [(0, 32), (32, 64)] i) (splice (row ((x :: y :: a) ++ zeros 64)) 32 (row (z :: u :: b))) [] = _
  rw [ints_splice]
  have := splice_app (x :: y :: a) (zeros 64) [] (z :: u :: b) 32 ha.symm (by rw [hb]; rfl)
  rw [List.append_nil, List.append_nil] at this
  rw [this]
  rfl
 repeat refine c_seq ?_
 refine c_region ?_
 refine step_box_agg rfl rfl (fun b1 => ?_)
 refine step_alloc rfl zero39 (fun b2 => ?_)
 refine step_nil ?_
 repeat refine c_seq ?_
 refine c_region ?_
 refine step_pure rfl (pure_fieldAddr rfl rfl rfl rfl rfl (by decide)) ?_
 refine step_pure rfl (pure_load_agg (i := 1) rfl rfl rfl rfl rfl (by show 0 + 32 ≤ (row K).length; rw [row_len, hK]; decide) h1) ?_
 refine step_pure rfl (pure_fieldAddr rfl rfl rfl rfl rfl (by decide)) ?_
 refine step_pure rfl (pure_load_agg (i := 1) rfl rfl rfl rfl rfl (by show 32 + 64 ≤ (row K).length; rw [row_len, hK]; decide) h2) ?_
 refine step_pure rfl (pure_build_struct (zs := row (zeros 96)) (pl := [(0, 32), (32, 64)]) rfl zero39 rfl rfl rfl hb) ?_
 refine step_store_agg 0 rfl rfl rfl (row_one _) rfl (by rw [row_len]; exact hK) rfl rfl (Nat.le_of_ble_eq_true rfl) (splice_all (by rw [row_len, hK]; rfl)) ?_
 refine step_nil ?_
 exact c_ret ⟨_, res_cell_agg (i := 0) Try.results14 rfl rfl rfl rfl rfl (by show 0 + 96 ≤ (row K).length; rw [row_len, hK]; decide) (ints_whole _ _ 96 hK), rfl⟩
end Go.Proofs.Ythieegnhjoehbaa
