/- The document's keys of a secret: walked. -/
import Derived.Test.YthieegnhjoehbaaS10
namespace Go.Proofs.Ythieegnhjoehbaa
open Go.RowKit Go.Vc
set_option linter.unusedVariables false
set_option maxHeartbeats 2000000 in
set_option maxRecDepth 100000 in
theorem rderive_any (secret : List Int) (kv : Value) (w : World) (hk : SlC (At w) 1 kv secret.length (row secret)) (hkb : Bytes secret) (hkl : secret.length ≤ 100000) : Gives tb 16 [kv] w (.agg (row (derK secret)).toArray) := by
 have he : ∀ i, (dEnc secret i).length = 16 := fun i => tagF_len _ _
 have hm : ∀ i, (dMac secret i).length = 32 := fun i => macF_len _ _
 have hS0 : kS (dEnc secret) (dMac secret) 0 = zeros 96 := rfl
 have hSl := fun i => kS_len he hm i
 have hml := fun i => macF_len secret (encN i)
 have hge : ∀ i j, j < 16 → (macF secret (encN i)).getD j 0 = (dEnc secret i).getD j 0 := fun i j h => by
  rw [List.getD_eq_getElem?_getD, List.getD_eq_getElem?_getD, List.getElem?_take, if_pos h]
 have hdk : derK secret = kS (dEnc secret) (dMac secret) 2 := rfl
 replace hk : SlC (Cz (fun _ => True) ⟨w, [], []⟩) 1 kv secret.length (row secret) := hk.mono (fun p x h => ⟨⟨h, by simp⟩, trivial⟩)
 refine gives_ofk (fn := Try.f16) Try.func16 rfl Try.ntmps16 rfl (fun on => ?_)
 rw [hdk]
 obtain ⟨MF, hMF⟩ : ∃ f : List Int → List Int, f = macF secret := ⟨_, rfl⟩
 have hrm := fun w' v t (hv : SlC (At w') 1 v t.length (row t)) (h1 : SlC (At w') 1 kv secret.length (row secret)) (hb : Bytes t) (hl : t.length ≤ 100000) => rmacSum_any secret t kv v w' h1 hv hkb hb hkl hl
 have hdm : ∀ i, MF (macN i) = dMac secret i := fun i => by rw [hMF]
 rw [← hMF] at hml hge
 simp only [← hMF] at hrm
 generalize dEnc secret = de at *
 generalize dMac secret = dm at *
 have hnb : ∀ i, (bytesOf ((⟨#[109, 97, 99, 32]⟩ : ByteArray) ++ nmS i)) = macN i := macN_of2
 have hnb2 : ∀ i, (bytesOf ((⟨#[101, 110, 99, 32]⟩ : ByteArray) ++ nmS i)) = encN i := encN_of2
 have hnl : ∀ i, (macN i).length = 10 := fun i => by unfold macN; rw [List.length_append, bytesOf_len, nmS_le]; rfl
 have hnl2 : ∀ i, (encN i).length = 10 := fun i => by unfold encN; rw [List.length_append, bytesOf_len, nmS_le]; rfl
 have hby : ∀ i, Bytes (macN i) := fun i => by rw [← hnb]; exact bytesOf_bytes _
 have hby2 : ∀ i, Bytes (encN i) := fun i => by rw [← hnb2]; exact bytesOf_bytes _
 have hsz : ∀ i, (nmS i).size = 6 := nmS_le
 have hn0 : (⟨#[115, 101, 114, 118, 101, 114]⟩ : ByteArray) = nmS 0 := rfl
 have hn1 : (⟨#[99, 108, 105, 101, 110, 116]⟩ : ByteArray) = nmS 1 := rfl
 clear hdk
 repeat refine s_seqs ?_
 refine s_reg ?_
 refine step_alloc rfl zero39 (fun b2 => ?_)
 refine Vc.step_end (fun a w ok => ?_)
 first | (refine WPs.run ?_ a w ok; clear ok w a) | skip
 repeat refine s_seqs ?_
 refine s_reg ?_
 refine step_pure rfl (pure_build_struct (pl := [(0, 32), (32, 64)]) rfl zero39 rfl rfl rfl rfl) ?_
 refine step_alloc rfl zero39 (fun b3 => ?_)
 refine step_store_agg 0 rfl rfl rfl (of_one rfl) rfl rfl rfl rfl (Nat.le_of_ble_eq_true rfl) (show _ = row (kS de dm 0) from by rw [hS0]; rfl) ?_
 refine Vc.step_end (fun a w ok => ?_)
 first | (refine WPs.run ?_ a w ok; clear ok w a) | skip
 repeat refine s_seqs ?_
 refine s_reg ?_
 refine step_pure rfl (pure_build_arr rfl zero62 rfl rfl rfl rfl) ?_
 refine step_alloc rfl zero62 (fun b4 => ?_)
 refine step_store_agg 0 rfl rfl rfl (of_one rfl) rfl rfl rfl rfl (Nat.le_of_ble_eq_true rfl) (show _ = [Value.string (nmS 0), .string (nmS 1)] from rfl) ?_
 refine Vc.step_end (fun a w ok => ?_)
 first | (refine WPs.run ?_ a w ok; clear ok w a) | skip
 repeat refine s_seqs ?_
 refine s_reg ?_
 refine qa rfl rfl ?_
 refine Vc.step_end (fun a w ok => ?_)
 first | (refine WPs.run ?_ a w ok; clear ok w a) | skip
 repeat refine s_seqs ?_
 refine s_meetP (α := Unit) (fun _ => [(2, .pointer (some ⟨b2, 0, none⟩)), (3, .pointer (some ⟨b3, 0, none⟩))]) (fun _ => [⟨b3, row (kS de dm 2), 39⟩, ⟨b2, row (zeros 96), 39⟩]) (fun _ _ => True) ?_ ?_
 ·repeat refine s_seqs ?_
  refine s_block ?_
  repeat refine s_seqs ?_
  refine s_loopP (α := Nat) (fun i => [(0, kv), (2, .pointer (some ⟨b2, 0, none⟩)), (3, .pointer (some ⟨b3, 0, none⟩)), (4, .pointer (some ⟨b4, 0, none⟩)), (5, .int .i64 i)])
   (fun i => [⟨b4, [.string (nmS 0), .string (nmS 1)], 62⟩, ⟨b3, row (kS de dm i), 39⟩, ⟨b2, row (zeros 96), 39⟩]) (fun i _ => i ≤ 2) (fun i => 2 - i) 0 (by decide) (less_of ⟨rfl, rfl, rfl, rfl, rfl, trivial⟩ rfl) ?_
  intro i E1 hi g
  have g1 := g
  replace on := on.next g
  replace hk := hk.mono g.cz
  clear g
  repeat refine s_seqs ?_
  refine s_reg ?_
  refine qm rfl rfl ?_
  refine step_pure rfl (pure_lss rfl rfl) ?_
  refine Vc.step_end (fun a w ok => ?_)
  first | (refine WPs.run ?_ a w ok; clear ok w a) | skip
  repeat refine s_seqs ?_
  refine s_cond rfl (fun h => ?_) (fun h => ?_)
  ·have hlt : i < 2 := by have := of_decide_eq_true h; omega
   clear h
   refine s_skip fun a w ok => WPs.run ?_ a w ok
   clear ok w a
   have hname : [Value.string (nmS 0), .string (nmS 1)][i]? = some (.string (nmS i)) := by
    obtain rfl | rfl : i = 0 ∨ i = 1 := by omega
    ·rfl
    ·rfl
   have hT0 := kT_zero he hm hlt
   have hTl := fun {j : Nat} (h : j ≤ 16) => kT_len he hm i h
   have hTn := fun {j : Nat} (h : j < 16) => kT_next he (m := dm) hlt h
   have hTe := kT_end he (m := dm) hlt
   have hT0' : splice (kS de dm i) (32 + 32 * i) (dm i) = kT de dm i 0 := hT0
   have hsp : splice (row (kS de dm i)) (32 + 32 * i) (row (dm i)) = row (kT de dm i 0) := by rw [ints_splice, hT0']
   have hl0 := hSl i
   have hmi := hm i
   have hmli := hml i
   have hgei := hge i
   clear hT0 hT0'
   repeat refine s_seqs ?_
   refine s_meetP (α := Unit) (fun _ => [(0, kv), (2, .pointer (some ⟨b2, 0, none⟩)), (3, .pointer (some ⟨b3, 0, none⟩)), (4, .pointer (some ⟨b4, 0, none⟩)), (5, .int .i64 i)])
    (fun _ => [⟨b4, [.string (nmS 0), .string (nmS 1)], 62⟩, ⟨b3, row (kS de dm (i + 1)), 39⟩, ⟨b2, row (zeros 96), 39⟩]) (fun _ _ => True) ?_ ?_
   ·repeat refine s_seqs ?_
    refine s_block ?_
    obtain ⟨K2, hK2⟩ : ∃ x, x = kS de dm (i + 1) := ⟨_, rfl⟩
    rw [← hK2] at hTe ⊢
    clear hK2
    generalize kT de dm i = TT at *
    generalize hK0 : kS de dm i = K0 at *
    clear hK0
    repeat refine s_seqs ?_
    refine s_reg ?_
    refine qm rfl rfl ?_
    refine qm rfl rfl ?_
    refine qm rfl rfl ?_
    refine step_pure rfl (pure_ix (off' := i) rfl rfl rfl rfl rfl (by omega) (by omega) (by show 0 + (i : Int).toNat * 1 = _; omega)) ?_
    refine step_pure rfl (pure_load (i := 0) rfl rfl rfl rfl rfl hname) ?_
    refine step_pure rfl (pure_concat rfl rfl (by rw [hsz]; decide)) ?_
    refine step_strbytes rfl rfl rfl rfl rfl rfl rfl rfl (fun tv E2 g htv => ?_)
    replace htv := htv _ on.sc
    have g2 := g
    replace on := on.next g
    replace hk := hk.mono g.cz
    clear g
    rw [hnb i] at htv
    refine step_gives rfl fun36 rfl (fun w' hh kp => hrm w' tv (macN i) (htv.mono (Cz.now kp)) (hk.mono (Cz.now kp)) (hby i) (by rw [hnl]; decide)) ?_
    rw [hdm i]
    refine step_pure rfl (pure_fieldAddr rfl rfl rfl rfl rfl (by decide)) ?_
    refine step_pure rfl (pure_ix (off' := 32 + 32 * i) rfl rfl rfl rfl rfl (by omega) (by omega) (by show 0 + 32 + (i : Int).toNat * 32 = _; omega)) ?_
    refine step_store_agg 1 rfl rfl rfl (row_one _) rfl (by rw [row_len]; exact hmi) rfl rfl (by show 32 + 32 * i + 32 ≤ (row K0).length; rw [row_len]; omega) hsp ?_
    refine Vc.step_end (fun a w ok => ?_)
    first | (refine WPs.run ?_ a w ok; clear ok w a) | skip
    repeat refine s_seqs ?_
    refine s_reg ?_
    refine qm rfl rfl ?_
    refine qm rfl rfl ?_
    refine step_pure rfl (pure_ix (off' := i) rfl rfl rfl rfl rfl (by omega) (by omega) (by show 0 + (i : Int).toNat * 1 = _; omega)) ?_
    refine step_pure rfl (pure_load (i := 0) rfl rfl rfl rfl rfl hname) ?_
    refine step_pure rfl (pure_concat rfl rfl (by rw [hsz]; decide)) ?_
    refine step_strbytes rfl rfl rfl rfl rfl rfl rfl rfl (fun tv2 E3 g htv2 => ?_)
    replace htv2 := htv2 _ on.sc
    have g3 := g
    replace on := on.next g
    replace hk := hk.mono g.cz
    clear g htv
    rw [hnb2 i] at htv2
    refine step_gives rfl fun36 rfl (fun w' hh kp => hrm w' tv2 (encN i) (htv2.mono (Cz.now kp)) (hk.mono (Cz.now kp)) (hby2 i) (by rw [hnl2]; decide)) ?_
    refine step_alloc rfl zero30 (fun b6 => ?_)
    refine step_store_agg 0 rfl rfl rfl (row_one _) rfl (by rw [row_len]; exact hmli) rfl rfl (Nat.le_of_ble_eq_true rfl) (splice_all (by rw [row_len, hmli]; rfl)) ?_
    refine Vc.step_end (fun a w ok => ?_)
    first | (refine WPs.run ?_ a w ok; clear ok w a) | skip
    repeat refine s_seqs ?_
    refine s_reg ?_
    refine qa rfl rfl ?_
    refine Vc.step_end (fun a w ok => ?_)
    first | (refine WPs.run ?_ a w ok; clear ok w a) | skip
    refine s_wp ?_
    repeat refine c_seq ?_
    refine c_block ?_
    generalize MF (encN i) = M at *
    repeat refine c_seq ?_
    refine c_loop (α := Nat) (fun j => [(0, kv), (2, .pointer (some ⟨b2, 0, none⟩)), (3, .pointer (some ⟨b3, 0, none⟩)), (4, .pointer (some ⟨b4, 0, none⟩)), (5, .int .i64 i), (6, .pointer (some ⟨b6, 0, none⟩)), (7, .int .i64 j)])
     (fun j => [⟨b6, row M, 30⟩, ⟨b4, [.string (nmS 0), .string (nmS 1)], 62⟩, ⟨b3, row (TT j), 39⟩, ⟨b2, row (zeros 96), 39⟩]) (fun j => j ≤ 16) (fun j => 16 - j) 0 (by decide) (less_of ⟨rfl, rfl, rfl, rfl, rfl, rfl, rfl, trivial⟩ rfl) ?_
    intro j hj
    repeat refine c_seq ?_
    refine c_region ?_
    refine qm rfl rfl ?_
    refine step_pure rfl (pure_lss rfl rfl) ?_
    refine step_nil ?_
    repeat refine c_seq ?_
    refine c_cond rfl (fun h => ?_) (fun h => ?_)
    ·have hjt : j < 16 := by have := of_decide_eq_true h; omega
     clear h
     refine c_skip ?_
     have hset := hTn hjt
     have hlen := hTl hj
     have hgm := row_get M j (by omega)
     rw [hgei j hjt] at hgm
     obtain ⟨T2, hT2⟩ : ∃ x, x = TT (j + 1) := ⟨_, rfl⟩
     rw [← hT2] at hset
     have hyl : (row (TT j)).length = 96 := by rw [row_len]; exact hlen
     repeat refine c_seq ?_
     refine c_meet [(0, kv), (2, .pointer (some ⟨b2, 0, none⟩)), (3, .pointer (some ⟨b3, 0, none⟩)), (4, .pointer (some ⟨b4, 0, none⟩)), (5, .int .i64 i), (6, .pointer (some ⟨b6, 0, none⟩)), (7, .int .i64 j)]
      [⟨b6, row M, 30⟩, ⟨b4, [.string (nmS 0), .string (nmS 1)], 62⟩, ⟨b3, row T2, 39⟩, ⟨b2, row (zeros 96), 39⟩] ?_ ?_
     ·repeat refine c_seq ?_
      refine c_block ?_
      generalize row (TT j) = Y at *
      repeat refine c_seq ?_
      refine d_region [1, 9, 17, 25, 35, 41, 49, 57, 68] follows (by kernel_rfl) ?_
      refine qd rfl rfl rfl rfl ?_
      refine qd rfl rfl rfl rfl ?_
      refine qd rfl rfl rfl rfl ?_
      refine d_pure0 rfl rfl rfl (pure_ix (off' := j) rfl rfl rfl rfl rfl (by omega) (by omega) (by show 0 + (j : Int).toNat * 1 = _; omega)) ?_
      refine d_pure1 rfl rfl rfl (pure_load (i := 0) rfl rfl rfl rfl rfl hgm) (by first | exact SubMem.refl _ | exact (SubMem.refl _).cons | exact (SubMem.refl _).cons.cons | exact (SubMem.refl _).cons.cons.cons | exact (SubMem.refl _).cons.cons.cons.cons | exact (fun w hh => Has.sublist (by repeat (first | exact List.Sublist.refl _ | exact List.nil_sublist _ | apply List.Sublist.cons_cons | apply List.Sublist.cons)) hh)) ?_
      refine d_pure0 rfl rfl rfl (pure_fieldAddr rfl rfl rfl rfl rfl (by decide)) ?_
      refine d_pure0 rfl rfl rfl (pure_ix (off' := 16 * i) rfl rfl rfl rfl rfl (by omega) (by omega) (by show 0 + 0 + (i : Int).toNat * 16 = _; omega)) ?_
      refine d_pure0 rfl rfl rfl (pure_ix (off' := 16 * i + j) rfl rfl rfl rfl rfl (by omega) (by omega) (by show 16 * i + (j : Int).toNat * 1 = _; omega)) ?_
      refine d_store 2 rfl rfl rfl rfl rfl rfl rfl rfl rfl rfl (by show 16 * i + j < Y.length; omega) hset rfl rfl ?_
      refine d_nil ?_
      exact less_of ⟨rfl, rfl, rfl, rfl, rfl, rfl, rfl, trivial⟩ rfl
     ·repeat refine c_seq ?_
      refine c_region ?_
      refine qm rfl rfl ?_
      first | refine step_pure rfl (pure_add64 rfl rfl (by omega) (by omega)) ?_ | refine step_pure rfl (pure_add rfl rfl) ?_
      refine qa rfl rfl ?_
      refine step_nil ?_
      exact ⟨j + 1, hjt, by omega, less_of ⟨rfl, rfl, rfl, rfl, rfl, rfl, rfl, trivial⟩ (by rw [hT2])⟩
    ·have hje : j = 16 := by have := of_decide_eq_false h; omega
     subst hje
     refine c_exit ?_
     intro a w2 ok
     refine ⟨(), E3, trivial, g2.trans g3, Less.ok ?_ ok⟩
     rw [hTe]
     exact less_sub ⟨rfl, rfl, rfl, rfl, rfl, trivial⟩ (by repeat (first | exact List.Sublist.refl _ | exact List.nil_sublist _ | apply List.Sublist.cons_cons | apply List.Sublist.cons))
   ·intro _ E4 _ g a w2 ok
    refine WPs.run ?_ a w2 ok
    clear ok w2 a
    repeat refine s_seqs ?_
    refine s_reg ?_
    refine qm rfl rfl ?_
    first | refine step_pure rfl (pure_add64 rfl rfl (by omega) (by omega)) ?_ | refine step_pure rfl (pure_add rfl rfl) ?_
    refine qa rfl rfl ?_
    refine Vc.step_end (fun a w ok => ?_)
    refine ⟨i + 1, E4, hlt, by omega, g, Less.ok ?_ ok⟩
    exact less_of ⟨rfl, rfl, rfl, rfl, rfl, trivial⟩ rfl
  ·have hie : i = 2 := by have := of_decide_eq_false h; omega
   subst hie
   refine s_exit fun a w ok => ?_
   refine ⟨(), E1, trivial, g1, Less.ok ?_ ok⟩
   exact less_sub ⟨rfl, rfl, trivial⟩ (by repeat (first | exact List.Sublist.refl _ | exact List.nil_sublist _ | apply List.Sublist.cons_cons | apply List.Sublist.cons))
 intro _ E2 _ g a w2 ok
 refine WPs.run ?_ a w2 ok
 clear ok w2 a
 replace on := on.next g
 have hl := hSl 2
 generalize kS de dm 2 = K at *
 repeat refine s_seqs ?_
 refine s_reg ?_
 refine step_pure rfl (pure_load_agg (i := 0) rfl rfl rfl rfl rfl (by show 0 + 96 ≤ (row K).length; rw [row_len, hl]; decide) (ints_whole _ _ 96 hl)) ?_
 refine step_store_agg 1 rfl rfl rfl (row_one _) rfl (by rw [row_len]; exact hl) rfl rfl (by show 0 + 96 ≤ (row (zeros 96)).length; rw [row_len, zeros_len]; decide) (splice_all (by rw [row_len, row_len, hl, zeros_len])) ?_
 refine Vc.step_end (fun a w ok => ?_)
 first | (refine WPs.run ?_ a w ok; clear ok w a) | skip
 exact s_ret fun a w ok => ends_k on (.inr rfl) ok (res_cell_agg (i := 1) Try.results16 rfl rfl rfl rfl rfl (by show 0 + 96 ≤ (row K).length; rw [row_len, hl]; decide) (ints_whole _ _ 96 hl))
end Go.Proofs.Ythieegnhjoehbaa
