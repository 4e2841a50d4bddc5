/- A part added to a hash: walked. -/
import Derived.Test.YthieegnhjoehbaaS2
import Derived.Test.YthieegnhjoehbaaFG
import Derived.Test.YthieegnhjoehbaaVg
import Derived.Test.YthieegnhjoehbaaVh
namespace Go.Proofs.Ythieegnhjoehbaa
open Go.RowKit Go.Vc
set_option linter.unusedVariables false
/-- A hash's cells. -/
abbrev hsB (V : V8) (v : Value) (n : Int) (bg : Bool) : List Value := wRow V.l ++ [v, .int .i64 n, .bool bg]
/-- A hash to which that was added, or that is empty yet. -/
def HsC (C : Addr → Value → Prop) (t : List Int) (cs : List Value) : Prop := ∃ V v bg, cs = hsB V v (t.length : Nat) bg ∧ (bg = true ∧ V = hashV firstV t ∨ bg = false ∧ t = []) ∧ SlC C 1 v (left t).length (row (left t))
def HsT (C : Addr → Value → Prop) (t : List Int) (cs : List Value) : Prop := ∃ v, cs = hsB (hashV firstV t) v (t.length : Nat) true ∧ SlC C 1 v (left t).length (row (left t))
theorem HsT.c {C : Addr → Value → Prop} {t : List Int} {cs : List Value} (h : HsT C t cs) : HsC C t cs := by
 obtain ⟨v, rfl, h⟩ := h
 exact ⟨_, v, true, rfl, .inl ⟨rfl, rfl⟩, h⟩
theorem HsT.mono {C C' : Addr → Value → Prop} {t : List Int} {cs : List Value} (h : HsT C t cs) (hC : ∀ p x, C p x → C' p x) : HsT C' t cs := by
 obtain ⟨v, rfl, h⟩ := h
 exact ⟨v, rfl, h.mono hC⟩
theorem HsC.mono {C C' : Addr → Value → Prop} {t : List Int} {cs : List Value} (h : HsC C t cs) (hC : ∀ p x, C p x → C' p x) : HsC C' t cs := by
 obtain ⟨V, v, bg, rfl, h1, h⟩ := h
 exact ⟨V, v, bg, rfl, h1, h.mono hC⟩
def AdR (t : List Int) (b : Nat) (u : Value) (m1 : Mem) (C : Addr → Value → Prop) : Prop := u = .tuple #[] ∧ ∃ cs, m1 = [⟨b, cs, 115⟩] ∧ HsT C t cs
theorem adR_mono (t : List Int) (b : Nat) : ∀ v m1 (C C' : Addr → Value → Prop), (∀ p x, C p x → C' p x) → AdR t b v m1 C → AdR t b v m1 C' := by
 rintro u m1 C C' hC ⟨rfl, cs, rfl, h⟩
 exact ⟨rfl, cs, rfl, h.mono hC⟩
theorem absV_succ (v : V8) (k : Nat) (L : List Int) : absV v (k + 1) L = mixV (absV v k L) ((L.drop (64 * k)).take 64) := absV_app v k 1 L
theorem row_sub (l : List Int) (o n : Nat) : ((row l).drop o).take n = row ((l.drop o).take n) := ints_sub .u8 l o n
theorem left_bytes {t : List Int} (h : Bytes t) : Bytes (left t) := fun x hx => h x (List.mem_of_mem_drop hx)
set_option maxHeartbeats 1000000 in
set_option maxRecDepth 10000 in
theorem add_W (t B : List Int) (cs : List Value) (b : Nat) (v : Value) (w : World) {Z : Nat → Prop} (hm : Has w [⟨b, cs, 115⟩]) (hZ : ∀ k, w.heap.size ≤ k → Z k) (hZ0 : ∀ k ∈ blks [⟨b, cs, 115⟩], Z k)
  (ht : HsC (fun p x => w.cell? p = some x ∧ Z p.block ∧ p.block ∉ blks [⟨b, cs, 115⟩]) t cs) (hv : SlC (fun p x => w.cell? p = some x ∧ Z p.block ∧ p.block ∉ blks [⟨b, cs, 115⟩]) 1 v B.length (row B))
  (hbt : Bytes t) (hbB : Bytes B) (hle : t.length + B.length ≤ 1000000) : Wm tb 66 [.pointer (some ⟨b, 0, none⟩), v] w Z [⟨b, cs, 115⟩] (AdR (t ++ B) b) := by
 obtain ⟨V, r, bg, rfl, hV, hr⟩ := ht
 replace hr := hr.mono cz_startM
 replace hv := hv.mono cz_startM
 obtain ⟨rb, rc, rfl, hrc⟩ := slc_str hr
 obtain ⟨bb, bc, rfl, hbc⟩ := slc_str hv
 refine wm_of (fn := Try.f66) Try.func66 rfl Try.ntmps66 rfl hm hZ hZ0 (adR_mono _ _) (fun on => ?_)
 generalize hm0 : [(⟨b, hsB V (.slice rb (left t).length rc) (t.length : Nat) bg, 115⟩ : Ent)] = m0 at on hr hv ⊢
 have hll := left_len t
 repeat refine s_seqs ?_
 refine s_reg ?_
 refine qm rfl rfl ?_
 refine step_pure rfl (pure_ptr_eql rfl rfl rfl rfl) ?_
 refine Vc.step_end (fun a w ok => ?_)
 (refine WPs.run ?_ a w ok; clear ok w a)
 repeat refine s_seqs ?_
 refine s_cond_no rfl rfl ?_
 refine s_skip fun a w ok => WPs.run ?_ a w ok
 clear ok w a
 subst hm0
 repeat refine s_seqs ?_
 refine s_reg ?_
 refine qm rfl rfl ?_
 refine step_pure rfl (pure_nilCheck rfl) ?_
 refine step_pure rfl (pure_fieldAddr rfl rfl rfl rfl rfl (by decide)) ?_
 refine step_pure rfl (pure_load (i := 0) rfl rfl rfl rfl rfl rfl) ?_
 refine step_pure rfl (pure_not rfl) ?_
 refine Vc.step_end (fun a w ok => ?_)
 (refine WPs.run ?_ a w ok; clear ok w a)
 repeat refine s_seqs ?_
 refine s_meet [(0, .pointer (some ⟨b, 0, none⟩)), (1, .slice bb B.length bc)] [⟨b, hsB (hashV firstV t) (.slice rb (left t).length rc) (t.length : Nat) true, 115⟩] ?_ (fun a w ok => WPs.run ?_ a w ok)
 ·rcases hV with ⟨rfl, rfl⟩ | ⟨rfl, rfl⟩
  ·repeat refine c_seq ?_
   refine c_cond_no rfl rfl ?_
   exact c_skip (less_of ⟨rfl, rfl, trivial⟩ rfl)
  ·repeat refine c_seq ?_
   refine c_cond_yes rfl rfl ?_
   have hf := fun w => first_any w
   rw [show hashV firstV [] = firstV from rfl]
   generalize firstV = F0 at *
   repeat refine c_seq ?_
   refine c_region ?_
   refine qm rfl rfl ?_
   refine qm rfl rfl ?_
   refine step_gives rfl fun83 rfl (fun w _ _ => hf w) ?_
   refine step_pure rfl (pure_nilCheck rfl) ?_
   refine step_pure rfl (pure_fieldAddr rfl rfl rfl rfl rfl (by decide)) ?_
   refine step_store_agg 0 rfl rfl rfl (wRow_one _) rfl (by rw [wRow_len]; rfl) rfl rfl (Nat.le_of_ble_eq_true rfl) (show _ = hsB F0 (.slice rb (left []).length rc) (([] : List Int).length : Nat) false from rfl) ?_
   refine step_pure rfl (pure_nilCheck rfl) ?_
   refine step_pure rfl (pure_fieldAddr rfl rfl rfl rfl rfl (by decide)) ?_
   refine step_store 0 rfl rfl rfl rfl rfl rfl rfl rfl (by exact Nat.le_of_ble_eq_true rfl) rfl ?_
   refine step_nil ?_
   exact less_of ⟨rfl, rfl, trivial⟩ rfl
 obtain ⟨V1, hV1⟩ : ∃ x, x = hashV firstV t := ⟨_, rfl⟩
 rw [← hV1]
 repeat refine s_seqs ?_
 refine s_reg ?_
 refine qm rfl rfl ?_
 refine step_pure rfl (pure_nilCheck rfl) ?_
 refine step_pure rfl (pure_fieldAddr rfl rfl rfl rfl rfl (by decide)) ?_
 refine step_pure rfl (pure_load (i := 0) rfl rfl rfl rfl rfl rfl) ?_
 refine qm rfl rfl ?_
 refine step_pure rfl (pure_len_slice rfl rfl rfl) ?_
 refine step_as rfl (pure_add64 rfl rfl (by omega) (by omega)) (show _ = Value.int .i64 ((t ++ B).length : Nat) from by rw [List.length_append]; rfl) ?_
 refine step_pure rfl (pure_nilCheck rfl) ?_
 refine step_pure rfl (pure_fieldAddr rfl rfl rfl rfl rfl (by decide)) ?_
 refine step_store 0 rfl rfl rfl rfl rfl rfl rfl rfl (by exact Nat.le_of_ble_eq_true rfl) rfl ?_
 refine Vc.step_end (fun a w ok => ?_)
 (refine WPs.run ?_ a w ok; clear ok w a)
 repeat refine s_seqs ?_
 refine s_reg ?_
 refine qm rfl rfl ?_
 refine qm rfl rfl ?_
 refine step_pure rfl (pure_nilCheck rfl) ?_
 refine step_pure rfl (pure_fieldAddr rfl rfl rfl rfl rfl (by decide)) ?_
 refine step_pure rfl (pure_load (i := 0) rfl rfl rfl rfl rfl rfl) ?_
 refine step_hole ?_
 refine step_app8 (L := []) 0 rfl rfl (sl_nil ty5 5 (by decide)) rfl (hr.mono Cz.cel) rfl (by omega) (fun base1 cap1 e1 hs1 => ?_)
 refine qm rfl rfl ?_
 refine step_app8 0 rfl rfl hs1 rfl (hv.mono Cz.cel) rfl (by omega) (fun base2 cap2 e2 hs2 => ?_)
 refine step_pure rfl (pure_nilCheck rfl) ?_
 refine step_pure rfl (pure_fieldAddr rfl rfl rfl rfl rfl (by decide)) ?_
 refine step_store 1 rfl rfl rfl rfl rfl rfl rfl rfl (by exact Nat.le_of_ble_eq_true rfl) rfl ?_
 refine Vc.step_end (fun a w ok => ?_)
 (refine WPs.run ?_ a w ok; clear ok w a)
 refine s_let 0 rfl (fun E2 g hc => ?_)
 replace hr := slis_cz hs2 (hc _ on.sc)
 replace on := on.next g
 replace hr : SlC (Cz Z E2) 1 (.slice base2 (0 + (left t).length + B.length) cap2) (0 + (left t).length + B.length) (row (left t ++ B)) := hr
 have hL : 0 + (left t).length + B.length = (left t ++ B).length := by rw [List.length_append]; omega
 rw [hL] at hr ⊢
 have hlb : Bytes (left t ++ B) := (left_bytes hbt).append hbB
 have hend := left_app t B
 rw [← hV1] at hend
 have hL2 : (left t ++ B).length ≤ 1000000 := by omega
 clear hs1 hs2 hc g hv hV hL hV1
 generalize left t ++ B = L at *
 repeat refine s_seqs ?_
 refine s_block ?_
 repeat refine s_seqs ?_
 refine s_loopP (α := Nat × Option Addr × Nat) (fun x => [(0, .pointer (some ⟨b, 0, none⟩))]) (fun x => [⟨b, hsB (absV V1 x.1 L) (.slice x.2.1 (L.length - 64 * x.1) x.2.2) ((t ++ B).length : Nat) true, 115⟩])
  (fun x E => 64 * x.1 ≤ L.length ∧ SlC (Cz Z E) 1 (.slice x.2.1 (L.length - 64 * x.1) x.2.2) (L.length - 64 * x.1) (row (L.drop (64 * x.1)))) (fun x => L.length - 64 * x.1) (0, base2, cap2) ⟨by omega, hr⟩ (less_of ⟨rfl, trivial⟩ rfl) ?_
 rintro ⟨k, xb, xc⟩ E3 ⟨hk, hr⟩ g
 replace on := on.next g
 clear g
 dsimp only at hk hr ⊢
 have hsc := absV_succ V1 k L
 have hxc : L.length - 64 * k ≤ xc := by
  obtain ⟨_, _, he, h, -, -⟩ := id hr
  cases he
  exact h
 repeat refine s_seqs ?_
 refine s_reg ?_
 refine qm rfl rfl ?_
 refine step_pure rfl (pure_nilCheck rfl) ?_
 refine step_pure rfl (pure_fieldAddr rfl rfl rfl rfl rfl (by decide)) ?_
 refine step_pure rfl (pure_load (i := 0) rfl rfl rfl rfl rfl rfl) ?_
 refine step_pure rfl (pure_len_slice rfl rfl rfl) ?_
 refine step_pure rfl (pure_geq rfl rfl) ?_
 refine Vc.step_end (fun a w ok => ?_)
 (refine WPs.run ?_ a w ok; clear ok w a)
 repeat refine s_seqs ?_
 refine s_cond rfl (fun h => ?_) (fun h => ?_)
 ·have hlt : 64 * k + 64 ≤ L.length := by have := of_decide_eq_true h; omega
  clear h
  refine s_skip fun a w ok => WPs.run ?_ a w ok
  clear ok w a
  repeat refine s_seqs ?_
  refine s_block ?_
  have hB64 : ((L.drop (64 * k)).take 64).length = 64 := by rw [List.length_take, List.length_drop]; omega
  have hs1 := slc_sub (lo := 0) (hi := 64) hr (by omega) (by omega)
  have hs2 := slc_sub (lo := 64) (hi := L.length - 64 * k) hr (by omega) (by omega)
  rw [Nat.zero_mul, List.drop_zero, Nat.sub_zero, Nat.mul_one, show (row (L.drop (64 * k))).take 64 = row ((L.drop (64 * k)).take 64) from (List.map_take ..).symm] at hs1
  rw [Nat.mul_one, Nat.mul_one, List.take_of_length_le (by rw [List.length_drop, row_len, List.length_drop]; exact Nat.le_refl _), show (row (L.drop (64 * k))).drop 64 = row ((L.drop (64 * k)).drop 64) from (List.map_drop ..).symm, List.drop_drop] at hs2
  rw [show 64 * k + 64 = 64 * (k + 1) by omega, show L.length - 64 * k - 64 = L.length - 64 * (k + 1) by omega] at hs2
  have hmx := fun w' (kp : Keep E3.w0 w' E3.ws) => mixed_any (absV V1 k L) ((L.drop (64 * k)).take 64) (subS xb xc 1 0 64) w' hB64 (hlb.sub _ _) (by rw [hB64]; exact hs1.mono (Cz.now kp))
  rw [← hsc] at hmx
  obtain ⟨yb, yc, hy⟩ : ∃ yb yc, subS xb xc 1 64 (L.length - 64 * k) = .slice yb (L.length - 64 * (k + 1)) yc :=
   ⟨if xc = 64 then xb else xb.map (·.add (64 * 1)), xc - 64, by unfold subS; rw [show L.length - 64 * k - 64 = L.length - 64 * (k + 1) by omega]⟩
  rw [hy] at hs2
  obtain ⟨V3, hV3⟩ : ∃ x, x = absV V1 (k + 1) L := ⟨_, rfl⟩
  rw [← hV3] at hmx
  generalize absV V1 k L = V2 at *
  repeat refine s_seqs ?_
  refine s_dreg [1, 9, 17, 25, 33, 43, 49, 57, 65, 75, 81, 91, 97, 105, 113, 123, 129, 137, 145, 156, 161, 169, 180] ([⟨b, hsB V2 (.slice xb (L.length - 64 * k) xc) ((t ++ B).length : Nat) true, 115⟩]) follows (by kernel_rfl) ?_
  refine qd rfl rfl rfl rfl ?_
  refine qd rfl rfl rfl rfl ?_
  refine qd rfl rfl rfl rfl ?_
  refine d_pure0 rfl rfl rfl (pure_nilCheck rfl) ?_
  refine d_pure0 rfl rfl rfl (pure_fieldAddr rfl rfl rfl rfl rfl (by decide)) ?_
  refine d_pure1 rfl rfl rfl (pure_load_agg (i := 0) (vs := wRow V2.l) rfl rfl rfl rfl rfl (Nat.le_of_ble_eq_true rfl) (by rfl)) (by exact SubMem.refl _) ?_
  refine qd rfl rfl rfl rfl ?_
  refine d_pure0 rfl rfl rfl (pure_nilCheck rfl) ?_
  refine d_pure0 rfl rfl rfl (pure_fieldAddr rfl rfl rfl rfl rfl (by decide)) ?_
  refine d_pure1 rfl rfl rfl (pure_load (i := 0) rfl rfl rfl rfl rfl rfl) (by exact SubMem.refl _) ?_
  refine d_as0 rfl rfl rfl (pure_sub_hi rfl rfl rfl rfl rfl (by omega) (by omega)) (show _ = subS xb xc 1 0 64 from rfl) ?_
  refine d_gives rfl rfl rfl fun84 rfl (fun w' hh kp => hmx w' kp) (by exact SubMem.refl _) ?_
  refine qd rfl rfl rfl rfl ?_
  refine d_pure0 rfl rfl rfl (pure_nilCheck rfl) ?_
  refine d_pure0 rfl rfl rfl (pure_fieldAddr rfl rfl rfl rfl rfl (by decide)) ?_
  refine d_pure1 rfl rfl rfl (pure_load (i := 0) rfl rfl rfl rfl rfl rfl) (by exact SubMem.refl _) ?_
  refine d_as0 rfl rfl rfl (pure_sub_lo rfl rfl rfl rfl rfl (by omega) (by omega)) hy ?_
  refine d_pure0 rfl rfl rfl (pure_nilCheck rfl) ?_
  refine d_pure0 rfl rfl rfl (pure_fieldAddr rfl rfl rfl rfl rfl (by decide)) ?_
  refine d_store_agg 0 rfl rfl rfl rfl rfl (wRow_one _) rfl (by rw [wRow_len]; rfl) rfl rfl (Nat.le_of_ble_eq_true rfl) (show _ = hsB V3 (.slice xb (L.length - 64 * k) xc) ((t ++ B).length : Nat) true from rfl) rfl rfl ?_
  refine d_pure0 rfl rfl rfl (pure_nilCheck rfl) ?_
  refine d_pure0 rfl rfl rfl (pure_fieldAddr rfl rfl rfl rfl rfl (by decide)) ?_
  refine d_store 0 rfl rfl rfl rfl rfl rfl rfl rfl rfl rfl (by exact Nat.le_of_ble_eq_true rfl) rfl rfl rfl ?_
  refine d_end (fun a w ok => ?_)
  refine ⟨(k + 1, yb, yc), E3, ⟨hlt, hs2⟩, by show L.length - 64 * (k + 1) < L.length - 64 * k; omega, Gt.refl _, Less.ok ?_ ok⟩
  exact less_of ⟨rfl, trivial⟩ (by rw [hV3]; rfl)
 ·have hlt : L.length < 64 * k + 64 := by have := of_decide_eq_false h; omega
  have hke : k = L.length / 64 := by omega
  have hre : L.length - 64 * k = (left L).length := by unfold left; rw [List.length_drop, hke]
  refine s_exit fun a w ok => ?_
  refine ends_wm on (.inl rfl) ok (res_none rfl) (m1 := [_]) (mr := []) (List.Perm.refl _) (adR_mono _ _) ⟨rfl, _, rfl, .slice xb (L.length - 64 * k) xc, ?_, ?_⟩
  ·rw [hend.2]
   unfold hashV
   rw [hke]
  ·rw [hend.1, ← hre]
   have : left L = L.drop (64 * k) := by unfold left; rw [hke]
   rw [this]
   exact hr
end Go.Proofs.Ythieegnhjoehbaa
