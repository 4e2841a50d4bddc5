/- The document's reading of one frame, walked. -/
import Derived.Test.YtphpmallnlajjaaF32
namespace Go.Proofs.Ytphpmallnlajjaa
open Go.RowKit Go.Vc
set_option linter.unusedVariables false

theorem z68 : ZeroIs tb 68 (ints .i64 (nL [])) := zero68
theorem z69 : ZeroIs tb 69 (ints .i64 (aL [])) := zero69
theorem ix1 {u : Ty} (hu : u.size = 1) (k : Nat) : 0 + (k : Int).toNat * u.size = k := by rw [hu]; omega

def mF (b5 b4 b2 : Nat) (P : List (Int × Nat)) : Mem := [⟨b5, ints .i64 (aL P), 69⟩, ⟨b4, ints .i64 (nL P), 68⟩, ⟨b2, zfr, 33⟩]
def rF (base1 : Option Addr) (n cap1 b2 b4 b5 : Nat) (P : List (Int × Nat)) : Rs := [(0, .slice base1 n cap1), (2, .pointer (some ⟨b2, 0, none⟩)), (4, .pointer (some ⟨b4, 0, none⟩)), (5, .pointer (some ⟨b5, 0, none⟩)), (6, .int .i64 (P.length : Int))]
theorem d_buildSlice0 {B : Tb} {E : Env} {n : Nat} {all : List Oper} {rs : Rs} {m mS : Mem} {K : Act → World → Prop} {codes left : List Nat} {c : Nat} {dst : Option Tmp} {ty : TypeId} {pos : String} {aft : Array Edge} {gd : Option (Nat × Bool)}
    {T eT : TypeId} {d u : Ty} {f : Nat} (ho : opOf all c = some ⟨dst, .buildSlice T 0 #[], ty, pos, aft, gd⟩) (hk : cKd c = 2) (hc : chk all n rs ⟨dst, .buildSlice T 0 #[], ty, pos, aft, gd⟩ = some f)
    (hT : B.ty T = some d) (hd : d.desc = .slice eT) (hu : B.ty eT = some u) (hs : SubMem m mS) (hn : needsOf codes (cIx c) = cNd c)
    (h : ∀ b, WPd B E n all mS codes left ((f, .slice (some ⟨b, 0, none⟩) 0 0) :: rs) (⟨b, [], eT⟩ :: m) K) : WPd B E n all mS codes (c :: left) rs m K := by
  obtain ⟨h1, h2, h3⟩ := chk_ok hc
  refine d_only ho hk h1 (by rw [h2]; exact h3) (eff_buildSlice0 hT hd hu) ?_ hn
  rintro v m' ⟨b, rfl, rfl⟩
  rw [h2]
  exact ⟨fun _ => hs.cons, h b⟩
theorem oneP_no {b : List Int} (hb : Bytes b) (h : ∀ f r, fok f = true → b = fbytes f ++ r → False) : oneP b = none := by
  cases ho : oneP b with
  | none => rfl
  | some f =>
    obtain ⟨h1, h2⟩ := oneP_in hb ho
    exact absurd h2 (fun h2 => h f _ h1 h2)
theorem str_ne {a b : List Int} (ha : Bytes a) (hb : Bytes b) (h : a ≠ b) : ((str a).toList == (str b).toList) = false := by
  rw [beq_eq_false_iff_ne]
  intro h2
  exact h (str_inj ha hb ((str_list _ _).1 h2))
theorem fbytes_bytes {f : Fr} (h : Bytes f.data) : Bytes (fbytes f) := by
  intro x hx
  unfold fbytes at hx
  rcases List.mem_append.1 hx with hx | hx
  · rcases List.mem_append.1 hx with hx | hx
    · obtain ⟨n, _, hx⟩ := List.mem_flatMap.1 hx
      exact vb_bytes n x hx
    · exact h x hx
  · split at hx
    · have := List.eq_of_mem_replicate hx
      omega
    · cases hx

set_option maxHeartbeats 8000000 in
theorem one_P (b : List Int) (v : Value) (w : World) {Z : Nat → Prop} (hZ : ∀ b, w.heap.size ≤ b → Z b) (hv : SlC (At w) 1 v b.length (row b)) (hb : Bytes b) (hle : b.length ≤ 1000000) : GivesP tb 32 [v] w Z (OneR b) := by
  have hv : SlC (Cel ⟨w, [], []⟩) 1 v b.length (row b) := hv.mono fun p x h => ⟨h, by simp⟩
  obtain ⟨base1, cap1, rfl, hcap1⟩ := slc_str hv
  refine givesP_of (fn := Try.f32) Try.func32 rfl Try.ntmps32 rfl hZ (oneR_mono b) (fun on => ?_)
  repeat refine s_seqs ?_
  refine s_reg ?_
  refine step_alloc rfl zero33 (fun b2 => ?_)
  refine step_pure rfl (pure_assign rfl) ?_
  refine Vc.step_end (fun a w ok => ?_)
  first | (refine WPs.run ?_ a w ok; clear ok w a) | skip
  repeat refine s_seqs ?_
  refine s_reg ?_
  refine step_alloc rfl z68 (fun b4 => ?_)
  refine Vc.step_end (fun a w ok => ?_)
  first | (refine WPs.run ?_ a w ok; clear ok w a) | skip
  repeat refine s_seqs ?_
  refine s_reg ?_
  refine step_alloc rfl z69 (fun b5 => ?_)
  refine Vc.step_end (fun a w ok => ?_)
  first | (refine WPs.run ?_ a w ok; clear ok w a) | skip
  repeat refine s_seqs ?_
  refine s_reg ?_
  refine step_pure rfl (pure_assign rfl) ?_
  refine Vc.step_end (fun a w ok => ?_)
  first | (refine WPs.run ?_ a w ok; clear ok w a) | skip
  -- the numbers
  repeat refine s_seqs ?_
  refine s_meetP (α := Unit) (fun _ => [(0, .slice base1 b.length cap1), (2, .pointer (some ⟨b2, 0, none⟩)), (4, .pointer (some ⟨b4, 0, none⟩)), (5, .pointer (some ⟨b5, 0, none⟩)), (6, .int .i64 ((ps 40 b 0).length : Int))])
    (fun _ => [⟨b5, ints .i64 (aL (ps 40 b 0)), 69⟩, ⟨b4, ints .i64 (nL (ps 40 b 0)), 68⟩, ⟨b2, zfr, 33⟩]) (fun _ _ => True) ?_ ?_
  · repeat refine s_seqs ?_
    refine s_block ?_
    repeat refine s_seqs ?_
    refine s_loopP (α := List (Int × Nat)) (fun D => [(0, .slice base1 b.length cap1), (2, .pointer (some ⟨b2, 0, none⟩)), (4, .pointer (some ⟨b4, 0, none⟩)), (5, .pointer (some ⟨b5, 0, none⟩)), (6, .int .i64 (D.length : Int))])
      (fun D => [⟨b5, ints .i64 (aL D), 69⟩, ⟨b4, ints .i64 (nL D), 68⟩, ⟨b2, zfr, 33⟩]) (fun D _ => D.length ≤ 40 ∧ ps 40 b 0 = D ++ ps (40 - D.length) b (pA D D.length) ∧ pA D D.length ≤ b.length) (fun D => 40 - D.length) []
      ⟨Nat.zero_le _, rfl, Nat.zero_le _⟩ (less_of ⟨rfl, rfl, rfl, rfl, rfl, trivial⟩ rfl) ?_
    intro D E1 ⟨hD, hps, ho⟩ g
    replace on := on.next g
    replace hv := hv.mono g.mono
    repeat refine s_seqs ?_
    refine s_reg ?_
    refine step_pure rfl (pure_move rfl) ?_
    refine step_pure rfl (pure_lss rfl rfl) ?_
    refine Vc.step_end (fun a w ok => ?_)
    first | (refine WPs.run ?_ a w ok; clear ok w a) | skip
    repeat refine s_seqs ?_
    refine s_cond rfl (fun h => ?_) (fun h => ?_)
    · have hlt : D.length < 40 := by have := of_decide_eq_true h; omega
      clear h
      refine s_skip fun a w ok => WPs.run ?_ a w ok
      clear ok w a
      repeat refine s_seqs ?_
      refine s_block ?_
      have hsub := slc_sub (lo := pA D D.length) (hi := b.length) hv ho (Nat.le_refl _)
      have hdl : (b.drop (pA D D.length)).length = b.length - pA D D.length := List.length_drop
      rw [Nat.mul_one, Nat.mul_one, show ((row b).drop (pA D D.length)).take (b.length - pA D D.length) = row (b.drop (pA D D.length)) from by
        rw [List.take_of_length_le (by rw [List.length_drop, row_len]; omega)]; exact (List.map_drop ..).symm, ← hdl] at hsub
      have hdb : Bytes (b.drop (pA D D.length)) := fun y hy => hb y (List.mem_of_mem_drop hy)
      have hat := aL_at hD (i := D.length) (by omega)
      have hgs : ∀ n s, gt (b.drop (pA D D.length)) = some (n, s) → s ≤ b.length - pA D D.length := by
        intro n s hg
        have := (vb_gt hdb hg).2.2.2.1
        omega
      have hst := ps_stop (k := 40 - D.length) (b := b) (o := pA D D.length)
      have hgo := fun n s => ps_go (k := 40 - (D.length + 1)) (b := b) (o := pA D D.length) (n := n) (s := s)
      repeat refine s_seqs ?_
      refine s_reg ?_
      refine step_pure rfl (pure_move rfl) ?_
      refine step_pure rfl (pure_move rfl) ?_
      refine step_pure rfl (pure_ix rfl rfl rfl rfl rfl (by omega) (by omega) (ix1 rfl D.length)) ?_
      refine step_pure rfl (pure_load (i := 0) rfl rfl rfl rfl rfl hat) ?_
      refine step_as rfl (pure_sub_lo rfl rfl rfl rfl rfl (by omega) (by omega)) (show _ = subS base1 cap1 1 (pA D D.length) b.length from by show subS base1 cap1 1 (pA D D.length : Int).toNat b.length = _; rw [Int.toNat_natCast]) ?_
      refine step_gives rfl fun39 rfl (fun w' hh kp => rget_any (b.drop (pA D D.length)) _ w' (hsub.mono (fun p x h => h.now kp)).slv hdb (by omega)) ?_
      refine step_pure rfl (pure_move rfl) ?_
      refine step_pure rfl (pure_extract rfl rfl) ?_
      refine step_pure rfl (pure_extract rfl rfl) ?_
      refine step_pure rfl (pure_extract rfl rfl) ?_
      refine step_pure rfl (pure_assign rfl) ?_
      refine step_pure rfl (pure_assign rfl) ?_
      refine step_pure rfl (pure_assign rfl) ?_
      refine Vc.step_end (fun a w ok => ?_)
      first | (refine WPs.run ?_ a w ok; clear ok w a) | skip
      repeat refine s_seqs ?_
      refine s_reg ?_
      refine step_pure rfl (pure_move rfl) ?_
      refine step_pure rfl (pure_neq rfl rfl) ?_
      refine Vc.step_end (fun a w ok => ?_)
      first | (refine WPs.run ?_ a w ok; clear ok w a) | skip
      generalize hG : gt (b.drop (pA D D.length)) = G at *
      unfold gN gS gE
      rw [hG]
      cases G with
      | none =>
        repeat refine s_seqs ?_
        refine s_cond_yes rfl rfl ?_
        rw [hst rfl, List.append_nil] at hps
        refine s_exit fun a w ok => ⟨(), E1, trivial, g, Less.ok ?_ ok⟩
        rw [hps]
        exact less_of ⟨rfl, rfl, rfl, rfl, rfl, trivial⟩ rfl
      | some ns =>
        obtain ⟨n, s⟩ := ns
        repeat refine s_seqs ?_
        refine s_cond_no rfl rfl ?_
        refine s_skip fun a w ok => WPs.run ?_ a w ok
        clear ok w a
        have hs1 := hgs n s rfl
        have e1 : (((D.length + 1 : Nat) : Int)) = (D.length : Int) + 1 := rfl
        repeat refine s_seqs ?_
        refine s_reg ?_
        refine step_pure rfl (pure_move rfl) ?_
        refine step_pure rfl (pure_move rfl) ?_
        refine step_pure rfl (pure_ix rfl rfl rfl rfl rfl (by omega) (by omega) (ix1 rfl D.length)) ?_
        refine step_store 1 rfl rfl rfl rfl rfl rfl rfl rfl (by rw [ints_len, nL_len hD]; exact hlt) (nL_set (o := pA D D.length + s) hlt) ?_
        refine Vc.step_end (fun a w ok => ?_)
        first | (refine WPs.run ?_ a w ok; clear ok w a) | skip
        repeat refine s_seqs ?_
        refine s_reg ?_
        refine step_pure rfl (pure_move rfl) ?_
        refine step_as rfl (pure_add64 rfl rfl (by omega) (by omega)) (show _ = Value.int .i64 ((D.length + 1 : Nat) : Int) from rfl) ?_
        refine step_pure rfl (pure_move rfl) ?_
        refine step_pure rfl (pure_ix rfl rfl rfl rfl rfl (by omega) (by omega) (ix1 rfl D.length)) ?_
        refine step_pure rfl (pure_load (i := 0) rfl rfl rfl rfl rfl hat) ?_
        refine step_pure rfl (pure_move rfl) ?_
        refine step_as rfl (pure_add64 rfl rfl (by show -9223372036854775808 ≤ (pA D D.length : Int) + (s : Int); omega) (by show (pA D D.length : Int) + (s : Int) ≤ _; omega)) (show _ = Value.int .i64 ((pA D D.length + s : Nat) : Int) from rfl) ?_
        refine step_pure rfl (pure_ix rfl rfl rfl rfl rfl (by omega) (by omega) (ix1 rfl (D.length + 1))) ?_
        refine step_store 0 rfl rfl rfl rfl rfl rfl rfl rfl (by rw [ints_len, aL_len hD]; omega) (aL_set (n := n) hlt) ?_
        refine Vc.step_end (fun a w ok => ?_)
        first | (refine WPs.run ?_ a w ok; clear ok w a) | skip
        repeat refine s_seqs ?_
        refine s_reg ?_
        refine step_pure rfl (pure_move rfl) ?_
        first | refine step_pure rfl (pure_add64 rfl rfl (by omega) (by omega)) ?_ | refine step_pure rfl (pure_add rfl rfl) ?_
        refine step_pure rfl (pure_assign rfl) ?_
        refine Vc.step_end (fun a w ok => ?_)
        refine ⟨D ++ [(n, pA D D.length + s)], E1, ⟨?_, ?_, ?_⟩, ?_, Gt.refl _, Less.ok ?_ ok⟩
        · rw [List.length_append]; exact hlt
        · rw [List.length_append, List.length_singleton, pA_snoc, hps, show 40 - D.length = 40 - (D.length + 1) + 1 by omega, hgo n s rfl]
          simp
        · rw [List.length_append, List.length_singleton, pA_snoc]; omega
        · rw [List.length_append, List.length_singleton]; omega
        rw [List.length_append, List.length_singleton]
        exact less_of ⟨rfl, rfl, rfl, rfl, rfl, trivial⟩ rfl
    · have h40 : D.length = 40 := by have := of_decide_eq_false h; omega
      rw [h40, Nat.sub_self, show ps 0 b (pA D 40) = [] from rfl, List.append_nil] at hps
      refine s_exit fun a w ok => ⟨(), E1, trivial, g, Less.ok ?_ ok⟩
      rw [hps]
      exact less_of ⟨rfl, rfl, rfl, rfl, rfl, trivial⟩ rfl
  rintro - E1 - g a w ok
  refine WPs.run ?_ a w ok
  clear ok w a
  replace on := on.next g
  replace hv := hv.mono g.mono
  clear g
  -- what is known of them
  have hP40 := ps_len 40 b 0
  have hPA := pA_le hb 40
  have hPN := pN_in hb 40
  have hno : (∀ f r, fok f = true → b = fbytes f ++ r → lost1 (ps 40 b 0) b = false ∧ mkF (ps 40 b 0) b = f) := by
    intro f r hf he
    rw [he]
    exact mkF_of hf
  generalize ps 40 b 0 = P at *
  have hu1 := used1_le P
  have hu0 := used0_le P
  have hN := fun (i : Nat) (hi : i < 40) => nL_at hP40 hi
  have hA := fun (i : Nat) (hi : i ≤ 40) => aL_at hP40 hi
  -- kind, first number
  repeat refine s_seqs ?_
  refine s_reg ?_
  first | refine step_pure rfl (pure_ix rfl rfl rfl rfl rfl (by decide) (by decide) rfl) ?_ | refine step_pure rfl (pure_ix rfl rfl rfl rfl rfl (by omega) (by omega) rfl) ?_
  refine step_pure rfl (pure_load (i := 1) rfl rfl rfl rfl rfl (hN 0 (by decide))) ?_
  refine step_pure rfl (pure_build_struct (pl := [(0, 1), (1, 1), (2, 1), (3, 1), (4, 1)]) rfl zero33 rfl rfl rfl rfl) ?_
  refine step_alloc rfl zero33 (fun b10 => ?_)
  refine step_store_agg 0 rfl rfl rfl (by intro v hv; simp at hv; rcases hv with rfl | rfl | rfl | rfl | rfl <;> rfl) rfl rfl rfl rfl (by show 5 ≤ 5; decide) (splice_all rfl) ?_
  refine Vc.step_end (fun a w ok => ?_)
  first | (refine WPs.run ?_ a w ok; clear ok w a) | skip
  repeat refine s_seqs ?_
  refine s_reg ?_
  refine step_pure rfl (pure_assign rfl) ?_
  refine Vc.step_end (fun a w ok => ?_)
  first | (refine WPs.run ?_ a w ok; clear ok w a) | skip
  have hkd : (mk0 P).kind = pN P 0 := rfl
  have hma : (mk0 P).a = if pN P 0 = 1 then 0 else pN P 1 := rfl
  have hmb : (mk0 P).b = if pN P 0 = 3 ∨ pN P 0 = 5 then pN P 2 else 0 := rfl
  have hmr : (mk0 P).rs = (List.range (cnt P)).map fun i => (pN P (3 + 2 * i), pN P (4 + 2 * i)) := rfl
  have hcn : cnt P = if pN P 0 = 2 then (min (pN P 2) 16).toNat else 0 := rfl
  have hus : used0 P = if pN P 0 = 2 then 3 + 2 * cnt P else if pN P 0 = 3 ∨ pN P 0 = 5 then 3 else if pN P 0 = 1 then 1 else 2 := rfl
  have hc16 := cnt_le P
  repeat refine s_seqs ?_
  refine s_reg ?_
  refine step_pure rfl (pure_fieldAddr rfl rfl rfl rfl rfl (by decide)) ?_
  first | refine step_pure rfl (pure_load (i := 0) rfl rfl rfl rfl rfl rfl) ?_ | refine step_pure rfl (pure_load (i := 1) rfl rfl rfl rfl rfl rfl) ?_ | refine step_pure rfl (pure_load (i := 2) rfl rfl rfl rfl rfl rfl) ?_ | refine step_pure rfl (pure_load (i := 3) rfl rfl rfl rfl rfl rfl) ?_ | refine step_pure rfl (pure_load (i := 4) rfl rfl rfl rfl rfl rfl) ?_ | refine step_pure rfl (pure_load (i := 5) rfl rfl rfl rfl rfl rfl) ?_
  refine step_pure rfl (pure_neq rfl rfl) ?_
  refine Vc.step_end (fun a w ok => ?_)
  first | (refine WPs.run ?_ a w ok; clear ok w a) | skip
  repeat refine s_seqs ?_
  refine s_meet ((10, .pointer (some ⟨b10, 0, none⟩)) :: (11, .int .i64 (if pN P 0 = 1 then 1 else 2)) :: rF base1 b.length cap1 b2 b4 b5 P) (⟨b10, [.int .i64 (pN P 0), .int .i64 (mk0 P).a, .int .i64 0, .slice none 0 0, .slice none 0 0], 33⟩ :: mF b5 b4 b2 P) ?_ (fun a w ok => WPs.run ?_ a w ok)
  · repeat refine c_seq ?_
    refine c_cond rfl (fun h => ?_) (fun h => ?_)
    · have hk : ¬ pN P 0 = 1 := by simpa using h
      rw [hma, if_neg hk, if_neg hk]
      repeat refine c_seq ?_
      refine c_region ?_
      first | refine step_pure rfl (pure_ix rfl rfl rfl rfl rfl (by decide) (by decide) rfl) ?_ | refine step_pure rfl (pure_ix rfl rfl rfl rfl rfl (by omega) (by omega) rfl) ?_
      refine step_pure rfl (pure_load (i := 2) rfl rfl rfl rfl rfl (hN 1 (by decide))) ?_
      refine step_pure rfl (pure_fieldAddr rfl rfl rfl rfl rfl (by decide)) ?_
      first | refine step_store 0 rfl rfl rfl rfl rfl rfl rfl rfl (by first | decide | exact Nat.le_of_ble_eq_true rfl) rfl ?_ | refine step_store 1 rfl rfl rfl rfl rfl rfl rfl rfl (by first | decide | exact Nat.le_of_ble_eq_true rfl) rfl ?_ | refine step_store 2 rfl rfl rfl rfl rfl rfl rfl rfl (by first | decide | exact Nat.le_of_ble_eq_true rfl) rfl ?_ | refine step_store 3 rfl rfl rfl rfl rfl rfl rfl rfl (by first | decide | exact Nat.le_of_ble_eq_true rfl) rfl ?_ | refine step_store 4 rfl rfl rfl rfl rfl rfl rfl rfl (by first | decide | exact Nat.le_of_ble_eq_true rfl) rfl ?_ | refine step_store 5 rfl rfl rfl rfl rfl rfl rfl rfl (by first | decide | exact Nat.le_of_ble_eq_true rfl) rfl ?_
      refine step_nil ?_
      repeat refine c_seq ?_
      refine c_region ?_
      refine step_pure rfl (pure_assign rfl) ?_
      refine step_nil ?_
      exact less_of ⟨rfl, rfl, rfl, rfl, rfl, rfl, rfl, trivial⟩ rfl
    · have hk : pN P 0 = 1 := by simpa using h
      rw [hma, if_pos hk, if_pos hk]
      refine c_skip ?_
      exact less_of ⟨rfl, rfl, rfl, rfl, rfl, rfl, rfl, trivial⟩ rfl
  repeat refine s_seqs ?_
  refine s_reg ?_
  refine step_pure rfl (pure_fieldAddr rfl rfl rfl rfl rfl (by decide)) ?_
  first | refine step_pure rfl (pure_load (i := 0) rfl rfl rfl rfl rfl rfl) ?_ | refine step_pure rfl (pure_load (i := 1) rfl rfl rfl rfl rfl rfl) ?_ | refine step_pure rfl (pure_load (i := 2) rfl rfl rfl rfl rfl rfl) ?_ | refine step_pure rfl (pure_load (i := 3) rfl rfl rfl rfl rfl rfl) ?_ | refine step_pure rfl (pure_load (i := 4) rfl rfl rfl rfl rfl rfl) ?_ | refine step_pure rfl (pure_load (i := 5) rfl rfl rfl rfl rfl rfl) ?_
  refine step_hole ?_
  refine Vc.step_end (fun a w ok => ?_)
  first | (refine WPs.run ?_ a w ok; clear ok w a) | skip
  -- ranges, second number
  repeat refine s_seqs ?_
  refine s_meetP (α := SlS) (fun z => (10, .pointer (some ⟨b10, 0, none⟩)) :: (11, .int .i64 (used0 P : Int)) :: rF base1 b.length cap1 b2 b4 b5 P)
    (fun z => z.e :: ⟨b10, [.int .i64 (pN P 0), .int .i64 (mk0 P).a, .int .i64 (mk0 P).b, .slice z.base (cnt P) z.cap, .slice none 0 0], 33⟩ :: mF b5 b4 b2 P) (fun z _ => SlIs ty45 45 z.e z.base (cnt P) z.cap (rgCells (mk0 P).rs)) ?_ ?_
  · repeat refine s_seqs ?_
    refine s_block ?_
    have hkk : pN P 0 = 2 ∨ pN P 0 = 3 ∨ pN P 0 = 5 ∨ (pN P 0 ≠ 2 ∧ pN P 0 ≠ 3 ∧ pN P 0 ≠ 5) := by omega
    rcases hkk with h2 | h3 | h5 | ⟨n2, n3, n5⟩
    · rw [if_pos h2] at hcn hus
      have hb0 : (mk0 P).b = 0 := by rw [hmb, if_neg (by omega)]
      rw [hb0]
      repeat refine s_seqs ?_
      refine s_reg ?_
      refine step_pure rfl (pure_eql rfl rfl) ?_
      refine step_pure rfl (pure_assign rfl) ?_
      refine Vc.step_end (fun a w ok => ?_)
      first | (refine WPs.run ?_ a w ok; clear ok w a) | skip
      repeat refine s_seqs ?_
      refine s_cond_yes rfl (by rw [h2]; rfl) ?_
      repeat refine s_seqs ?_
      refine s_reg ?_
      refine step_pure rfl (pure_assign rfl) ?_
      refine Vc.step_end (fun a w ok => ?_)
      first | (refine WPs.run ?_ a w ok; clear ok w a) | skip
      repeat refine s_seqs ?_
      refine s_reg ?_
      refine step_pure rfl (pure_assign rfl) ?_
      refine Vc.step_end (fun a w ok => ?_)
      first | (refine WPs.run ?_ a w ok; clear ok w a) | skip
      repeat refine s_seqs ?_
      refine s_block ?_
      repeat refine s_seqs ?_
      refine s_loopP (α := Nat × SlS) (fun z => (10, .pointer (some ⟨b10, 0, none⟩)) :: (11, .int .i64 ((3 + 2 * z.1 : Nat) : Int)) :: (12, .int .i64 (z.1 : Int)) :: rF base1 b.length cap1 b2 b4 b5 P)
        (fun z => z.2.e :: ⟨b10, [.int .i64 (pN P 0), .int .i64 (mk0 P).a, .int .i64 0, .slice z.2.base z.1 z.2.cap, .slice none 0 0], 33⟩ :: mF b5 b4 b2 P)
        (fun z _ => z.1 ≤ cnt P ∧ SlIs ty45 45 z.2.e z.2.base z.1 z.2.cap (rgCells ((List.range z.1).map fun i => (pN P (3 + 2 * i), pN P (4 + 2 * i))))) (fun z => cnt P - z.1) (0, ⟨none, 0, 0, hole⟩)
        ⟨Nat.zero_le _, sl_nil _ _ (by decide)⟩ (less_of ⟨rfl, rfl, rfl, rfl, rfl, rfl, rfl, rfl, trivial⟩ rfl) ?_
      rintro ⟨i, rb, rl, rc, er⟩ E2 ⟨hi, hs⟩ g2
      dsimp only at hi hs ⊢
      repeat refine s_seqs ?_
      refine s_meet ((10, .pointer (some ⟨b10, 0, none⟩)) :: (11, .int .i64 ((3 + 2 * i : Nat) : Int)) :: (12, .int .i64 (i : Int)) :: (62, .bool (decide (i < cnt P))) :: rF base1 b.length cap1 b2 b4 b5 P) (er :: ⟨b10, [.int .i64 (pN P 0), .int .i64 (mk0 P).a, .int .i64 0, .slice rb i rc, .slice none 0 0], 33⟩ :: mF b5 b4 b2 P) ?_ (fun a w ok => WPs.run ?_ a w ok)
      · repeat refine c_seq ?_
        refine c_region ?_
        refine step_pure rfl (pure_move rfl) ?_
        first | refine step_pure rfl (pure_ix rfl rfl rfl rfl rfl (by decide) (by decide) rfl) ?_ | refine step_pure rfl (pure_ix rfl rfl rfl rfl rfl (by omega) (by omega) rfl) ?_
        refine step_pure rfl (pure_load (i := 3) rfl rfl rfl rfl rfl (hN 2 (by decide))) ?_
        refine step_pure rfl (pure_lss rfl rfl) ?_
        refine step_pure rfl (pure_move rfl) ?_
        refine step_split (t := 59) rfl (fun h59 => ?_) (fun h59 => ?_)
        · refine step_pure rfl (pure_move rfl) ?_
          refine step_pure rfl (pure_lss rfl rfl) ?_
          refine step_pure rfl (pure_pick_yes rfl rfl) ?_
          refine step_nil ?_
          refine less_of ⟨rfl, rfl, rfl, ?_, rfl, rfl, rfl, rfl, rfl, trivial⟩ rfl
          refine congrArg some (congrArg Value.bool ?_)
          rw [Bool.eq_iff_iff, decide_eq_true_iff]
          simp at h59 ⊢
          omega
        · refine step_pass rfl rfl rfl ?_
          refine step_pass rfl rfl rfl ?_
          refine step_pure rfl (pure_pick_no rfl rfl) ?_
          refine step_nil ?_
          refine less_of ⟨rfl, rfl, rfl, ?_, rfl, rfl, rfl, rfl, rfl, trivial⟩ rfl
          refine congrArg some (congrArg Value.bool ?_)
          rw [Bool.eq_iff_iff, decide_eq_true_iff]
          simp at h59 ⊢
          omega
      repeat refine s_seqs ?_
      refine s_cond rfl (fun h => ?_) (fun h => ?_)
      · have hlt : i < cnt P := of_decide_eq_true h
        clear h
        refine s_skip fun a w ok => WPs.run ?_ a w ok
        clear ok w a
        repeat refine s_seqs ?_
        refine s_block ?_
        have n1 := hN (3 + 2 * i) (by omega)
        have n2 := hN (4 + 2 * i) (by omega)
        have hsn := rg_snoc (fun i => (pN P (3 + 2 * i), pN P (4 + 2 * i))) i
        dsimp only at hsn
        generalize pN P (3 + 2 * i) = lo at *
        generalize pN P (4 + 2 * i) = hg at *
        repeat refine s_seqs ?_
        refine s_dreg [1, 11, 17, 25, 35, 41, 49, 57, 67, 73, 85, 92, 97, 108] ([⟨b10, [.int .i64 (pN P 0), .int .i64 (mk0 P).a, .int .i64 0, .slice rb i rc, .slice none 0 0], 33⟩, ⟨b4, ints .i64 (nL P), 68⟩]) follows (by kernel_rfl) ?_
        refine d_pure0 rfl rfl rfl (pure_fieldAddr rfl rfl rfl rfl rfl (by decide)) ?_
        first | refine d_pure1 rfl rfl rfl (pure_load (i := 0) rfl rfl rfl rfl rfl rfl) (by first | exact SubMem.refl _ | exact (SubMem.refl _).cons | exact (SubMem.refl _).cons.cons | exact (SubMem.refl _).cons.cons.cons | exact (SubMem.refl _).cons.cons.cons.cons | exact (fun w hh => Has.sublist (by repeat (first | exact List.Sublist.refl _ | exact List.nil_sublist _ | apply List.Sublist.cons_cons | apply List.Sublist.cons)) hh)) ?_ | refine d_pure1 rfl rfl rfl (pure_load (i := 1) rfl rfl rfl rfl rfl rfl) (by first | exact SubMem.refl _ | exact (SubMem.refl _).cons | exact (SubMem.refl _).cons.cons | exact (SubMem.refl _).cons.cons.cons | exact (SubMem.refl _).cons.cons.cons.cons | exact (fun w hh => Has.sublist (by repeat (first | exact List.Sublist.refl _ | exact List.nil_sublist _ | apply List.Sublist.cons_cons | apply List.Sublist.cons)) hh)) ?_ | refine d_pure1 rfl rfl rfl (pure_load (i := 2) rfl rfl rfl rfl rfl rfl) (by first | exact SubMem.refl _ | exact (SubMem.refl _).cons | exact (SubMem.refl _).cons.cons | exact (SubMem.refl _).cons.cons.cons | exact (SubMem.refl _).cons.cons.cons.cons | exact (fun w hh => Has.sublist (by repeat (first | exact List.Sublist.refl _ | exact List.nil_sublist _ | apply List.Sublist.cons_cons | apply List.Sublist.cons)) hh)) ?_ | refine d_pure1 rfl rfl rfl (pure_load (i := 3) rfl rfl rfl rfl rfl rfl) (by first | exact SubMem.refl _ | exact (SubMem.refl _).cons | exact (SubMem.refl _).cons.cons | exact (SubMem.refl _).cons.cons.cons | exact (SubMem.refl _).cons.cons.cons.cons | exact (fun w hh => Has.sublist (by repeat (first | exact List.Sublist.refl _ | exact List.nil_sublist _ | apply List.Sublist.cons_cons | apply List.Sublist.cons)) hh)) ?_ | refine d_pure1 rfl rfl rfl (pure_load (i := 4) rfl rfl rfl rfl rfl rfl) (by first | exact SubMem.refl _ | exact (SubMem.refl _).cons | exact (SubMem.refl _).cons.cons | exact (SubMem.refl _).cons.cons.cons | exact (SubMem.refl _).cons.cons.cons.cons | exact (fun w hh => Has.sublist (by repeat (first | exact List.Sublist.refl _ | exact List.nil_sublist _ | apply List.Sublist.cons_cons | apply List.Sublist.cons)) hh)) ?_ | refine d_pure1 rfl rfl rfl (pure_load (i := 5) rfl rfl rfl rfl rfl rfl) (by first | exact SubMem.refl _ | exact (SubMem.refl _).cons | exact (SubMem.refl _).cons.cons | exact (SubMem.refl _).cons.cons.cons | exact (SubMem.refl _).cons.cons.cons.cons | exact (fun w hh => Has.sublist (by repeat (first | exact List.Sublist.refl _ | exact List.nil_sublist _ | apply List.Sublist.cons_cons | apply List.Sublist.cons)) hh)) ?_
        refine d_pure0 rfl rfl rfl (pure_move rfl) ?_
        refine d_pure0 rfl rfl rfl (pure_ix rfl rfl rfl rfl rfl (by omega) (by omega) (ix1 rfl (3 + 2 * i))) ?_
        refine d_pure1 rfl rfl rfl (pure_load (i := 1) rfl rfl rfl rfl rfl n1) (by first | exact SubMem.refl _ | exact (SubMem.refl _).cons | exact (SubMem.refl _).cons.cons | exact (SubMem.refl _).cons.cons.cons | exact (SubMem.refl _).cons.cons.cons.cons | exact (fun w hh => Has.sublist (by repeat (first | exact List.Sublist.refl _ | exact List.nil_sublist _ | apply List.Sublist.cons_cons | apply List.Sublist.cons)) hh)) ?_
        refine d_pure0 rfl rfl rfl (pure_move rfl) ?_
        refine d_as0 rfl rfl rfl (pure_add64 rfl rfl (by omega) (by omega)) (show _ = Value.int .i64 ((4 + 2 * i : Nat) : Int) from by congr 1; omega) ?_
        refine d_pure0 rfl rfl rfl (pure_ix rfl rfl rfl rfl rfl (by omega) (by omega) (ix1 rfl (4 + 2 * i))) ?_
        refine d_pure1 rfl rfl rfl (pure_load (i := 1) rfl rfl rfl rfl rfl n2) (by first | exact SubMem.refl _ | exact (SubMem.refl _).cons | exact (SubMem.refl _).cons.cons | exact (SubMem.refl _).cons.cons.cons | exact (SubMem.refl _).cons.cons.cons.cons | exact (fun w hh => Has.sublist (by repeat (first | exact List.Sublist.refl _ | exact List.nil_sublist _ | apply List.Sublist.cons_cons | apply List.Sublist.cons)) hh)) ?_
        refine d_pure0 rfl rfl rfl (pure_build_struct (pl := [(0, 1), (1, 1)]) rfl zero45 rfl rfl rfl rfl) ?_
        refine d_buildSlice rfl rfl rfl rfl rfl rfl elem45 (by decide) (by decide) (fill_rg _ _) (by first | exact SubMem.refl _ | exact (SubMem.refl _).cons | exact (SubMem.refl _).cons.cons | exact (SubMem.refl _).cons.cons.cons | exact (SubMem.refl _).cons.cons.cons.cons | exact (fun w hh => Has.sublist (by repeat (first | exact List.Sublist.refl _ | exact List.nil_sublist _ | apply List.Sublist.cons_cons | apply List.Sublist.cons)) hh)) rfl (fun b75 => ?_)
        refine d_append 1 rfl rfl rfl rfl rfl hs rfl rfl rfl rfl rfl elem45 rfl (by decide) rfl rfl rfl (src_own (j := 0) (sl_built ty45 45 b75 [.int .i64 lo, .int .i64 hg] 1 rfl) rfl) (by intro v hv; simp at hv; rcases hv with rfl | rfl <;> rfl) (by omega) (by omega) rfl (fun rb' rc' er' hs' => ?_)
        refine d_pure0 rfl rfl rfl (pure_fieldAddr rfl rfl rfl rfl rfl (by decide)) ?_
        first | refine d_store 0 rfl rfl rfl rfl rfl rfl rfl rfl rfl rfl (by first | decide | exact Nat.le_of_ble_eq_true rfl) rfl rfl rfl ?_ | refine d_store 1 rfl rfl rfl rfl rfl rfl rfl rfl rfl rfl (by first | decide | exact Nat.le_of_ble_eq_true rfl) rfl rfl rfl ?_ | refine d_store 2 rfl rfl rfl rfl rfl rfl rfl rfl rfl rfl (by first | decide | exact Nat.le_of_ble_eq_true rfl) rfl rfl rfl ?_ | refine d_store 3 rfl rfl rfl rfl rfl rfl rfl rfl rfl rfl (by first | decide | exact Nat.le_of_ble_eq_true rfl) rfl rfl rfl ?_ | refine d_store 4 rfl rfl rfl rfl rfl rfl rfl rfl rfl rfl (by first | decide | exact Nat.le_of_ble_eq_true rfl) rfl rfl rfl ?_ | refine d_store 5 rfl rfl rfl rfl rfl rfl rfl rfl rfl rfl (by first | decide | exact Nat.le_of_ble_eq_true rfl) rfl rfl rfl ?_
        refine d_end (fun a w ok => ?_)
        first | (refine WPs.run ?_ a w ok; clear ok w a) | skip
        repeat refine s_seqs ?_
        refine s_reg ?_
        refine step_pure rfl (pure_move rfl) ?_
        refine step_as rfl (pure_add64 rfl rfl (by omega) (by omega)) (show _ = Value.int .i64 ((3 + 2 * (i + 1) : Nat) : Int) from by congr 1) ?_
        refine step_pure rfl (pure_assign rfl) ?_
        refine Vc.step_end (fun a w ok => ?_)
        first | (refine WPs.run ?_ a w ok; clear ok w a) | skip
        repeat refine s_seqs ?_
        refine s_reg ?_
        refine step_pure rfl (pure_move rfl) ?_
        first | refine step_pure rfl (pure_add64 rfl rfl (by omega) (by omega)) ?_ | refine step_pure rfl (pure_add rfl rfl) ?_
        refine step_pure rfl (pure_assign rfl) ?_
        refine Vc.step_end (fun a w ok => ?_)
        refine ⟨(i + 1, ⟨rb', i + 1, rc', er'⟩), E2, ⟨hlt, ?_⟩, by dsimp only; omega, Gt.refl _, Less.ok ?_ ok⟩
        · dsimp only
          rw [hsn]
          exact hs'
        exact less_sub ⟨rfl, rfl, rfl, rfl, rfl, rfl, rfl, rfl, trivial⟩ (by repeat (first | exact List.Sublist.refl _ | exact List.nil_sublist _ | apply List.Sublist.cons_cons | apply List.Sublist.cons))
      · have hie : i = cnt P := by have := of_decide_eq_false h; omega
        subst hie
        refine s_exit fun a w ok => ⟨⟨rb, cnt P, rc, er⟩, E2, hs, g2, Less.ok ?_ ok⟩
        rw [hus]
        exact less_of ⟨rfl, rfl, rfl, rfl, rfl, rfl, rfl, trivial⟩ rfl
    · rw [if_neg (by omega)] at hcn hus
      rw [if_pos (.inl h3)] at hus hmb
      rw [hcn] at hmr ⊢
      rw [hmb, hmr, hus]
      repeat refine s_seqs ?_
      refine s_reg ?_
      refine step_pure rfl (pure_eql rfl rfl) ?_
      refine step_pure rfl (pure_assign rfl) ?_
      refine Vc.step_end (fun a w ok => ?_)
      first | (refine WPs.run ?_ a w ok; clear ok w a) | skip
      repeat refine s_seqs ?_
      refine s_cond_no rfl (by rw [h3]; rfl) ?_
      repeat refine s_seqs ?_
      refine s_reg ?_
      refine step_pure rfl (pure_eql rfl rfl) ?_
      refine step_pure rfl (pure_assign rfl) ?_
      refine Vc.step_end (fun a w ok => ?_)
      first | (refine WPs.run ?_ a w ok; clear ok w a) | skip
      repeat refine s_seqs ?_
      refine s_cond_yes rfl (by rw [h3]; rfl) ?_
      refine s_skip fun a w ok => WPs.run ?_ a w ok
      clear ok w a
      repeat refine s_seqs ?_
      refine s_cond_yes rfl (by rw [h3]; rfl) ?_
      repeat refine s_seqs ?_
      refine s_reg ?_
      first | refine step_pure rfl (pure_ix rfl rfl rfl rfl rfl (by decide) (by decide) rfl) ?_ | refine step_pure rfl (pure_ix rfl rfl rfl rfl rfl (by omega) (by omega) rfl) ?_
      refine step_pure rfl (pure_load (i := 3) rfl rfl rfl rfl rfl (hN 2 (by decide))) ?_
      refine step_pure rfl (pure_fieldAddr rfl rfl rfl rfl rfl (by decide)) ?_
      first | refine step_store 0 rfl rfl rfl rfl rfl rfl rfl rfl (by first | decide | exact Nat.le_of_ble_eq_true rfl) rfl ?_ | refine step_store 1 rfl rfl rfl rfl rfl rfl rfl rfl (by first | decide | exact Nat.le_of_ble_eq_true rfl) rfl ?_ | refine step_store 2 rfl rfl rfl rfl rfl rfl rfl rfl (by first | decide | exact Nat.le_of_ble_eq_true rfl) rfl ?_ | refine step_store 3 rfl rfl rfl rfl rfl rfl rfl rfl (by first | decide | exact Nat.le_of_ble_eq_true rfl) rfl ?_ | refine step_store 4 rfl rfl rfl rfl rfl rfl rfl rfl (by first | decide | exact Nat.le_of_ble_eq_true rfl) rfl ?_ | refine step_store 5 rfl rfl rfl rfl rfl rfl rfl rfl (by first | decide | exact Nat.le_of_ble_eq_true rfl) rfl ?_
      refine Vc.step_end (fun a w ok => ?_)
      first | (refine WPs.run ?_ a w ok; clear ok w a) | skip
      repeat refine s_seqs ?_
      refine s_reg ?_
      refine step_pure rfl (pure_assign rfl) ?_
      refine Vc.step_end (fun a w ok => ?_)
      refine ⟨⟨none, 0, 0, hole⟩, E1, sl_nil _ _ (by decide), Gt.refl _, Less.ok ?_ ok⟩
      exact less_of ⟨rfl, rfl, rfl, rfl, rfl, rfl, rfl, trivial⟩ rfl
    · rw [if_neg (by omega)] at hcn hus
      rw [if_pos (.inr h5)] at hus hmb
      rw [hcn] at hmr ⊢
      rw [hmb, hmr, hus]
      repeat refine s_seqs ?_
      refine s_reg ?_
      refine step_pure rfl (pure_eql rfl rfl) ?_
      refine step_pure rfl (pure_assign rfl) ?_
      refine Vc.step_end (fun a w ok => ?_)
      first | (refine WPs.run ?_ a w ok; clear ok w a) | skip
      repeat refine s_seqs ?_
      refine s_cond_no rfl (by rw [h5]; rfl) ?_
      repeat refine s_seqs ?_
      refine s_reg ?_
      refine step_pure rfl (pure_eql rfl rfl) ?_
      refine step_pure rfl (pure_assign rfl) ?_
      refine Vc.step_end (fun a w ok => ?_)
      first | (refine WPs.run ?_ a w ok; clear ok w a) | skip
      repeat refine s_seqs ?_
      refine s_cond_no rfl (by rw [h5]; rfl) ?_
      repeat refine s_seqs ?_
      refine s_reg ?_
      refine step_pure rfl (pure_eql rfl rfl) ?_
      refine step_pure rfl (pure_assign rfl) ?_
      refine Vc.step_end (fun a w ok => ?_)
      first | (refine WPs.run ?_ a w ok; clear ok w a) | skip
      repeat refine s_seqs ?_
      refine s_cond_yes rfl (by rw [h5]; rfl) ?_
      repeat refine s_seqs ?_
      refine s_reg ?_
      first | refine step_pure rfl (pure_ix rfl rfl rfl rfl rfl (by decide) (by decide) rfl) ?_ | refine step_pure rfl (pure_ix rfl rfl rfl rfl rfl (by omega) (by omega) rfl) ?_
      refine step_pure rfl (pure_load (i := 3) rfl rfl rfl rfl rfl (hN 2 (by decide))) ?_
      refine step_pure rfl (pure_fieldAddr rfl rfl rfl rfl rfl (by decide)) ?_
      first | refine step_store 0 rfl rfl rfl rfl rfl rfl rfl rfl (by first | decide | exact Nat.le_of_ble_eq_true rfl) rfl ?_ | refine step_store 1 rfl rfl rfl rfl rfl rfl rfl rfl (by first | decide | exact Nat.le_of_ble_eq_true rfl) rfl ?_ | refine step_store 2 rfl rfl rfl rfl rfl rfl rfl rfl (by first | decide | exact Nat.le_of_ble_eq_true rfl) rfl ?_ | refine step_store 3 rfl rfl rfl rfl rfl rfl rfl rfl (by first | decide | exact Nat.le_of_ble_eq_true rfl) rfl ?_ | refine step_store 4 rfl rfl rfl rfl rfl rfl rfl rfl (by first | decide | exact Nat.le_of_ble_eq_true rfl) rfl ?_ | refine step_store 5 rfl rfl rfl rfl rfl rfl rfl rfl (by first | decide | exact Nat.le_of_ble_eq_true rfl) rfl ?_
      refine Vc.step_end (fun a w ok => ?_)
      first | (refine WPs.run ?_ a w ok; clear ok w a) | skip
      repeat refine s_seqs ?_
      refine s_reg ?_
      refine step_pure rfl (pure_assign rfl) ?_
      refine Vc.step_end (fun a w ok => ?_)
      refine ⟨⟨none, 0, 0, hole⟩, E1, sl_nil _ _ (by decide), Gt.refl _, Less.ok ?_ ok⟩
      exact less_of ⟨rfl, rfl, rfl, rfl, rfl, rfl, rfl, trivial⟩ rfl
    · rw [if_neg n2] at hcn hus
      rw [if_neg (by omega)] at hus hmb
      rw [hcn] at hmr ⊢
      have hus2 : ((used0 P : Nat) : Int) = if pN P 0 = 1 then 1 else 2 := by rw [hus]; split <;> rfl
      rw [hmb, hmr, hus2]
      repeat refine s_seqs ?_
      refine s_reg ?_
      refine step_pure rfl (pure_eql rfl rfl) ?_
      refine step_pure rfl (pure_assign rfl) ?_
      refine Vc.step_end (fun a w ok => ?_)
      first | (refine WPs.run ?_ a w ok; clear ok w a) | skip
      repeat refine s_seqs ?_
      refine s_cond_no rfl (by simpa using n2) ?_
      repeat refine s_seqs ?_
      refine s_reg ?_
      refine step_pure rfl (pure_eql rfl rfl) ?_
      refine step_pure rfl (pure_assign rfl) ?_
      refine Vc.step_end (fun a w ok => ?_)
      first | (refine WPs.run ?_ a w ok; clear ok w a) | skip
      repeat refine s_seqs ?_
      refine s_cond_no rfl (by simpa using n3) ?_
      repeat refine s_seqs ?_
      refine s_reg ?_
      refine step_pure rfl (pure_eql rfl rfl) ?_
      refine step_pure rfl (pure_assign rfl) ?_
      refine Vc.step_end (fun a w ok => ?_)
      first | (refine WPs.run ?_ a w ok; clear ok w a) | skip
      repeat refine s_seqs ?_
      refine s_cond_no rfl (by simpa using n5) ?_
      refine s_skip fun a w ok => ⟨⟨none, 0, 0, hole⟩, E1, sl_nil _ _ (by decide), Gt.refl _, Less.ok ?_ ok⟩
      exact less_of ⟨rfl, rfl, rfl, rfl, rfl, rfl, rfl, trivial⟩ rfl
  rintro ⟨rb, rl, rc, er⟩ E2 hsr g a w ok
  dsimp only at hsr
  refine WPs.run ?_ a w ok
  clear ok w a
  dsimp only
  replace on := on.next g
  replace hv := hv.mono g.mono
  clear g hcn hus hma hmb
  -- data
  have hhd : hasD P = (pN P 0 == 3 || pN P 0 == 4) := rfl
  have hdn : datN P = if hasD P = true then pN P (used0 P) else 0 := rfl
  have hu1e : used1 P = if hasD P = true then used0 P + 1 else used0 P := rfl
  repeat refine s_seqs ?_
  refine s_reg ?_
  refine step_pure rfl (pure_assign rfl) ?_
  refine Vc.step_end (fun a w ok => ?_)
  first | (refine WPs.run ?_ a w ok; clear ok w a) | skip
  repeat refine s_seqs ?_
  refine s_meet ((10, .pointer (some ⟨b10, 0, none⟩)) :: (11, .int .i64 (used0 P : Int)) :: (13, .int .i64 0) :: (93, .bool (hasD P)) :: rF base1 b.length cap1 b2 b4 b5 P) (er :: ⟨b10, [.int .i64 (pN P 0), .int .i64 (mk0 P).a, .int .i64 (mk0 P).b, .slice rb (cnt P) rc, .slice none 0 0], 33⟩ :: mF b5 b4 b2 P) ?_ (fun a w ok => WPs.run ?_ a w ok)
  · generalize pN P 0 = k at *
    repeat refine c_seq ?_
    refine c_region ?_
    refine step_pure rfl (pure_fieldAddr rfl rfl rfl rfl rfl (by decide)) ?_
    first | refine step_pure rfl (pure_load (i := 0) rfl rfl rfl rfl rfl rfl) ?_ | refine step_pure rfl (pure_load (i := 1) rfl rfl rfl rfl rfl rfl) ?_ | refine step_pure rfl (pure_load (i := 2) rfl rfl rfl rfl rfl rfl) ?_ | refine step_pure rfl (pure_load (i := 3) rfl rfl rfl rfl rfl rfl) ?_ | refine step_pure rfl (pure_load (i := 4) rfl rfl rfl rfl rfl rfl) ?_ | refine step_pure rfl (pure_load (i := 5) rfl rfl rfl rfl rfl rfl) ?_
    refine step_pure rfl (pure_eql rfl rfl) ?_
    refine step_pure rfl (pure_move rfl) ?_
    refine step_split (t := 89) rfl (fun h89 => ?_) (fun h89 => ?_)
    · refine step_pass rfl rfl rfl ?_
      refine step_pass rfl rfl rfl ?_
      refine step_pass rfl rfl rfl ?_
      refine step_pure rfl (pure_pick_yes rfl rfl) ?_
      refine step_nil ?_
      refine less_of ⟨rfl, rfl, rfl, ?_, rfl, rfl, rfl, rfl, rfl, trivial⟩ rfl
      rw [hhd]
      refine congrArg some (congrArg Value.bool ?_)
      rw [Bool.eq_iff_iff]
      simp_all
    · refine step_pure rfl (pure_fieldAddr rfl rfl rfl rfl rfl (by decide)) ?_
      first | refine step_pure rfl (pure_load (i := 0) rfl rfl rfl rfl rfl rfl) ?_ | refine step_pure rfl (pure_load (i := 1) rfl rfl rfl rfl rfl rfl) ?_ | refine step_pure rfl (pure_load (i := 2) rfl rfl rfl rfl rfl rfl) ?_ | refine step_pure rfl (pure_load (i := 3) rfl rfl rfl rfl rfl rfl) ?_ | refine step_pure rfl (pure_load (i := 4) rfl rfl rfl rfl rfl rfl) ?_ | refine step_pure rfl (pure_load (i := 5) rfl rfl rfl rfl rfl rfl) ?_
      refine step_pure rfl (pure_eql rfl rfl) ?_
      refine step_pure rfl (pure_pick_no rfl rfl) ?_
      refine step_nil ?_
      refine less_of ⟨rfl, rfl, rfl, ?_, rfl, rfl, rfl, rfl, rfl, trivial⟩ rfl
      rw [hhd]
      refine congrArg some (congrArg Value.bool ?_)
      rw [Bool.eq_iff_iff]
      simp_all
  repeat refine s_seqs ?_
  refine s_meet ((10, .pointer (some ⟨b10, 0, none⟩)) :: (11, .int .i64 (used1 P : Int)) :: (13, .int .i64 (datN P)) :: rF base1 b.length cap1 b2 b4 b5 P) (er :: ⟨b10, [.int .i64 (pN P 0), .int .i64 (mk0 P).a, .int .i64 (mk0 P).b, .slice rb (cnt P) rc, .slice none 0 0], 33⟩ :: mF b5 b4 b2 P) ?_ (fun a w ok => WPs.run ?_ a w ok)
  · repeat refine c_seq ?_
    refine c_cond rfl (fun h => ?_) (fun h => ?_)
    · rw [if_pos h] at hdn hu1e
      rw [hdn, hu1e]
      repeat refine c_seq ?_
      refine c_region ?_
      refine step_pure rfl (pure_move rfl) ?_
      refine step_pure rfl (pure_ix rfl rfl rfl rfl rfl (by omega) (by omega) (ix1 rfl (used0 P))) ?_
      refine step_pure rfl (pure_load (i := 3) rfl rfl rfl rfl rfl (hN (used0 P) (by omega))) ?_
      refine step_pure rfl (pure_assign rfl) ?_
      refine step_nil ?_
      repeat refine c_seq ?_
      refine c_region ?_
      refine step_pure rfl (pure_move rfl) ?_
      refine step_as rfl (pure_add64 rfl rfl (by omega) (by omega)) (show _ = Value.int .i64 ((used0 P + 1 : Nat) : Int) from rfl) ?_
      refine step_pure rfl (pure_assign rfl) ?_
      refine step_nil ?_
      exact less_of ⟨rfl, rfl, rfl, rfl, rfl, rfl, rfl, rfl, trivial⟩ rfl
    · rw [if_neg (by rw [h]; decide)] at hdn hu1e
      rw [hdn, hu1e]
      refine c_skip ?_
      exact less_of ⟨rfl, rfl, rfl, rfl, rfl, rfl, rfl, rfl, trivial⟩ rfl
  have hdN : 0 ≤ datN P ∧ datN P < 4611686018427387904 := by
    rw [hdn]
    split
    · exact hPN _
    · decide
  have hpa := hPA (used1 P)
  have hlo : lost1 P b = (decide (P.length < used1 P) || decide ((b.length : Int) - pA P (used1 P) < datN P)) := rfl
  have hmf : mkF P b = { mk0 P with data := if 0 < datN P then (b.drop (pA P (used1 P))).take (datN P).toNat else [] } := rfl
  have hA1 := hA (used1 P) (by omega)
  clear hdn hu1e hhd
  repeat refine s_seqs ?_
  refine s_meet ((10, .pointer (some ⟨b10, 0, none⟩)) :: (11, .int .i64 (used1 P : Int)) :: (13, .int .i64 (datN P)) :: (111, .bool (lost1 P b)) :: rF base1 b.length cap1 b2 b4 b5 P) (er :: ⟨b10, [.int .i64 (pN P 0), .int .i64 (mk0 P).a, .int .i64 (mk0 P).b, .slice rb (cnt P) rc, .slice none 0 0], 33⟩ :: mF b5 b4 b2 P) ?_ (fun a w ok => WPs.run ?_ a w ok)
  · rw [hlo]
    repeat refine c_seq ?_
    refine c_region ?_
    refine step_pure rfl (pure_move rfl) ?_
    refine step_pure rfl (pure_move rfl) ?_
    refine step_pure rfl (pure_gtr rfl rfl) ?_
    refine step_pure rfl (pure_move rfl) ?_
    refine step_split (t := 102) rfl (fun h102 => ?_) (fun h102 => ?_)
    · refine step_pass rfl rfl rfl ?_
      refine step_pass rfl rfl rfl ?_
      refine step_pass rfl rfl rfl ?_
      refine step_pass rfl rfl rfl ?_
      refine step_pass rfl rfl rfl ?_
      refine step_pass rfl rfl rfl ?_
      refine step_pass rfl rfl rfl ?_
      refine step_pass rfl rfl rfl ?_
      refine step_pure rfl (pure_pick_yes rfl rfl) ?_
      refine step_nil ?_
      refine less_of ⟨rfl, rfl, rfl, ?_, rfl, rfl, rfl, rfl, rfl, trivial⟩ rfl
      refine congrArg some (congrArg Value.bool ?_)
      rw [Bool.eq_iff_iff]
      simp at h102 ⊢
      omega
    · refine step_pure rfl (pure_move rfl) ?_
      refine step_pure rfl (pure_move rfl) ?_
      refine step_pure rfl (pure_len_slice rfl rfl rfl) ?_
      refine step_pure rfl (pure_move rfl) ?_
      refine step_pure rfl (pure_ix rfl rfl rfl rfl rfl (by omega) (by have := of_decide_eq_false h102; omega) (ix1 rfl (used1 P))) ?_
      refine step_pure rfl (pure_load (i := 2) rfl rfl rfl rfl rfl hA1) ?_
      first | refine step_pure rfl (pure_sub64 rfl rfl (by omega) (by omega)) ?_ | refine step_pure rfl (pure_sub rfl rfl) ?_
      refine step_pure rfl (pure_gtr rfl rfl) ?_
      refine step_pure rfl (pure_pick_no rfl rfl) ?_
      refine step_nil ?_
      refine less_of ⟨rfl, rfl, rfl, ?_, rfl, rfl, rfl, rfl, rfl, trivial⟩ rfl
      refine congrArg some (congrArg Value.bool ?_)
      rw [Bool.eq_iff_iff]
      simp at h102 ⊢
      omega
  repeat refine s_seqs ?_
  refine s_cond rfl (fun h => ?_) (fun h => ?_)
  · have hnone : oneP b = none := oneP_no hb (fun f r hf he => by have := (hno f r hf he).1; rw [h] at this; cases this)
    repeat refine s_seqs ?_
    refine s_reg ?_
    refine step_pure rfl (pure_build_struct (pl := [(0, 1), (1, 1), (2, 1), (3, 1), (4, 1)]) rfl zero33 rfl rfl rfl rfl) ?_
    first | refine step_store_agg 0 rfl rfl rfl (by decide) rfl rfl rfl rfl (by decide) rfl ?_ | refine step_store_agg 1 rfl rfl rfl (by decide) rfl rfl rfl rfl (by decide) rfl ?_ | refine step_store_agg 2 rfl rfl rfl (by decide) rfl rfl rfl rfl (by decide) rfl ?_ | refine step_store_agg 3 rfl rfl rfl (by decide) rfl rfl rfl rfl (by decide) rfl ?_ | refine step_store_agg 4 rfl rfl rfl (by decide) rfl rfl rfl rfl (by decide) rfl ?_ | refine step_store_agg 5 rfl rfl rfl (by decide) rfl rfl rfl rfl (by decide) rfl ?_ | refine step_store_agg 0 rfl rfl rfl (of_one rfl) rfl rfl rfl rfl (Nat.le_of_ble_eq_true rfl) rfl ?_ | refine step_store_agg 1 rfl rfl rfl (of_one rfl) rfl rfl rfl rfl (Nat.le_of_ble_eq_true rfl) rfl ?_ | refine step_store_agg 2 rfl rfl rfl (of_one rfl) rfl rfl rfl rfl (Nat.le_of_ble_eq_true rfl) rfl ?_ | refine step_store_agg 3 rfl rfl rfl (of_one rfl) rfl rfl rfl rfl (Nat.le_of_ble_eq_true rfl) rfl ?_ | refine step_store_agg 4 rfl rfl rfl (of_one rfl) rfl rfl rfl rfl (Nat.le_of_ble_eq_true rfl) rfl ?_ | refine step_store_agg 5 rfl rfl rfl (of_one rfl) rfl rfl rfl rfl (Nat.le_of_ble_eq_true rfl) rfl ?_
    refine step_pure rfl (pure_assign rfl) ?_
    refine Vc.step_end (fun a w ok => ?_)
    first | (refine WPs.run ?_ a w ok; clear ok w a) | skip
    exact s_ret fun a w ok => ends_givesP on (.inr rfl) ok (res_cell_tmp (i := 4) Try.results32 rfl rfl rfl rfl rfl (Nat.le_of_ble_eq_true rfl) rfl rfl) (oneR_mono b) (oneR_no hnone)
  have hl2 : used1 P ≤ P.length ∧ datN P ≤ (b.length : Int) - pA P (used1 P) := by
    rw [h] at hlo
    simp at hlo
    omega
  clear h hlo
  refine s_skip fun a w ok => WPs.run ?_ a w ok
  clear ok w a
  repeat refine s_seqs ?_
  refine s_reg ?_
  refine step_pure rfl (pure_move rfl) ?_
  refine step_hole ?_
  refine step_pure rfl (pure_gtr rfl rfl) ?_
  refine Vc.step_end (fun a w ok => ?_)
  first | (refine WPs.run ?_ a w ok; clear ok w a) | skip
  have hmd : (mkF P b).data = if 0 < datN P then (b.drop (pA P (used1 P))).take (datN P).toNat else [] := rfl
  have hmdl : (mkF P b).data.length ≤ 1000000 := by
    rw [hmd]
    split
    · rw [List.length_take, List.length_drop]; omega
    · simp
  have hmdb : Bytes (mkF P b).data := by
    rw [hmd]
    split
    · exact fun y hy => hb y (List.mem_of_mem_drop (List.mem_of_mem_take hy))
    · intro y hy; cases hy
  repeat refine s_seqs ?_
  refine s_meetP (α := SlS) (fun _ => (10, .pointer (some ⟨b10, 0, none⟩)) :: rF base1 b.length cap1 b2 b4 b5 P)
    (fun z => z.e :: er :: ⟨b10, [.int .i64 (pN P 0), .int .i64 (mk0 P).a, .int .i64 (mk0 P).b, .slice rb (cnt P) rc, .slice z.base (mkF P b).data.length z.cap], 33⟩ :: mF b5 b4 b2 P) (fun z _ => SlIs ty5 5 z.e z.base (mkF P b).data.length z.cap (row (mkF P b).data)) ?_ ?_
  · repeat refine s_seqs ?_
    refine s_cond rfl (fun h => ?_) (fun h => ?_)
    · have hd0 : 0 < datN P := of_decide_eq_true h
      rw [if_pos hd0] at hmd
      obtain ⟨dn, hdn⟩ : ∃ dn : Nat, datN P = dn := ⟨(datN P).toNat, by omega⟩
      have hsub := slc_sub (lo := pA P (used1 P)) (hi := pA P (used1 P) + dn) hv (by omega) (by omega)
      have hdl : (mkF P b).data.length = dn := by rw [hmd, List.length_take, List.length_drop]; omega
      have hrow : ((row b).drop (pA P (used1 P) * 1)).take ((pA P (used1 P) + dn - pA P (used1 P)) * 1) = row (mkF P b).data := by
        rw [hmd, Nat.mul_one, Nat.mul_one, show pA P (used1 P) + dn - pA P (used1 P) = (datN P).toNat by omega, show (row b).drop (pA P (used1 P)) = row (b.drop (pA P (used1 P))) from (List.map_drop ..).symm]
        exact (List.map_take ..).symm
      rw [hrow, show pA P (used1 P) + dn - pA P (used1 P) = (mkF P b).data.length by omega] at hsub
      repeat refine s_seqs ?_
      refine s_dreg [9, 17, 25, 35, 41, 49, 59, 65, 73, 81, 5, 92, 97, 108] ([⟨b5, ints .i64 (aL P), 69⟩]) follows (by kernel_rfl) ?_
      refine d_pure0 rfl rfl rfl (pure_move rfl) ?_
      refine d_pure0 rfl rfl rfl (pure_move rfl) ?_
      refine d_pure0 rfl rfl rfl (pure_ix rfl rfl rfl rfl rfl (by omega) (by omega) (ix1 rfl (used1 P))) ?_
      refine d_pure1 rfl rfl rfl (pure_load (i := 0) rfl rfl rfl rfl rfl hA1) (by first | exact SubMem.refl _ | exact (SubMem.refl _).cons | exact (SubMem.refl _).cons.cons | exact (SubMem.refl _).cons.cons.cons | exact (SubMem.refl _).cons.cons.cons.cons | exact (fun w hh => Has.sublist (by repeat (first | exact List.Sublist.refl _ | exact List.nil_sublist _ | apply List.Sublist.cons_cons | apply List.Sublist.cons)) hh)) ?_
      refine d_pure0 rfl rfl rfl (pure_move rfl) ?_
      refine d_pure0 rfl rfl rfl (pure_ix rfl rfl rfl rfl rfl (by omega) (by omega) (ix1 rfl (used1 P))) ?_
      refine d_pure1 rfl rfl rfl (pure_load (i := 0) rfl rfl rfl rfl rfl hA1) (by first | exact SubMem.refl _ | exact (SubMem.refl _).cons | exact (SubMem.refl _).cons.cons | exact (SubMem.refl _).cons.cons.cons | exact (SubMem.refl _).cons.cons.cons.cons | exact (fun w hh => Has.sublist (by repeat (first | exact List.Sublist.refl _ | exact List.nil_sublist _ | apply List.Sublist.cons_cons | apply List.Sublist.cons)) hh)) ?_
      refine d_pure0 rfl rfl rfl (pure_move rfl) ?_
      refine d_as0 rfl rfl rfl (pure_add64 rfl rfl (by omega) (by omega)) (show _ = Value.int .i64 ((pA P (used1 P) + dn : Nat) : Int) from by rw [hdn]; rfl) ?_
      refine d_as0 rfl rfl rfl (pure_sub_both rfl rfl rfl rfl rfl rfl (by omega) (by omega) (by omega)) (show _ = subS base1 cap1 1 (pA P (used1 P)) (pA P (used1 P) + dn) from by show subS base1 cap1 1 (pA P (used1 P) : Int).toNat ((pA P (used1 P) + dn : Nat) : Int).toNat = _; rw [Int.toNat_natCast, Int.toNat_natCast]) ?_
      refine d_buildSlice0 rfl rfl rfl rfl rfl rfl (by first | exact SubMem.refl _ | exact (SubMem.refl _).cons | exact (SubMem.refl _).cons.cons | exact (SubMem.refl _).cons.cons.cons | exact (SubMem.refl _).cons.cons.cons.cons | exact (fun w hh => Has.sublist (by repeat (first | exact List.Sublist.refl _ | exact List.nil_sublist _ | apply List.Sublist.cons_cons | apply List.Sublist.cons)) hh)) rfl (fun b115 => ?_)
      refine d_app8 (L := []) 0 rfl rfl rfl rfl (sl_empty ty5 5 b115) rfl hsub rfl (by omega) rfl (fun _ => (by first | exact SubMem.refl _ | exact (SubMem.refl _).cons | exact (SubMem.refl _).cons.cons | exact (SubMem.refl _).cons.cons.cons | exact (SubMem.refl _).cons.cons.cons.cons | exact (fun w hh => Has.sublist (by repeat (first | exact List.Sublist.refl _ | exact List.nil_sublist _ | apply List.Sublist.cons_cons | apply List.Sublist.cons)) hh))) (fun db dc ed hsd => ?_)
      rw [List.nil_append, Nat.zero_add] at hsd
      rw [Nat.zero_add]
      refine d_pure0 rfl rfl rfl (pure_fieldAddr rfl rfl rfl rfl rfl (by decide)) ?_
      first | refine d_store 0 rfl rfl rfl rfl rfl rfl rfl rfl rfl rfl (by first | decide | exact Nat.le_of_ble_eq_true rfl) rfl rfl rfl ?_ | refine d_store 1 rfl rfl rfl rfl rfl rfl rfl rfl rfl rfl (by first | decide | exact Nat.le_of_ble_eq_true rfl) rfl rfl rfl ?_ | refine d_store 2 rfl rfl rfl rfl rfl rfl rfl rfl rfl rfl (by first | decide | exact Nat.le_of_ble_eq_true rfl) rfl rfl rfl ?_ | refine d_store 3 rfl rfl rfl rfl rfl rfl rfl rfl rfl rfl (by first | decide | exact Nat.le_of_ble_eq_true rfl) rfl rfl rfl ?_ | refine d_store 4 rfl rfl rfl rfl rfl rfl rfl rfl rfl rfl (by first | decide | exact Nat.le_of_ble_eq_true rfl) rfl rfl rfl ?_ | refine d_store 5 rfl rfl rfl rfl rfl rfl rfl rfl rfl rfl (by first | decide | exact Nat.le_of_ble_eq_true rfl) rfl rfl rfl ?_
      refine d_end (fun a w ok => ?_)
      refine ⟨⟨db, (mkF P b).data.length, dc, ed⟩, E2, hsd, Gt.refl _, Less.ok ?_ ok⟩
      exact less_sub ⟨rfl, rfl, rfl, rfl, rfl, rfl, trivial⟩ (by repeat (first | exact List.Sublist.refl _ | exact List.nil_sublist _ | apply List.Sublist.cons_cons | apply List.Sublist.cons))
    · have hd0 : ¬ 0 < datN P := of_decide_eq_false h
      rw [if_neg hd0] at hmd
      rw [hmd]
      refine s_skip fun a w ok => ⟨⟨none, 0, 0, hole⟩, E2, sl_nil _ _ (by decide), Gt.refl _, Less.ok ?_ ok⟩
      exact less_of ⟨rfl, rfl, rfl, rfl, rfl, rfl, trivial⟩ rfl
  rintro ⟨db, dl, dc, ed⟩ E3 hsd g a w ok
  dsimp only at hsd
  refine WPs.run ?_ a w ok
  clear ok w a
  dsimp only
  replace on := on.next g
  replace hv := hv.mono g.mono
  clear g hmd hl2 hpa hdN hA1 hA hN hPN hPA
  -- the frame is whole
  have hcr : cnt P = (mkF P b).rs.length := by rw [hmf, hmr, List.length_map, List.length_range]
  have hsr : SlIs ty45 45 er rb (mkF P b).rs.length rc (rgCells (mkF P b).rs) := by rw [← hcr]; exact hsr
  rw [hcr]
  have e1 : pN P 0 = (mkF P b).kind := rfl
  have e2 : (mk0 P).a = (mkF P b).a := rfl
  have e3 : (mk0 P).b = (mkF P b).b := rfl
  rw [e1, e2, e3]
  replace hno : ∀ f r, fok f = true → b = fbytes f ++ r → mkF P b = f := fun f r h1 h2 => (hno f r h1 h2).2
  clear e1 e2 e3 hmf hmr hkd hcr hu1 hu0 hc16
  generalize mkF P b = f at *
  have hfc : ∀ w', Has w' (ed :: er :: ⟨b10, [.int .i64 f.kind, .int .i64 f.a, .int .i64 f.b, .slice rb f.rs.length rc, .slice db f.data.length dc], 33⟩ :: mF b5 b4 b2 P) → Keep E3.w0 w' E3.ws → FrC (At w') f [.int .i64 f.kind, .int .i64 f.a, .int .i64 f.b, .slice rb f.rs.length rc, .slice db f.data.length dc] :=
    fun w' hh kp => ⟨_, _, rfl, slis_now (j := 1) hsr rfl w' hh kp, slis_now (j := 0) hsd rfl w' hh kp⟩
  repeat refine s_seqs ?_
  refine s_reg ?_
  refine step_pure rfl (pure_load_agg (i := 2) rfl rfl rfl rfl rfl (Nat.le_of_ble_eq_true rfl) rfl) ?_
  refine step_gives rfl fun16 rfl (fun w' hh kp => rcheck_any f _ w' (hfc w' hh kp) (by omega)) ?_
  refine step_pure rfl (pure_neq rfl rfl) ?_
  refine Vc.step_end (fun a w ok => ?_)
  first | (refine WPs.run ?_ a w ok; clear ok w a) | skip
  by_cases hk : fok f = true
  · rw [if_pos hk]
    repeat refine s_seqs ?_
    refine s_cond_no rfl rfl ?_
    refine s_skip fun a w ok => WPs.run ?_ a w ok
    clear ok w a
    repeat refine s_seqs ?_
    refine s_reg ?_
    refine step_pure rfl (pure_load_agg (i := 2) rfl rfl rfl rfl rfl (Nat.le_of_ble_eq_true rfl) rfl) ?_
    refine step_givesP on.sc rfl fun24 rfl (fun w' Z' hh kp hZ hC => rfbytes_P f _ w' hZ (hfc w' hh kp) hk) ?_
    rintro v14 E4 g hw
    replace on := on.next g
    replace hv := hv.mono g.mono
    refine step_pure rfl (pure_assign rfl) ?_
    refine Vc.step_end (fun a w ok => ?_)
    first | (refine WPs.run ?_ a w ok; clear ok w a) | skip
    have hfl := fbytes_le hk
    have hfb := fbytes_bytes hmdb
    have hw : SlC (Cel E4) 1 v14 (fbytes f).length (row (fbytes f)) := SlC.mono hw Cz.cel
    obtain ⟨base14, cap14, rfl, hcap14⟩ := slc_str hw
    repeat refine s_seqs ?_
    refine s_meet ((148, .bool (!decide ((fbytes f).length ≤ b.length ∧ fbytes f = b.take (fbytes f).length))) :: (10, .pointer (some ⟨b10, 0, none⟩)) :: (14, .slice base14 (fbytes f).length cap14) :: rF base1 b.length cap1 b2 b4 b5 P) (ed :: er :: ⟨b10, [.int .i64 f.kind, .int .i64 f.a, .int .i64 f.b, .slice rb f.rs.length rc, .slice db f.data.length dc], 33⟩ :: mF b5 b4 b2 P) ?_ (fun a w ok => WPs.run ?_ a w ok)
    · by_cases hlen : (fbytes f).length ≤ b.length
      · have hsub := slc_sub (lo := 0) (hi := (fbytes f).length) hv (Nat.zero_le _) hlen
        rw [Nat.zero_mul, List.drop_zero, Nat.sub_zero, Nat.mul_one, show (row b).take (fbytes f).length = row (b.take (fbytes f).length) from (List.map_take ..).symm] at hsub
        have htl : (b.take (fbytes f).length).length = (fbytes f).length := by rw [List.length_take]; omega
        have hsub : SlC (Cel E4) 1 (subS base1 cap1 1 0 (fbytes f).length) (b.take (fbytes f).length).length (row (b.take (fbytes f).length)) := by rw [htl]; exact hsub
        have htb : Bytes (b.take (fbytes f).length) := fun y hy => hb y (List.mem_of_mem_take hy)
        have hcmp : (!(str (fbytes f)).toList == (str (b.take (fbytes f).length)).toList) = !decide ((fbytes f).length ≤ b.length ∧ fbytes f = b.take (fbytes f).length) := by
          by_cases he : fbytes f = b.take (fbytes f).length
          · rw [decide_eq_true ⟨hlen, he⟩, ← he, beq_self_eq_true]
          · rw [decide_eq_false (fun h => he h.2), str_ne hfb htb he]
        repeat refine c_seq ?_
        refine d_region2 [1, 9, 17, 25, 33, 41, 49, 59, 65, 73, 81, 89, 99, 105, 113] ([]) follows (by kernel_rfl) ?_
        refine d_pure0 rfl rfl rfl (pure_move rfl) ?_
        refine d_pure0 rfl rfl rfl (pure_len_slice rfl rfl rfl) ?_
        refine d_pure0 rfl rfl rfl (pure_move rfl) ?_
        refine d_pure0 rfl rfl rfl (pure_len_slice rfl rfl rfl) ?_
        refine d_as0 rfl rfl rfl (pure_gtr rfl rfl) (show _ = Value.bool false from by rw [decide_eq_false (by omega)]) ?_
        refine d_pure0 rfl rfl rfl (pure_move rfl) ?_
        refine d_pure0 rfl rfl rfl (pure_move rfl) ?_
        refine d_pure1 rfl rfl rfl (pure_sl_string rfl rfl rfl rfl rfl rfl rfl (fun w hh kp => (hw.mono (fun p x h => h.now kp)).slv)) (by first | exact SubMem.refl _ | exact (SubMem.refl _).cons | exact (SubMem.refl _).cons.cons | exact (SubMem.refl _).cons.cons.cons | exact (SubMem.refl _).cons.cons.cons.cons | exact (fun w hh => Has.sublist (by repeat (first | exact List.Sublist.refl _ | exact List.nil_sublist _ | apply List.Sublist.cons_cons | apply List.Sublist.cons)) hh)) ?_
        refine d_pure0 rfl rfl rfl (pure_move rfl) ?_
        refine d_pure0 rfl rfl rfl (pure_move rfl) ?_
        refine d_pure0 rfl rfl rfl (pure_len_slice rfl rfl rfl) ?_
        refine d_as0 rfl rfl rfl (pure_sub_hi rfl rfl rfl rfl rfl (by omega) (by omega)) (show _ = subS base1 cap1 1 0 (fbytes f).length from by show subS base1 cap1 1 0 ((fbytes f).length : Int).toNat = _; rw [Int.toNat_natCast]) ?_
        refine d_pure1 rfl rfl rfl (pure_sl_string rfl rfl rfl rfl rfl rfl rfl (fun w hh kp => (hsub.mono (fun p x h => h.now kp)).slv)) (by first | exact SubMem.refl _ | exact (SubMem.refl _).cons | exact (SubMem.refl _).cons.cons | exact (SubMem.refl _).cons.cons.cons | exact (SubMem.refl _).cons.cons.cons.cons | exact (fun w hh => Has.sublist (by repeat (first | exact List.Sublist.refl _ | exact List.nil_sublist _ | apply List.Sublist.cons_cons | apply List.Sublist.cons)) hh)) ?_
        refine d_as0 rfl rfl rfl (pure_str_neq rfl rfl) (show _ = Value.bool _ from by rw [hcmp]) ?_
        refine d_pure0 rfl rfl rfl (pure_pick_no rfl rfl) ?_
        refine d_nil ?_
        exact less_of ⟨rfl, rfl, rfl, rfl, rfl, rfl, rfl, rfl, trivial⟩ rfl
      · rw [decide_eq_false (fun h => hlen h.1)]
        repeat refine c_seq ?_
        refine d_region2 [1, 9, 17, 25, 33, 41, 49, 59, 65, 73, 81, 89, 99, 105, 113] ([]) follows (by kernel_rfl) ?_
        refine d_pure0 rfl rfl rfl (pure_move rfl) ?_
        refine d_pure0 rfl rfl rfl (pure_len_slice rfl rfl rfl) ?_
        refine d_pure0 rfl rfl rfl (pure_move rfl) ?_
        refine d_pure0 rfl rfl rfl (pure_len_slice rfl rfl rfl) ?_
        refine d_as0 rfl rfl rfl (pure_gtr rfl rfl) (show _ = Value.bool true from by rw [decide_eq_true (by omega)]) ?_
        refine d_pure0 rfl rfl rfl (pure_move rfl) ?_
        refine d_pass rfl rfl rfl (fun h => by cases h) rfl rfl rfl ?_
        refine d_pass rfl rfl rfl (fun _ => (by first | exact SubMem.refl _ | exact (SubMem.refl _).cons | exact (SubMem.refl _).cons.cons | exact (SubMem.refl _).cons.cons.cons | exact (SubMem.refl _).cons.cons.cons.cons | exact (fun w hh => Has.sublist (by repeat (first | exact List.Sublist.refl _ | exact List.nil_sublist _ | apply List.Sublist.cons_cons | apply List.Sublist.cons)) hh))) rfl rfl rfl ?_
        refine d_pass rfl rfl rfl (fun h => by cases h) rfl rfl rfl ?_
        refine d_pass rfl rfl rfl (fun h => by cases h) rfl rfl rfl ?_
        refine d_pass rfl rfl rfl (fun h => by cases h) rfl rfl rfl ?_
        refine d_pass rfl rfl rfl (fun h => by cases h) rfl rfl rfl ?_
        refine d_pass rfl rfl rfl (fun _ => (by first | exact SubMem.refl _ | exact (SubMem.refl _).cons | exact (SubMem.refl _).cons.cons | exact (SubMem.refl _).cons.cons.cons | exact (SubMem.refl _).cons.cons.cons.cons | exact (fun w hh => Has.sublist (by repeat (first | exact List.Sublist.refl _ | exact List.nil_sublist _ | apply List.Sublist.cons_cons | apply List.Sublist.cons)) hh))) rfl rfl rfl ?_
        refine d_pass rfl rfl rfl (fun h => by cases h) rfl rfl rfl ?_
        refine d_pure0 rfl rfl rfl (pure_pick_yes rfl rfl) ?_
        refine d_nil ?_
        exact less_of ⟨rfl, rfl, rfl, rfl, rfl, rfl, rfl, rfl, trivial⟩ rfl
    by_cases hyes : (fbytes f).length ≤ b.length ∧ fbytes f = b.take (fbytes f).length
    · rw [decide_eq_true hyes]
      repeat refine s_seqs ?_
      refine s_cond_no rfl rfl ?_
      refine s_skip fun a w ok => WPs.run ?_ a w ok
      clear ok w a
      repeat refine s_seqs ?_
      refine s_reg ?_
      refine step_pure rfl (pure_load_agg (i := 2) rfl rfl rfl rfl rfl (Nat.le_of_ble_eq_true rfl) rfl) ?_
      refine step_pure rfl (pure_move rfl) ?_
      refine step_pure rfl (pure_len_slice rfl rfl rfl) ?_
      first | refine step_store_agg 0 rfl rfl rfl (by decide) rfl rfl rfl rfl (by decide) rfl ?_ | refine step_store_agg 1 rfl rfl rfl (by decide) rfl rfl rfl rfl (by decide) rfl ?_ | refine step_store_agg 2 rfl rfl rfl (by decide) rfl rfl rfl rfl (by decide) rfl ?_ | refine step_store_agg 3 rfl rfl rfl (by decide) rfl rfl rfl rfl (by decide) rfl ?_ | refine step_store_agg 4 rfl rfl rfl (by decide) rfl rfl rfl rfl (by decide) rfl ?_ | refine step_store_agg 5 rfl rfl rfl (by decide) rfl rfl rfl rfl (by decide) rfl ?_ | refine step_store_agg 0 rfl rfl rfl (of_one rfl) rfl rfl rfl rfl (Nat.le_of_ble_eq_true rfl) rfl ?_ | refine step_store_agg 1 rfl rfl rfl (of_one rfl) rfl rfl rfl rfl (Nat.le_of_ble_eq_true rfl) rfl ?_ | refine step_store_agg 2 rfl rfl rfl (of_one rfl) rfl rfl rfl rfl (Nat.le_of_ble_eq_true rfl) rfl ?_ | refine step_store_agg 3 rfl rfl rfl (of_one rfl) rfl rfl rfl rfl (Nat.le_of_ble_eq_true rfl) rfl ?_ | refine step_store_agg 4 rfl rfl rfl (of_one rfl) rfl rfl rfl rfl (Nat.le_of_ble_eq_true rfl) rfl ?_ | refine step_store_agg 5 rfl rfl rfl (of_one rfl) rfl rfl rfl rfl (Nat.le_of_ble_eq_true rfl) rfl ?_
      refine step_pure rfl (pure_assign rfl) ?_
      refine Vc.step_end (fun a w ok => ?_)
      first | (refine WPs.run ?_ a w ok; clear ok w a) | skip
      have hone : oneP b = some f := by
        rw [← List.take_append_drop (fbytes f).length b, ← hyes.2]
        exact oneP_of hk
      refine s_letM [ed, er] (List.Perm.refl _) (fun E5 g5 hc => ?_)
      refine s_ret fun a w ok => ends_givesP (on.next g5) (.inr rfl) ok (res_cell_tmp (i := 3) Try.results32 rfl rfl rfl rfl rfl (Nat.le_of_ble_eq_true rfl) rfl rfl) (oneR_mono b) ?_
      have hc := hc Z on.sc
      unfold OneR
      rw [hone]
      exact ⟨_, rfl, _, _, rfl, slis_cz hsr (hc er (.tail _ (.head _))), slis_cz hsd (hc ed (.head _))⟩
    · rw [decide_eq_false hyes]
      repeat refine s_seqs ?_
      refine s_cond_yes rfl rfl ?_
      have hnone : oneP b = none := oneP_no hb (fun f0 r hf he => by
        have h0 := hno f0 r hf he
        subst h0
        refine hyes ⟨by rw [he, List.length_append]; omega, ?_⟩
        rw [he, List.take_left])
      repeat refine s_seqs ?_
      refine s_reg ?_
      refine step_pure rfl (pure_build_struct (pl := [(0, 1), (1, 1), (2, 1), (3, 1), (4, 1)]) rfl zero33 rfl rfl rfl rfl) ?_
      first | refine step_store_agg 0 rfl rfl rfl (by decide) rfl rfl rfl rfl (by decide) rfl ?_ | refine step_store_agg 1 rfl rfl rfl (by decide) rfl rfl rfl rfl (by decide) rfl ?_ | refine step_store_agg 2 rfl rfl rfl (by decide) rfl rfl rfl rfl (by decide) rfl ?_ | refine step_store_agg 3 rfl rfl rfl (by decide) rfl rfl rfl rfl (by decide) rfl ?_ | refine step_store_agg 4 rfl rfl rfl (by decide) rfl rfl rfl rfl (by decide) rfl ?_ | refine step_store_agg 5 rfl rfl rfl (by decide) rfl rfl rfl rfl (by decide) rfl ?_ | refine step_store_agg 0 rfl rfl rfl (of_one rfl) rfl rfl rfl rfl (Nat.le_of_ble_eq_true rfl) rfl ?_ | refine step_store_agg 1 rfl rfl rfl (of_one rfl) rfl rfl rfl rfl (Nat.le_of_ble_eq_true rfl) rfl ?_ | refine step_store_agg 2 rfl rfl rfl (of_one rfl) rfl rfl rfl rfl (Nat.le_of_ble_eq_true rfl) rfl ?_ | refine step_store_agg 3 rfl rfl rfl (of_one rfl) rfl rfl rfl rfl (Nat.le_of_ble_eq_true rfl) rfl ?_ | refine step_store_agg 4 rfl rfl rfl (of_one rfl) rfl rfl rfl rfl (Nat.le_of_ble_eq_true rfl) rfl ?_ | refine step_store_agg 5 rfl rfl rfl (of_one rfl) rfl rfl rfl rfl (Nat.le_of_ble_eq_true rfl) rfl ?_
      refine step_pure rfl (pure_assign rfl) ?_
      refine Vc.step_end (fun a w ok => ?_)
      first | (refine WPs.run ?_ a w ok; clear ok w a) | skip
      exact s_ret fun a w ok => ends_givesP on (.inr rfl) ok (res_cell_tmp (i := 5) Try.results32 rfl rfl rfl rfl rfl (Nat.le_of_ble_eq_true rfl) rfl rfl) (oneR_mono b) (oneR_no hnone)
  · rw [if_neg hk]
    repeat refine s_seqs ?_
    refine s_cond_yes rfl rfl ?_
    have hnone : oneP b = none := oneP_no hb (fun f0 r hf he => by
      have h0 := hno f0 r hf he
      subst h0
      exact hk hf)
    repeat refine s_seqs ?_
    refine s_reg ?_
    refine step_pure rfl (pure_build_struct (pl := [(0, 1), (1, 1), (2, 1), (3, 1), (4, 1)]) rfl zero33 rfl rfl rfl rfl) ?_
    first | refine step_store_agg 0 rfl rfl rfl (by decide) rfl rfl rfl rfl (by decide) rfl ?_ | refine step_store_agg 1 rfl rfl rfl (by decide) rfl rfl rfl rfl (by decide) rfl ?_ | refine step_store_agg 2 rfl rfl rfl (by decide) rfl rfl rfl rfl (by decide) rfl ?_ | refine step_store_agg 3 rfl rfl rfl (by decide) rfl rfl rfl rfl (by decide) rfl ?_ | refine step_store_agg 4 rfl rfl rfl (by decide) rfl rfl rfl rfl (by decide) rfl ?_ | refine step_store_agg 5 rfl rfl rfl (by decide) rfl rfl rfl rfl (by decide) rfl ?_ | refine step_store_agg 0 rfl rfl rfl (of_one rfl) rfl rfl rfl rfl (Nat.le_of_ble_eq_true rfl) rfl ?_ | refine step_store_agg 1 rfl rfl rfl (of_one rfl) rfl rfl rfl rfl (Nat.le_of_ble_eq_true rfl) rfl ?_ | refine step_store_agg 2 rfl rfl rfl (of_one rfl) rfl rfl rfl rfl (Nat.le_of_ble_eq_true rfl) rfl ?_ | refine step_store_agg 3 rfl rfl rfl (of_one rfl) rfl rfl rfl rfl (Nat.le_of_ble_eq_true rfl) rfl ?_ | refine step_store_agg 4 rfl rfl rfl (of_one rfl) rfl rfl rfl rfl (Nat.le_of_ble_eq_true rfl) rfl ?_ | refine step_store_agg 5 rfl rfl rfl (of_one rfl) rfl rfl rfl rfl (Nat.le_of_ble_eq_true rfl) rfl ?_
    refine step_pure rfl (pure_assign rfl) ?_
    refine Vc.step_end (fun a w ok => ?_)
    first | (refine WPs.run ?_ a w ok; clear ok w a) | skip
    exact s_ret fun a w ok => ends_givesP on (.inr rfl) ok (res_cell_tmp (i := 5) Try.results32 rfl rfl rfl rfl rfl (Nat.le_of_ble_eq_true rfl) rfl rfl) (oneR_mono b) (oneR_no hnone)
end Go.Proofs.Ytphpmallnlajjaa
