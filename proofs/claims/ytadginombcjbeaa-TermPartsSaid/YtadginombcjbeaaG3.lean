/- Cells of a screen in one's own block: read, written, blanked, moved: walked. -/
import Derived.Test.YtadginombcjbeaaG2
import Derived.Test.YtadginombcjbeaaVg
namespace Go.Proofs.Ytadginombcjbeaa
open Go.RowKit Go.Vc
set_option linter.unusedVariables false
section
variable {B : Tb} {E : Env} {n : Nat} {all rest : List Oper} {rs : Rs} {m : Mem} {K : Act → World → Prop}
variable {dst : Option Tmp} {ty : TypeId} {pos : String} {aft : Array Edge} {gd : Option (Nat × Bool)}
theorem pure_sub3 {x y z q : Operand} {T eT : TypeId} {a : Option Addr} {len cap : Nat} {i j k : Int} {d u : Ty} (hx : ev rs x = some (.slice a len cap)) (hy : ev rs y = some (.int .i64 i))
  (hz : ev rs z = some (.int .i64 j)) (hq : ev rs q = some (.int .i64 k)) (hT : B.ty T = some d) (hd : d.desc = .slice eT) (hu : B.ty eT = some u) (h0 : 0 ≤ i) (h1 : i ≤ j) (h3 : j ≤ k) (h4 : k ≤ cap) :
  Pure B E rs m ⟨dst, .slice T x (some y) (some z) (some q), ty, pos, aft, gd⟩ (subS a k.toNat u.size i.toNat j.toNat) := by
 refine ⟨fun a' w hr hh hk => ?_⟩
 have h2 := ty_under hT (by rw [hd]; rfl) w
 rw [hd] at h2
 have h5 : 0 ≤ j := by omega
 have h6 : 0 ≤ k := by omega
 have h7 : j ≤ (k.toNat : Int) := by omega
 have h8 : i ≤ (j.toNat : Int) := by omega
 simp [execOp, ev_ok hr hx, ev_ok hr hy, ev_ok hr hz, ev_ok hr hq, Instr.sliceAt, Instr.slice, h2, Instr.sliceBounds, Instr.sliceBound, asIntOf, h0, h4, h5, h6, ty_size hu, subS]
 rw [if_pos (by omega), if_pos (by omega)]
/-- The first elements of a longer slice. -/
theorem src_part {v : Value} {sz k q : Nat} {xs : List Value} (hq : q ≤ k) (h : ∀ w, Has w m → Keep E.w0 w E.ws → SlC (fun p x => w.cell? p = some x) sz v k xs) :
  ∀ w, Has w m → Keep E.w0 w E.ws → (Builtin.firstCells sz q v).run B.P w = .ok (xs.take (q * sz)).toArray w := by
 intro w hh hk
 obtain ⟨base, cap, rfl, h2, h3, h4⟩ := h w hh hk
 have hqs : q * sz ≤ k * sz := Nat.mul_le_mul_right _ hq
 have hl : (xs.take (q * sz)).length = q * sz := by rw [List.length_take]; omega
 by_cases hne : xs = []
 ·subst hne
  have h0 : q * sz = 0 := by simpa using hl.symm
  cases base <;> simp [Builtin.firstCells, h0, loadCells, loadCellsFrom]
 ·obtain ⟨p, rfl, hp⟩ := h4 hne
  have := run_loadCells_list (P := B.P) w p (xs.take (q * sz)) (fun j v hj => by
   rw [List.getElem?_take] at hj
   split at hj
   ·exact hp j v hj
   ·cases hj)
  rw [hl] at this
  exact this
end
theorem subS_at (b o cap lo hi : Nat) (h : hi ≤ cap) : ∃ off, subS (some ⟨b, o, none⟩) cap 2 lo hi = .slice (some ⟨b, off, none⟩) (hi - lo) (cap - lo) ∧ (0 < hi - lo → off = o + lo * 2) ∧ off ≤ o + lo * 2 := by
 unfold subS
 by_cases hc : cap = lo
 ·rw [if_pos hc]
  exact ⟨o, rfl, fun h1 => by omega, by omega⟩
 ·rw [if_neg hc]
  exact ⟨o + lo * 2, congrArg (fun a => Value.slice (some a) _ _) (add_none ..), fun _ => rfl, Nat.le_refl _⟩
/-- A place of some cells in a block. -/
structure Plc (l : List Ce) (off o k : Nat) : Prop where
 at_ : 0 < k → off = o * 2
 le : off ≤ o * 2
 in_ : o + k ≤ l.length
theorem plc_wr {l x : List Ce} {tl : List Value} {off o k : Nat} (h : Plc l off o k) (hx : x.length = k) : splice (ceR l ++ tl) off (ceR x) = ceR (splice l o x) ++ tl := by
 have hl := ceR_len l
 have hxl := ceR_len x
 have hin := h.in_
 rcases Nat.eq_zero_or_pos k with h0 | h0
 ·have : x = [] := List.eq_nil_of_length_eq_zero (by omega)
  subst this
  unfold splice
  simp [ceR]
 ·rw [h.at_ h0, ← ceR_splice]
  unfold splice
  rw [List.take_append_of_le_length (by omega), List.drop_append_of_le_length (by omega)]
  simp only [List.append_assoc]
theorem plc_sub {l : List Ce} {off o k lo hi off' : Nat} (h : Plc l off o k) (hlo : lo ≤ hi) (hhi : hi ≤ k) (h1 : 0 < hi - lo → off' = off + lo * 2) (h2 : off' ≤ off + lo * 2) : Plc l off' (o + lo) (hi - lo) := by
 have ha := h.at_
 have hl := h.le
 have hi := h.in_
 exact ⟨fun hp => by rw [h1 hp, ha (by omega)]; omega, by omega, by omega⟩
/-- What stands there. -/
theorem plc_slc {w : World} {m : Mem} {bc j off o k cap : Nat} {l : List Ce} {tl : List Value} (hh : Has w m) (he : nth m j = some ⟨bc, ceR l ++ tl, tC⟩) (h : Plc l off o k) (hc : k ≤ cap) :
  SlC (fun p x => w.cell? p = some x) 2 (.slice (some ⟨bc, off, none⟩) k cap) k (ceR ((l.drop o).take k)) := by
 have hin := h.in_
 refine ⟨_, _, rfl, hc, by rw [ceR_len, List.length_take, List.length_drop]; omega, fun hne => ⟨_, rfl, fun i x hx => ?_⟩⟩
 rw [add_none]
 have hk : 0 < k := by
  rcases Nat.eq_zero_or_pos k with h0 | h0
  ·subst h0; simp [ceR] at hne
  ·exact h0
 have hlen := ceR_len l
 have hne' : ceR l ++ tl ≠ [] := by
  intro h0
  have := congrArg List.length h0
  rw [List.length_append] at this
  simp only [List.length_nil] at this
  omega
 refine cell_of (hh.cell (nth_mem he) hne') ?_
 rw [h.at_ hk]
 have hi : i < k * 2 := by
  have := List.getElem?_eq_some_iff.1 hx
  obtain ⟨h1, _⟩ := this
  rw [ceR_len, List.length_take, List.length_drop] at h1
  omega
 rw [← ceR_take, ← ceR_drop, List.getElem?_take, if_pos hi, List.getElem?_drop] at hx
 show (ceR l ++ tl)[o * 2 + i]? = some x
 rw [List.getElem?_append_left (by omega)]
 exact hx
theorem ce_live {l : List Ce} {tl : List Value} (h : 0 < l.length) : ceR l ++ tl ≠ [] := by
 intro h0
 have := congrArg List.length h0
 rw [List.length_append, ceR_len] at this
 simp only [List.length_nil] at this
 omega
/-- A block of cells is left. -/
def ClR (bc : Nat) (l : List Ce) (tl : List Value) (u : Value) (m1 : Mem) (C : Addr → Value → Prop) : Prop := u = .tuple #[] ∧ m1 = [⟨bc, ceR l ++ tl, tC⟩]
theorem clR_mono (bc : Nat) (l : List Ce) (tl : List Value) : ∀ v m1 (C C' : Addr → Value → Prop), (∀ p x, C p x → C' p x) → ClR bc l tl v m1 C → ClR bc l tl v m1 C' := fun _ _ _ _ _ h => h
theorem splice_next {l : List Ce} {o k i : Nat} (hin : o + k ≤ l.length) (hi : i < k) : splice (splice l o (List.replicate i blC)) (o + i) [blC] = splice l o (List.replicate (i + 1) blC) := by
 refine ext_getD ?_ fun j hj => ?_
 ·rw [splice_len (by rw [splice_len (by rw [List.length_replicate]; omega)]; simp only [List.length_cons, List.length_nil]; omega), splice_len (by rw [List.length_replicate]; omega), splice_len (by rw [List.length_replicate]; omega)]
 ·rw [splice_getD _ _ _ _ (by rw [splice_len (by rw [List.length_replicate]; omega)]; simp only [List.length_cons, List.length_nil]; omega), splice_getD _ _ _ _ (by rw [List.length_replicate]; omega), splice_getD _ _ _ _ (by rw [List.length_replicate]; omega), getD_replicate, getD_replicate]
  simp only [List.length_cons, List.length_nil, List.length_replicate]
  by_cases h1 : j = o + i
  ·subst h1
   rw [if_pos (by omega), if_pos (by omega), Nat.sub_self]
   rfl
  ·by_cases h2 : o ≤ j ∧ j < o + i
   ·rw [if_neg (by omega), if_pos h2, if_pos (by omega)]
   ·rw [if_neg (by omega), if_neg h2, if_neg (by omega)]
set_option maxHeartbeats 1000000 in
theorem blank_W (l : List Ce) (tl : List Value) (bc off o k cap : Nat) (w : World) {Z : Nat → Prop} (hm : Has w [⟨bc, ceR l ++ tl, tC⟩]) (hZ : ∀ j, w.heap.size ≤ j → Z j) (hZ0 : ∀ j ∈ blks [⟨bc, ceR l ++ tl, tC⟩], Z j)
  (hp : Plc l off o k) (hl : 0 < l.length) (hle : l.length ≤ maxLen) : Wm tb 85 [.slice (some ⟨bc, off, none⟩) k cap] w Z [⟨bc, ceR l ++ tl, tC⟩] (ClR bc (splice l o (List.replicate k blC)) tl) := by
 have hmx : maxLen ≤ 9223372036854775807 := by decide
 have hin := hp.in_
 refine wm_of (fn := Try.f85) Try.func85 rfl Try.ntmps85 rfl hm hZ hZ0 (clR_mono _ _ _) (fun on => ?_)
 have hon : ∀ m0, blks m0 = blks [⟨bc, ceR l ++ tl, tC⟩] → OnM w (blks m0) Z ⟨w, blks m0, []⟩ := fun m0 h => by rw [h]; exact on
 generalize hm0 : [(⟨bc, ceR l ++ tl, tC⟩ : Ent)] = m0 at on ⊢
 repeat refine s_seqs ?_
 refine s_reg ?_
 refine qm rfl rfl ?_
 refine step_pure rfl (pure_len_slice rfl rfl rfl) ?_
 refine qm rfl rfl ?_
 refine Vc.step_end (fun a w ok => ?_)
 first | (refine WPs.run ?_ a w ok; clear ok w a) | skip
 repeat refine s_seqs ?_
 refine s_block ?_
 repeat refine s_seqs ?_
 refine s_loopP (α := Nat) (fun i => [(0, .slice (some ⟨bc, off, none⟩) k cap), (4, .int .i64 k), (5, .int .i64 i)]) (fun i => [⟨bc, ceR (splice l o (List.replicate i blC)) ++ tl, tC⟩])
  (fun i E => i ≤ k) (fun i => k - i) 0 (Nat.zero_le _) (by subst hm0; rw [show splice l o (List.replicate 0 blC) = l from by unfold splice; simp]; exact less_of ⟨rfl, rfl, rfl, trivial⟩ rfl) ?_
 intro i E1 hi g
 replace on := on.next g
 clear g
 repeat refine s_seqs ?_
 refine s_reg ?_
 refine step_pure rfl (pure_lss rfl rfl) ?_
 refine Vc.step_end (fun a w ok => ?_)
 first | (refine WPs.run ?_ a w ok; clear ok w a) | skip
 repeat refine s_seqs ?_
 refine s_cond rfl (fun h => ?_) (fun h => ?_)
 ·have hlt : i < k := by have := of_decide_eq_true h; omega
  clear h
  refine s_skip fun a w ok => WPs.run ?_ a w ok
  clear ok w a
  have hll : (splice l o (List.replicate i blC)).length = l.length := splice_len (by rw [List.length_replicate]; omega)
  have hoff := hp.at_ (by omega)
  have hpl : Plc (splice l o (List.replicate i blC)) (off + i * 2) (o + i) 1 := ⟨fun _ => by omega, by omega, by omega⟩
  have hsp := plc_wr (x := [blC]) (tl := tl) hpl rfl
  rw [splice_next hin hlt] at hsp
  have hcl : (ceR (splice l o (List.replicate i blC)) ++ tl).length = l.length * 2 + tl.length := by rw [List.length_append, ceR_len, hll]
  generalize ceR (splice l o (List.replicate i blC)) ++ tl = cs at *
  obtain ⟨cs', hcs'⟩ : ∃ x, x = ceR (splice l o (List.replicate (i + 1) blC)) ++ tl := ⟨_, rfl⟩
  rw [← hcs'] at hsp
  repeat refine s_seqs ?_
  refine s_block ?_
  repeat refine s_seqs ?_
  refine s_reg ?_
  refine qm rfl rfl ?_
  refine qa rfl rfl ?_
  refine Vc.step_end (fun a w ok => ?_)
  first | (refine WPs.run ?_ a w ok; clear ok w a) | skip
  repeat refine s_seqs ?_
  refine s_reg ?_
  refine qm rfl rfl ?_
  refine qm rfl rfl ?_
  refine step_gives rfl fun63 rfl (fun w _ _ => empty_any w) ?_
  refine step_pure rfl (pure_ixs rfl rfl rfl rfl rfl (by omega) (by omega) (show off + (i : Int).toNat * 2 = off + i * 2 by omega)) ?_
  refine step_store_agg 0 rfl rfl rfl (of_one rfl) rfl rfl rfl rfl (by show off + i * 2 + 2 ≤ cs.length; omega) hsp ?_
  refine Vc.step_end (fun a w ok => ?_)
  first | (refine WPs.run ?_ a w ok; clear ok w a) | skip
  repeat refine s_seqs ?_
  refine s_reg ?_
  first | refine step_pure rfl (pure_add64 rfl rfl (by omega) (by omega)) ?_ | refine step_pure rfl (pure_add rfl rfl) ?_
  refine qm rfl rfl ?_
  refine Vc.step_end (fun a w ok => ?_)
  refine ⟨i + 1, _, by omega, by omega, Gt.refl _, Less.ok ?_ ok⟩
  exact less_of ⟨rfl, rfl, rfl, trivial⟩ (by show _ = [(⟨bc, ceR (splice l o (List.replicate (i + 1) blC)) ++ tl, tC⟩ : Ent)]; rw [← hcs']; rfl)
 ·have hie : i = k := by have := of_decide_eq_false h; omega
  subst hie
  refine s_exit fun a w ok => ?_
  subst hm0
  exact ends_wm on (.inl rfl) ok (res_none rfl) (m1 := [_]) (mr := []) (List.Perm.refl _) (clR_mono _ _ _) ⟨rfl, rfl⟩
end Go.Proofs.Ytadginombcjbeaa
