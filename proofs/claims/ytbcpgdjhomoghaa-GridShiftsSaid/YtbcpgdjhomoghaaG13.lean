/- The closure of Resize: walked. -/
import Derived.Test.YtbcpgdjhomoghaaG12
namespace Go.Proofs.Ytbcpgdjhomoghaa
open Go.RowKit Go.Vc
set_option linter.unusedVariables false
/-- A block is let go where a way ends. -/
theorem ok_let {E : Env} {n : Nat} {rs : Rs} {m m2 : Mem} {a : Act} {w : World} (m1 : Mem) (hp : m2.Perm (m1 ++ m)) (ok : Ok E n rs m2 a w) :
  ∃ E', Gt E E' ∧ (∀ Z, Sc Z E → ∀ e ∈ m1, ∀ j x, e.cells[j]? = some x → Cz Z E' ⟨e.blk, j, none⟩ x) ∧ Ok E' n rs m a w := by
 have ok' : Ok E n rs (m1 ++ m) a w := ⟨ok.size, ok.defers, ok.regs, ok.has.perm hp, ok.own.perm hp, ok.keep⟩
 have hs : m.Sublist (m1 ++ m) := List.sublist_append_right ..
 exact ⟨_, at_gt (ok'.own.sublist hs) ok.keep, fun Z hz e he j x hj => cz_at hz ok' he hj, at_ok ok' hs⟩
def DoR (bs : Nat) (s : Scr) (u : Value) (m1 : Mem) (C : Addr → Value → Prop) : Prop :=
 u = .tuple #[] ∧ ∃ base cap v2 e, m1 = [⟨bs, scC s (.slice base s.cells.length cap) v2, tSc⟩, e] ∧ SlIs uC tC e base s.cells.length cap (ceR s.cells) ∧ SlC C 2 v2 s.main.length (ceR s.main)
theorem doR_mono {bs : Nat} {s : Scr} : ∀ v m1 (C C' : Addr → Value → Prop), (∀ p x, C p x → C' p x) → DoR bs s v m1 C → DoR bs s v m1 C' := by
 rintro v m1 C C' hC ⟨rfl, base, cap, v2, e, rfl, h1, h2⟩
 exact ⟨rfl, base, cap, v2, e, rfl, h1, h2.mono hC⟩
theorem sl_cells (l : List Ce) (tl : List Value) (bc cap : Nat) (h : (ceR l ++ tl).length = cap * 2) : SlIs uC tC ⟨bc, ceR l ++ tl, tC⟩ (some ⟨bc, 0, none⟩) l.length cap (ceR l) := by
 have hl := ceR_len l
 rw [List.length_append] at h
 refine ⟨by show (ceR l ++ tl).length = cap * 2; rw [List.length_append]; exact h, by omega, fun _ => ⟨rfl, rfl⟩, ?_⟩
 show (ceR l ++ tl).take (l.length * 2) = ceR l
 rw [← hl]
 exact List.take_left' rfl
theorem sized_I (l : List Ce) (v : Value) (was had W H : Int) (w : World) {Z : Nat → Prop} (hZ : ∀ j, w.heap.size ≤ j → Z j) (hv : SlC (At w) 2 v l.length (ceR l)) (hl : (l.length : Int) = was * had)
  (h1 : 1 ≤ was ∧ was ≤ 64) (h2 : 1 ≤ had ∧ had ≤ 64) (h3 : 1 ≤ W ∧ W ≤ 64) (h4 : 1 ≤ H ∧ H ≤ 64) :
  Wm tb 35 [v, .int .i64 was, .int .i64 had, .int .i64 W, .int .i64 H] w Z [] (OwR (sizedL l was.toNat had.toNat W.toNat H.toNat)) := by
 obtain ⟨a, rfl⟩ : ∃ k : Nat, was = k := ⟨was.toNat, by omega⟩
 obtain ⟨b, rfl⟩ : ∃ k : Nat, had = k := ⟨had.toNat, by omega⟩
 obtain ⟨c, rfl⟩ : ∃ k : Nat, W = k := ⟨W.toNat, by omega⟩
 obtain ⟨d, rfl⟩ : ∃ k : Nat, H = k := ⟨H.toNat, by omega⟩
 have hl2 : l.length = a * b := by rw [mulN] at hl; omega
 rw [hl2] at hv
 rw [Int.toNat_natCast, Int.toNat_natCast, Int.toNat_natCast, Int.toNat_natCast]
 exact sized_W l v a b c d w hZ hv hl2 (by omega) (by omega) (by omega) (by omega)
set_option maxHeartbeats 2000000 in
theorem resize1_W {s : Scr} {v2 : Value} {tl : List Value} {bs bc n cap : Nat} {w : World} {Z : Nat → Prop} (hP : Pre s v2 tl bs bc n cap w Z) (htl : (ceR s.cells ++ tl).length = cap * 2) (be b c : Nat) (N M : Int)
  (he : CapC s (v1S bc n cap) v2 tl bs bc be (if (side N && side M) = true then 0 else 170) w Z) (hb : CapC s (v1S bc n cap) v2 tl bs bc b N w Z) (hc : CapC s (v1S bc n cap) v2 tl bs bc c M w Z)
  (hv2 : SlC (fun p x => w.cell? p = some x ∧ Z p.block ∧ p.block ∉ blks (scM bs bc s (v1S bc n cap) v2 tl)) 2 v2 s.main.length (ceR s.main)) :
  Wm tb 34 [.pointer (some ⟨bs, 0, none⟩), .pointer (some ⟨be, 0, none⟩), .pointer (some ⟨b, 0, none⟩), .pointer (some ⟨c, 0, none⟩)] w Z (scM bs bc s (v1S bc n cap) v2 tl) (DoR bs (resizeF N M s)) := by
 have hn := hP.hn
 have hW := hP.ok.w
 have hH := hP.ok.h
 have hX := hP.ok.x
 have hY := hP.ok.y
 have hok := hP.ok
 replace he := (cz_startM (m0 := scM bs bc s (v1S bc n cap) v2 tl) _ _ he).1
 replace hb := (cz_startM (m0 := scM bs bc s (v1S bc n cap) v2 tl) _ _ hb).1
 replace hc := (cz_startM (m0 := scM bs bc s (v1S bc n cap) v2 tl) _ _ hc).1
 replace hv2 := hv2.mono cz_startM
 have hsc1 := sl_cells s.cells tl bc cap htl
 refine wm_of (fn := Try.f34) Try.func34 rfl Try.ntmps34 rfl hP.hm hP.hZ hP.hZ0 doR_mono (fun on => ?_)
 cases hsd : (side N && side M) with
 | false =>
  rw [hsd] at he
  repeat refine s_seqs ?_
  refine s_reg ?_
  refine step_pure rfl (pure_cel rfl rfl rfl he) ?_
  refine step_pure rfl (pure_neq rfl rfl) ?_
  refine Vc.step_end (fun a w ok => ?_)
  first | (refine WPs.run ?_ a w ok; clear ok w a) | skip
  repeat refine s_seqs ?_
  refine s_cond_yes rfl rfl ?_
  refine s_ret fun a w ok => ?_
  rw [show resizeF N M s = s from by unfold resizeF; rw [hsd]; rfl]
  exact ends_wm on (.inr rfl) ok (res_none rfl) (m1 := scM _ _ _ _ _ _) (mr := []) (List.Perm.refl _) doR_mono ⟨rfl, some ⟨bc, 0, none⟩, cap, v2, ⟨bc, ceR s.cells ++ tl, tC⟩, by rw [hn], hsc1, hv2⟩
 | true =>
  rw [hsd] at he
  obtain ⟨h1, h2⟩ := Bool.and_eq_true_iff.1 hsd
  have h1 := side_in h1
  have h2 := side_in h2
  have hsz := fun (w' : World) (Z' : Nat → Prop) hZ' (hh : Has w' (scM bs bc s (v1S bc n cap) v2 tl)) => sized_I s.cells (v1S bc n cap) s.W s.H N M w' (Z := Z') hZ' (by
   have := plc_slc (j := 1) (off := 0) (o := 0) (k := n) (cap := cap) hh rfl ⟨fun _ => rfl, Nat.le_refl _, by omega⟩ hP.hcap
   rw [List.drop_zero, List.take_of_length_le (by omega)] at this
   rw [hn]
   exact this) (okCells_len hok.cells) hW hH h1 h2
  have hrs : resizeF N M s = { s with cells := sizedL s.cells s.W.toNat s.H.toNat N.toNat M.toNat, main := if s.alt = true then sizedL s.main s.W.toNat s.H.toNat N.toNat M.toNat else s.main, W := N, H := M, X := min s.X (N - 1), Y := min s.Y (M - 1), top := 0, bot := M - 1, wrap := false } := by
   unfold resizeF
   rw [hsd]
   rfl
  have hszm : s.alt = true → ∀ (w' : World) (Z' : Nat → Prop) (hZ' : ∀ j, w'.heap.size ≤ j → Z' j) (hv : SlC (At w') 2 v2 s.main.length (ceR s.main)), _ := fun ha w' Z' hZ' hv => sized_I s.main v2 s.W s.H N M w' (Z := Z') hZ' hv (by
   have := okCells_len hok.main
   rw [if_pos ha] at this
   exact this) hW hH h1 h2
  rw [hrs]
  generalize sizedL s.cells s.W.toNat s.H.toNat N.toNat M.toNat = l1 at *
  clear hrs hsc1
  repeat refine s_seqs ?_
  refine s_reg ?_
  refine step_pure rfl (pure_cel rfl rfl rfl he) ?_
  refine step_pure rfl (pure_neq rfl rfl) ?_
  refine Vc.step_end (fun a w ok => ?_)
  first | (refine WPs.run ?_ a w ok; clear ok w a) | skip
  repeat refine s_seqs ?_
  refine s_cond_no rfl rfl ?_
  refine s_skip fun a w ok => WPs.run ?_ a w ok
  clear ok w a
  repeat refine s_seqs ?_
  refine s_dreg [1, 9, 17, 25, 35, 41, 49, 57, 67, 73, 81, 89, 99, 107, 115, 124, 129, 137, 148] (scM bs bc s (v1S bc n cap) v2 tl) follows (by kernel_rfl) ?_
  refine qd rfl rfl rfl rfl ?_
  refine qd rfl rfl rfl rfl ?_
  refine d_pure0 rfl rfl rfl (pure_nilCheck rfl) ?_
  refine d_pure0 rfl rfl rfl (pure_fieldAddr rfl rfl rfl rfl rfl (by decide)) ?_
  first | refine d_pure1 rfl rfl rfl (pure_load (i := 0) rfl rfl rfl rfl rfl rfl) (by first | exact SubMem.refl _ | exact (SubMem.refl _).cons | exact (SubMem.refl _).cons.cons | exact (SubMem.refl _).cons.cons.cons | exact (SubMem.refl _).cons.cons.cons.cons | exact (fun w hh => Has.sublist (by repeat (first | exact List.Sublist.refl _ | exact List.nil_sublist _ | apply List.Sublist.cons_cons | apply List.Sublist.cons)) hh)) ?_ | refine d_pure1 rfl rfl rfl (pure_load (i := 1) rfl rfl rfl rfl rfl rfl) (by first | exact SubMem.refl _ | exact (SubMem.refl _).cons | exact (SubMem.refl _).cons.cons | exact (SubMem.refl _).cons.cons.cons | exact (SubMem.refl _).cons.cons.cons.cons | exact (fun w hh => Has.sublist (by repeat (first | exact List.Sublist.refl _ | exact List.nil_sublist _ | apply List.Sublist.cons_cons | apply List.Sublist.cons)) hh)) ?_ | refine d_pure1 rfl rfl rfl (pure_load (i := 2) rfl rfl rfl rfl rfl rfl) (by first | exact SubMem.refl _ | exact (SubMem.refl _).cons | exact (SubMem.refl _).cons.cons | exact (SubMem.refl _).cons.cons.cons | exact (SubMem.refl _).cons.cons.cons.cons | exact (fun w hh => Has.sublist (by repeat (first | exact List.Sublist.refl _ | exact List.nil_sublist _ | apply List.Sublist.cons_cons | apply List.Sublist.cons)) hh)) ?_ | refine d_pure1 rfl rfl rfl (pure_load (i := 3) rfl rfl rfl rfl rfl rfl) (by first | exact SubMem.refl _ | exact (SubMem.refl _).cons | exact (SubMem.refl _).cons.cons | exact (SubMem.refl _).cons.cons.cons | exact (SubMem.refl _).cons.cons.cons.cons | exact (fun w hh => Has.sublist (by repeat (first | exact List.Sublist.refl _ | exact List.nil_sublist _ | apply List.Sublist.cons_cons | apply List.Sublist.cons)) hh)) ?_ | refine d_pure1 rfl rfl rfl (pure_load (i := 4) rfl rfl rfl rfl rfl rfl) (by first | exact SubMem.refl _ | exact (SubMem.refl _).cons | exact (SubMem.refl _).cons.cons | exact (SubMem.refl _).cons.cons.cons | exact (SubMem.refl _).cons.cons.cons.cons | exact (fun w hh => Has.sublist (by repeat (first | exact List.Sublist.refl _ | exact List.nil_sublist _ | apply List.Sublist.cons_cons | apply List.Sublist.cons)) hh)) ?_ | refine d_pure1 rfl rfl rfl (pure_load (i := 5) rfl rfl rfl rfl rfl rfl) (by first | exact SubMem.refl _ | exact (SubMem.refl _).cons | exact (SubMem.refl _).cons.cons | exact (SubMem.refl _).cons.cons.cons | exact (SubMem.refl _).cons.cons.cons.cons | exact (fun w hh => Has.sublist (by repeat (first | exact List.Sublist.refl _ | exact List.nil_sublist _ | apply List.Sublist.cons_cons | apply List.Sublist.cons)) hh)) ?_
  refine qd rfl rfl rfl rfl ?_
  refine d_pure0 rfl rfl rfl (pure_nilCheck rfl) ?_
  refine d_pure0 rfl rfl rfl (pure_fieldAddr rfl rfl rfl rfl rfl (by decide)) ?_
  first | refine d_pure1 rfl rfl rfl (pure_load (i := 0) rfl rfl rfl rfl rfl rfl) (by first | exact SubMem.refl _ | exact (SubMem.refl _).cons | exact (SubMem.refl _).cons.cons | exact (SubMem.refl _).cons.cons.cons | exact (SubMem.refl _).cons.cons.cons.cons | exact (fun w hh => Has.sublist (by repeat (first | exact List.Sublist.refl _ | exact List.nil_sublist _ | apply List.Sublist.cons_cons | apply List.Sublist.cons)) hh)) ?_ | refine d_pure1 rfl rfl rfl (pure_load (i := 1) rfl rfl rfl rfl rfl rfl) (by first | exact SubMem.refl _ | exact (SubMem.refl _).cons | exact (SubMem.refl _).cons.cons | exact (SubMem.refl _).cons.cons.cons | exact (SubMem.refl _).cons.cons.cons.cons | exact (fun w hh => Has.sublist (by repeat (first | exact List.Sublist.refl _ | exact List.nil_sublist _ | apply List.Sublist.cons_cons | apply List.Sublist.cons)) hh)) ?_ | refine d_pure1 rfl rfl rfl (pure_load (i := 2) rfl rfl rfl rfl rfl rfl) (by first | exact SubMem.refl _ | exact (SubMem.refl _).cons | exact (SubMem.refl _).cons.cons | exact (SubMem.refl _).cons.cons.cons | exact (SubMem.refl _).cons.cons.cons.cons | exact (fun w hh => Has.sublist (by repeat (first | exact List.Sublist.refl _ | exact List.nil_sublist _ | apply List.Sublist.cons_cons | apply List.Sublist.cons)) hh)) ?_ | refine d_pure1 rfl rfl rfl (pure_load (i := 3) rfl rfl rfl rfl rfl rfl) (by first | exact SubMem.refl _ | exact (SubMem.refl _).cons | exact (SubMem.refl _).cons.cons | exact (SubMem.refl _).cons.cons.cons | exact (SubMem.refl _).cons.cons.cons.cons | exact (fun w hh => Has.sublist (by repeat (first | exact List.Sublist.refl _ | exact List.nil_sublist _ | apply List.Sublist.cons_cons | apply List.Sublist.cons)) hh)) ?_ | refine d_pure1 rfl rfl rfl (pure_load (i := 4) rfl rfl rfl rfl rfl rfl) (by first | exact SubMem.refl _ | exact (SubMem.refl _).cons | exact (SubMem.refl _).cons.cons | exact (SubMem.refl _).cons.cons.cons | exact (SubMem.refl _).cons.cons.cons.cons | exact (fun w hh => Has.sublist (by repeat (first | exact List.Sublist.refl _ | exact List.nil_sublist _ | apply List.Sublist.cons_cons | apply List.Sublist.cons)) hh)) ?_ | refine d_pure1 rfl rfl rfl (pure_load (i := 5) rfl rfl rfl rfl rfl rfl) (by first | exact SubMem.refl _ | exact (SubMem.refl _).cons | exact (SubMem.refl _).cons.cons | exact (SubMem.refl _).cons.cons.cons | exact (SubMem.refl _).cons.cons.cons.cons | exact (fun w hh => Has.sublist (by repeat (first | exact List.Sublist.refl _ | exact List.nil_sublist _ | apply List.Sublist.cons_cons | apply List.Sublist.cons)) hh)) ?_
  refine qd rfl rfl rfl rfl ?_
  refine d_pure0 rfl rfl rfl (pure_nilCheck rfl) ?_
  refine d_pure0 rfl rfl rfl (pure_fieldAddr rfl rfl rfl rfl rfl (by decide)) ?_
  first | refine d_pure1 rfl rfl rfl (pure_load (i := 0) rfl rfl rfl rfl rfl rfl) (by first | exact SubMem.refl _ | exact (SubMem.refl _).cons | exact (SubMem.refl _).cons.cons | exact (SubMem.refl _).cons.cons.cons | exact (SubMem.refl _).cons.cons.cons.cons | exact (fun w hh => Has.sublist (by repeat (first | exact List.Sublist.refl _ | exact List.nil_sublist _ | apply List.Sublist.cons_cons | apply List.Sublist.cons)) hh)) ?_ | refine d_pure1 rfl rfl rfl (pure_load (i := 1) rfl rfl rfl rfl rfl rfl) (by first | exact SubMem.refl _ | exact (SubMem.refl _).cons | exact (SubMem.refl _).cons.cons | exact (SubMem.refl _).cons.cons.cons | exact (SubMem.refl _).cons.cons.cons.cons | exact (fun w hh => Has.sublist (by repeat (first | exact List.Sublist.refl _ | exact List.nil_sublist _ | apply List.Sublist.cons_cons | apply List.Sublist.cons)) hh)) ?_ | refine d_pure1 rfl rfl rfl (pure_load (i := 2) rfl rfl rfl rfl rfl rfl) (by first | exact SubMem.refl _ | exact (SubMem.refl _).cons | exact (SubMem.refl _).cons.cons | exact (SubMem.refl _).cons.cons.cons | exact (SubMem.refl _).cons.cons.cons.cons | exact (fun w hh => Has.sublist (by repeat (first | exact List.Sublist.refl _ | exact List.nil_sublist _ | apply List.Sublist.cons_cons | apply List.Sublist.cons)) hh)) ?_ | refine d_pure1 rfl rfl rfl (pure_load (i := 3) rfl rfl rfl rfl rfl rfl) (by first | exact SubMem.refl _ | exact (SubMem.refl _).cons | exact (SubMem.refl _).cons.cons | exact (SubMem.refl _).cons.cons.cons | exact (SubMem.refl _).cons.cons.cons.cons | exact (fun w hh => Has.sublist (by repeat (first | exact List.Sublist.refl _ | exact List.nil_sublist _ | apply List.Sublist.cons_cons | apply List.Sublist.cons)) hh)) ?_ | refine d_pure1 rfl rfl rfl (pure_load (i := 4) rfl rfl rfl rfl rfl rfl) (by first | exact SubMem.refl _ | exact (SubMem.refl _).cons | exact (SubMem.refl _).cons.cons | exact (SubMem.refl _).cons.cons.cons | exact (SubMem.refl _).cons.cons.cons.cons | exact (fun w hh => Has.sublist (by repeat (first | exact List.Sublist.refl _ | exact List.nil_sublist _ | apply List.Sublist.cons_cons | apply List.Sublist.cons)) hh)) ?_ | refine d_pure1 rfl rfl rfl (pure_load (i := 5) rfl rfl rfl rfl rfl rfl) (by first | exact SubMem.refl _ | exact (SubMem.refl _).cons | exact (SubMem.refl _).cons.cons | exact (SubMem.refl _).cons.cons.cons | exact (SubMem.refl _).cons.cons.cons.cons | exact (fun w hh => Has.sublist (by repeat (first | exact List.Sublist.refl _ | exact List.nil_sublist _ | apply List.Sublist.cons_cons | apply List.Sublist.cons)) hh)) ?_
  refine d_pure1 rfl rfl rfl (pure_cel rfl rfl rfl hb) (by first | exact SubMem.refl _ | exact (SubMem.refl _).cons | exact (SubMem.refl _).cons.cons | exact (SubMem.refl _).cons.cons.cons | exact (SubMem.refl _).cons.cons.cons.cons | exact (fun w hh => Has.sublist (by repeat (first | exact List.Sublist.refl _ | exact List.nil_sublist _ | apply List.Sublist.cons_cons | apply List.Sublist.cons)) hh)) ?_
  refine d_pure1 rfl rfl rfl (pure_cel rfl rfl rfl hc) (by first | exact SubMem.refl _ | exact (SubMem.refl _).cons | exact (SubMem.refl _).cons.cons | exact (SubMem.refl _).cons.cons.cons | exact (SubMem.refl _).cons.cons.cons.cons | exact (fun w hh => Has.sublist (by repeat (first | exact List.Sublist.refl _ | exact List.nil_sublist _ | apply List.Sublist.cons_cons | apply List.Sublist.cons)) hh)) ?_
  refine d_wm [] (scM bs bc s (v1S bc n cap) v2 tl) on.sc rfl rfl rfl fun35 rfl (List.Perm.refl _) (fun w' Z' hh kp h0 hZ hZ0 hC => hsz w' Z' hZ hh) rfl (List.Sublist.refl _) ?_
  rintro u m1 E3 g ⟨b22, rfl, rfl⟩
  replace on := on.next g
  replace hb := g.mono _ _ hb
  replace hc := g.mono _ _ hc
  replace hv2 := hv2.mono g.cz
  clear g
  refine d_pure0 rfl rfl rfl (pure_nilCheck rfl) ?_
  refine d_pure0 rfl rfl rfl (pure_fieldAddr rfl rfl rfl rfl rfl (by decide)) ?_
  refine d_store 1 rfl rfl rfl rfl rfl rfl rfl rfl rfl rfl (Nat.le_of_ble_eq_true rfl) (show _ = scC s (.slice (some ⟨b22, 0, none⟩) l1.length l1.length) v2 from rfl) rfl rfl ?_
  refine d_end (fun a w ok => ?_)
  first | (refine WPs.run ?_ a w ok; clear ok w a) | skip
  repeat refine s_seqs ?_
  refine s_reg ?_
  refine qm rfl rfl ?_
  refine step_pure rfl (pure_nilCheck rfl) ?_
  refine step_pure rfl (pure_fieldAddr rfl rfl rfl rfl rfl (by decide)) ?_
  first | refine step_pure rfl (pure_load (i := 0) rfl rfl rfl rfl rfl rfl) ?_ | refine step_pure rfl (pure_load (i := 1) rfl rfl rfl rfl rfl rfl) ?_ | refine step_pure rfl (pure_load (i := 2) rfl rfl rfl rfl rfl rfl) ?_ | refine step_pure rfl (pure_load (i := 3) rfl rfl rfl rfl rfl rfl) ?_ | refine step_pure rfl (pure_load (i := 4) rfl rfl rfl rfl rfl rfl) ?_ | refine step_pure rfl (pure_load (i := 5) rfl rfl rfl rfl rfl rfl) ?_
  refine Vc.step_end (fun a w ok => ?_)
  first | (refine WPs.run ?_ a w ok; clear ok w a) | skip
  repeat refine s_seqs ?_
  refine s_meetP (α := Value) (fun _ => [(0, .pointer (some ⟨bs, 0, none⟩)), (2, .pointer (some ⟨b, 0, none⟩)), (3, .pointer (some ⟨c, 0, none⟩))])
   (fun y => [⟨b22, ceR l1, tC⟩, ⟨bs, scC s (.slice (some ⟨b22, 0, none⟩) l1.length l1.length) y, tSc⟩, ⟨bc, ceR s.cells ++ tl, tC⟩])
   (fun y E => SlC (Cz Z E) 2 y (if s.alt = true then sizedL s.main s.W.toNat s.H.toNat N.toNat M.toNat else s.main).length (ceR (if s.alt = true then sizedL s.main s.W.toNat s.H.toNat N.toNat M.toNat else s.main))) ?_ ?_
  ·repeat refine s_seqs ?_
   refine s_cond rfl (fun ha => ?_) (fun ha => ?_)
   ·rw [if_pos ha]
    replace hszm := hszm ha
    generalize sizedL s.main s.W.toNat s.H.toNat N.toNat M.toNat = l2 at *
    repeat refine s_seqs ?_
    refine s_dreg [1, 9, 17, 25, 35, 41, 49, 57, 67, 73, 81, 89, 99, 107, 115, 124, 129, 137, 148] ([⟨b22, ceR l1, tC⟩, ⟨bs, scC s (.slice (some ⟨b22, 0, none⟩) l1.length l1.length) v2, tSc⟩, ⟨bc, ceR s.cells ++ tl, tC⟩]) follows (by kernel_rfl) ?_
    refine qd rfl rfl rfl rfl ?_
    refine qd rfl rfl rfl rfl ?_
    refine d_pure0 rfl rfl rfl (pure_nilCheck rfl) ?_
    refine d_pure0 rfl rfl rfl (pure_fieldAddr rfl rfl rfl rfl rfl (by decide)) ?_
    first | refine d_pure1 rfl rfl rfl (pure_load (i := 0) rfl rfl rfl rfl rfl rfl) (by first | exact SubMem.refl _ | exact (SubMem.refl _).cons | exact (SubMem.refl _).cons.cons | exact (SubMem.refl _).cons.cons.cons | exact (SubMem.refl _).cons.cons.cons.cons | exact (fun w hh => Has.sublist (by repeat (first | exact List.Sublist.refl _ | exact List.nil_sublist _ | apply List.Sublist.cons_cons | apply List.Sublist.cons)) hh)) ?_ | refine d_pure1 rfl rfl rfl (pure_load (i := 1) rfl rfl rfl rfl rfl rfl) (by first | exact SubMem.refl _ | exact (SubMem.refl _).cons | exact (SubMem.refl _).cons.cons | exact (SubMem.refl _).cons.cons.cons | exact (SubMem.refl _).cons.cons.cons.cons | exact (fun w hh => Has.sublist (by repeat (first | exact List.Sublist.refl _ | exact List.nil_sublist _ | apply List.Sublist.cons_cons | apply List.Sublist.cons)) hh)) ?_ | refine d_pure1 rfl rfl rfl (pure_load (i := 2) rfl rfl rfl rfl rfl rfl) (by first | exact SubMem.refl _ | exact (SubMem.refl _).cons | exact (SubMem.refl _).cons.cons | exact (SubMem.refl _).cons.cons.cons | exact (SubMem.refl _).cons.cons.cons.cons | exact (fun w hh => Has.sublist (by repeat (first | exact List.Sublist.refl _ | exact List.nil_sublist _ | apply List.Sublist.cons_cons | apply List.Sublist.cons)) hh)) ?_ | refine d_pure1 rfl rfl rfl (pure_load (i := 3) rfl rfl rfl rfl rfl rfl) (by first | exact SubMem.refl _ | exact (SubMem.refl _).cons | exact (SubMem.refl _).cons.cons | exact (SubMem.refl _).cons.cons.cons | exact (SubMem.refl _).cons.cons.cons.cons | exact (fun w hh => Has.sublist (by repeat (first | exact List.Sublist.refl _ | exact List.nil_sublist _ | apply List.Sublist.cons_cons | apply List.Sublist.cons)) hh)) ?_ | refine d_pure1 rfl rfl rfl (pure_load (i := 4) rfl rfl rfl rfl rfl rfl) (by first | exact SubMem.refl _ | exact (SubMem.refl _).cons | exact (SubMem.refl _).cons.cons | exact (SubMem.refl _).cons.cons.cons | exact (SubMem.refl _).cons.cons.cons.cons | exact (fun w hh => Has.sublist (by repeat (first | exact List.Sublist.refl _ | exact List.nil_sublist _ | apply List.Sublist.cons_cons | apply List.Sublist.cons)) hh)) ?_ | refine d_pure1 rfl rfl rfl (pure_load (i := 5) rfl rfl rfl rfl rfl rfl) (by first | exact SubMem.refl _ | exact (SubMem.refl _).cons | exact (SubMem.refl _).cons.cons | exact (SubMem.refl _).cons.cons.cons | exact (SubMem.refl _).cons.cons.cons.cons | exact (fun w hh => Has.sublist (by repeat (first | exact List.Sublist.refl _ | exact List.nil_sublist _ | apply List.Sublist.cons_cons | apply List.Sublist.cons)) hh)) ?_
    refine qd rfl rfl rfl rfl ?_
    refine d_pure0 rfl rfl rfl (pure_nilCheck rfl) ?_
    refine d_pure0 rfl rfl rfl (pure_fieldAddr rfl rfl rfl rfl rfl (by decide)) ?_
    first | refine d_pure1 rfl rfl rfl (pure_load (i := 0) rfl rfl rfl rfl rfl rfl) (by first | exact SubMem.refl _ | exact (SubMem.refl _).cons | exact (SubMem.refl _).cons.cons | exact (SubMem.refl _).cons.cons.cons | exact (SubMem.refl _).cons.cons.cons.cons | exact (fun w hh => Has.sublist (by repeat (first | exact List.Sublist.refl _ | exact List.nil_sublist _ | apply List.Sublist.cons_cons | apply List.Sublist.cons)) hh)) ?_ | refine d_pure1 rfl rfl rfl (pure_load (i := 1) rfl rfl rfl rfl rfl rfl) (by first | exact SubMem.refl _ | exact (SubMem.refl _).cons | exact (SubMem.refl _).cons.cons | exact (SubMem.refl _).cons.cons.cons | exact (SubMem.refl _).cons.cons.cons.cons | exact (fun w hh => Has.sublist (by repeat (first | exact List.Sublist.refl _ | exact List.nil_sublist _ | apply List.Sublist.cons_cons | apply List.Sublist.cons)) hh)) ?_ | refine d_pure1 rfl rfl rfl (pure_load (i := 2) rfl rfl rfl rfl rfl rfl) (by first | exact SubMem.refl _ | exact (SubMem.refl _).cons | exact (SubMem.refl _).cons.cons | exact (SubMem.refl _).cons.cons.cons | exact (SubMem.refl _).cons.cons.cons.cons | exact (fun w hh => Has.sublist (by repeat (first | exact List.Sublist.refl _ | exact List.nil_sublist _ | apply List.Sublist.cons_cons | apply List.Sublist.cons)) hh)) ?_ | refine d_pure1 rfl rfl rfl (pure_load (i := 3) rfl rfl rfl rfl rfl rfl) (by first | exact SubMem.refl _ | exact (SubMem.refl _).cons | exact (SubMem.refl _).cons.cons | exact (SubMem.refl _).cons.cons.cons | exact (SubMem.refl _).cons.cons.cons.cons | exact (fun w hh => Has.sublist (by repeat (first | exact List.Sublist.refl _ | exact List.nil_sublist _ | apply List.Sublist.cons_cons | apply List.Sublist.cons)) hh)) ?_ | refine d_pure1 rfl rfl rfl (pure_load (i := 4) rfl rfl rfl rfl rfl rfl) (by first | exact SubMem.refl _ | exact (SubMem.refl _).cons | exact (SubMem.refl _).cons.cons | exact (SubMem.refl _).cons.cons.cons | exact (SubMem.refl _).cons.cons.cons.cons | exact (fun w hh => Has.sublist (by repeat (first | exact List.Sublist.refl _ | exact List.nil_sublist _ | apply List.Sublist.cons_cons | apply List.Sublist.cons)) hh)) ?_ | refine d_pure1 rfl rfl rfl (pure_load (i := 5) rfl rfl rfl rfl rfl rfl) (by first | exact SubMem.refl _ | exact (SubMem.refl _).cons | exact (SubMem.refl _).cons.cons | exact (SubMem.refl _).cons.cons.cons | exact (SubMem.refl _).cons.cons.cons.cons | exact (fun w hh => Has.sublist (by repeat (first | exact List.Sublist.refl _ | exact List.nil_sublist _ | apply List.Sublist.cons_cons | apply List.Sublist.cons)) hh)) ?_
    refine qd rfl rfl rfl rfl ?_
    refine d_pure0 rfl rfl rfl (pure_nilCheck rfl) ?_
    refine d_pure0 rfl rfl rfl (pure_fieldAddr rfl rfl rfl rfl rfl (by decide)) ?_
    first | refine d_pure1 rfl rfl rfl (pure_load (i := 0) rfl rfl rfl rfl rfl rfl) (by first | exact SubMem.refl _ | exact (SubMem.refl _).cons | exact (SubMem.refl _).cons.cons | exact (SubMem.refl _).cons.cons.cons | exact (SubMem.refl _).cons.cons.cons.cons | exact (fun w hh => Has.sublist (by repeat (first | exact List.Sublist.refl _ | exact List.nil_sublist _ | apply List.Sublist.cons_cons | apply List.Sublist.cons)) hh)) ?_ | refine d_pure1 rfl rfl rfl (pure_load (i := 1) rfl rfl rfl rfl rfl rfl) (by first | exact SubMem.refl _ | exact (SubMem.refl _).cons | exact (SubMem.refl _).cons.cons | exact (SubMem.refl _).cons.cons.cons | exact (SubMem.refl _).cons.cons.cons.cons | exact (fun w hh => Has.sublist (by repeat (first | exact List.Sublist.refl _ | exact List.nil_sublist _ | apply List.Sublist.cons_cons | apply List.Sublist.cons)) hh)) ?_ | refine d_pure1 rfl rfl rfl (pure_load (i := 2) rfl rfl rfl rfl rfl rfl) (by first | exact SubMem.refl _ | exact (SubMem.refl _).cons | exact (SubMem.refl _).cons.cons | exact (SubMem.refl _).cons.cons.cons | exact (SubMem.refl _).cons.cons.cons.cons | exact (fun w hh => Has.sublist (by repeat (first | exact List.Sublist.refl _ | exact List.nil_sublist _ | apply List.Sublist.cons_cons | apply List.Sublist.cons)) hh)) ?_ | refine d_pure1 rfl rfl rfl (pure_load (i := 3) rfl rfl rfl rfl rfl rfl) (by first | exact SubMem.refl _ | exact (SubMem.refl _).cons | exact (SubMem.refl _).cons.cons | exact (SubMem.refl _).cons.cons.cons | exact (SubMem.refl _).cons.cons.cons.cons | exact (fun w hh => Has.sublist (by repeat (first | exact List.Sublist.refl _ | exact List.nil_sublist _ | apply List.Sublist.cons_cons | apply List.Sublist.cons)) hh)) ?_ | refine d_pure1 rfl rfl rfl (pure_load (i := 4) rfl rfl rfl rfl rfl rfl) (by first | exact SubMem.refl _ | exact (SubMem.refl _).cons | exact (SubMem.refl _).cons.cons | exact (SubMem.refl _).cons.cons.cons | exact (SubMem.refl _).cons.cons.cons.cons | exact (fun w hh => Has.sublist (by repeat (first | exact List.Sublist.refl _ | exact List.nil_sublist _ | apply List.Sublist.cons_cons | apply List.Sublist.cons)) hh)) ?_ | refine d_pure1 rfl rfl rfl (pure_load (i := 5) rfl rfl rfl rfl rfl rfl) (by first | exact SubMem.refl _ | exact (SubMem.refl _).cons | exact (SubMem.refl _).cons.cons | exact (SubMem.refl _).cons.cons.cons | exact (SubMem.refl _).cons.cons.cons.cons | exact (fun w hh => Has.sublist (by repeat (first | exact List.Sublist.refl _ | exact List.nil_sublist _ | apply List.Sublist.cons_cons | apply List.Sublist.cons)) hh)) ?_
    refine d_pure1 rfl rfl rfl (pure_cel rfl rfl rfl hb) (by first | exact SubMem.refl _ | exact (SubMem.refl _).cons | exact (SubMem.refl _).cons.cons | exact (SubMem.refl _).cons.cons.cons | exact (SubMem.refl _).cons.cons.cons.cons | exact (fun w hh => Has.sublist (by repeat (first | exact List.Sublist.refl _ | exact List.nil_sublist _ | apply List.Sublist.cons_cons | apply List.Sublist.cons)) hh)) ?_
    refine d_pure1 rfl rfl rfl (pure_cel rfl rfl rfl hc) (by first | exact SubMem.refl _ | exact (SubMem.refl _).cons | exact (SubMem.refl _).cons.cons | exact (SubMem.refl _).cons.cons.cons | exact (SubMem.refl _).cons.cons.cons.cons | exact (fun w hh => Has.sublist (by repeat (first | exact List.Sublist.refl _ | exact List.nil_sublist _ | apply List.Sublist.cons_cons | apply List.Sublist.cons)) hh)) ?_
    refine d_wm [] [⟨b22, ceR l1, tC⟩, ⟨bs, scC s (.slice (some ⟨b22, 0, none⟩) l1.length l1.length) v2, tSc⟩, ⟨bc, ceR s.cells ++ tl, tC⟩] on.sc rfl rfl rfl fun35 rfl (List.Perm.refl _) (fun w' Z' hh kp h0 hZ hZ0 hC => hszm w' Z' hZ (hv2.mono (Cz.now kp))) rfl (List.Sublist.refl _) ?_
    rintro u m1 E3 g ⟨b44, rfl, rfl⟩
    replace on := on.next g
    have g5 := g
    clear g
    refine d_pure0 rfl rfl rfl (pure_nilCheck rfl) ?_
    refine d_pure0 rfl rfl rfl (pure_fieldAddr rfl rfl rfl rfl rfl (by decide)) ?_
    refine d_store 2 rfl rfl rfl rfl rfl rfl rfl rfl rfl rfl (Nat.le_of_ble_eq_true rfl) (show _ = scC s (.slice (some ⟨b22, 0, none⟩) l1.length l1.length) (.slice (some ⟨b44, 0, none⟩) l2.length l2.length) from rfl) rfl rfl ?_
    refine d_end (fun a w ok => ?_)
    obtain ⟨E4, g, hcc, ok⟩ := ok_let (m := [⟨b22, ceR l1, tC⟩, ⟨bs, scC s (.slice (some ⟨b22, 0, none⟩) l1.length l1.length) (.slice (some ⟨b44, 0, none⟩) l2.length l2.length), tSc⟩, ⟨bc, ceR s.cells ++ tl, tC⟩]) [⟨b44, ceR l2, tC⟩] (List.Perm.refl _) ok
    refine ⟨.slice (some ⟨b44, 0, none⟩) l2.length l2.length, E4, slis_cz (sl_built uC tC b44 (ceR l2) l2.length (ceR_len l2)) (hcc _ on.sc _ (.head _)), g5.trans g, Less.ok ?_ ok⟩
    exact less_of ⟨rfl, rfl, rfl, trivial⟩ rfl
   ·have ha' : ¬ s.alt = true := by rw [ha]; decide
    rw [if_neg ha']
    refine s_skip fun a w ok => ?_
    refine ⟨v2, _, hv2, Gt.refl _, Less.ok ?_ ok⟩
    exact less_of ⟨rfl, rfl, rfl, trivial⟩ rfl
  intro y E5 hy g a w ok
  refine WPs.run ?_ a w ok
  clear ok w a hszm hsz hv2
  replace on := on.next g
  replace hb := g.mono _ _ hb
  replace hc := g.mono _ _ hc
  clear g
  generalize (if s.alt = true then sizedL s.main s.W.toNat s.H.toNat N.toNat M.toNat else s.main) = l2 at *
  repeat refine s_seqs ?_
  refine s_dreg [1, 9, 17, 25, 33, 41, 49, 57, 65, 73, 81, 89, 99, 105, 113, 121, 129, 137, 145, 155, 161, 169, 177, 185, 193, 201, 209, 220, 225, 233, 244, 249, 257, 268, 273, 281, 292, 297, 305, 316, 321, 329, 340, 345, 353, 364] ([⟨b22, ceR l1, tC⟩, ⟨bs, scC s (.slice (some ⟨b22, 0, none⟩) l1.length l1.length) y, tSc⟩, ⟨bc, ceR s.cells ++ tl, tC⟩]) follows (by kernel_rfl) ?_
  refine qd rfl rfl rfl rfl ?_
  refine qd rfl rfl rfl rfl ?_
  refine qd rfl rfl rfl rfl ?_
  refine qd rfl rfl rfl rfl ?_
  refine qd rfl rfl rfl rfl ?_
  refine qd rfl rfl rfl rfl ?_
  refine qd rfl rfl rfl rfl ?_
  refine d_pure0 rfl rfl rfl (pure_cel rfl rfl rfl hb) ?_
  refine d_pure0 rfl rfl rfl (pure_cel rfl rfl rfl hc) ?_
  refine qd rfl rfl rfl rfl ?_
  refine d_pure0 rfl rfl rfl (pure_nilCheck rfl) ?_
  refine d_pure0 rfl rfl rfl (pure_fieldAddr rfl rfl rfl rfl rfl (by decide)) ?_
  first | refine d_pure1 rfl rfl rfl (pure_load (i := 0) rfl rfl rfl rfl rfl rfl) (by first | exact SubMem.refl _ | exact (SubMem.refl _).cons | exact (SubMem.refl _).cons.cons | exact (SubMem.refl _).cons.cons.cons | exact (SubMem.refl _).cons.cons.cons.cons | exact (fun w hh => Has.sublist (by repeat (first | exact List.Sublist.refl _ | exact List.nil_sublist _ | apply List.Sublist.cons_cons | apply List.Sublist.cons)) hh)) ?_ | refine d_pure1 rfl rfl rfl (pure_load (i := 1) rfl rfl rfl rfl rfl rfl) (by first | exact SubMem.refl _ | exact (SubMem.refl _).cons | exact (SubMem.refl _).cons.cons | exact (SubMem.refl _).cons.cons.cons | exact (SubMem.refl _).cons.cons.cons.cons | exact (fun w hh => Has.sublist (by repeat (first | exact List.Sublist.refl _ | exact List.nil_sublist _ | apply List.Sublist.cons_cons | apply List.Sublist.cons)) hh)) ?_ | refine d_pure1 rfl rfl rfl (pure_load (i := 2) rfl rfl rfl rfl rfl rfl) (by first | exact SubMem.refl _ | exact (SubMem.refl _).cons | exact (SubMem.refl _).cons.cons | exact (SubMem.refl _).cons.cons.cons | exact (SubMem.refl _).cons.cons.cons.cons | exact (fun w hh => Has.sublist (by repeat (first | exact List.Sublist.refl _ | exact List.nil_sublist _ | apply List.Sublist.cons_cons | apply List.Sublist.cons)) hh)) ?_ | refine d_pure1 rfl rfl rfl (pure_load (i := 3) rfl rfl rfl rfl rfl rfl) (by first | exact SubMem.refl _ | exact (SubMem.refl _).cons | exact (SubMem.refl _).cons.cons | exact (SubMem.refl _).cons.cons.cons | exact (SubMem.refl _).cons.cons.cons.cons | exact (fun w hh => Has.sublist (by repeat (first | exact List.Sublist.refl _ | exact List.nil_sublist _ | apply List.Sublist.cons_cons | apply List.Sublist.cons)) hh)) ?_ | refine d_pure1 rfl rfl rfl (pure_load (i := 4) rfl rfl rfl rfl rfl rfl) (by first | exact SubMem.refl _ | exact (SubMem.refl _).cons | exact (SubMem.refl _).cons.cons | exact (SubMem.refl _).cons.cons.cons | exact (SubMem.refl _).cons.cons.cons.cons | exact (fun w hh => Has.sublist (by repeat (first | exact List.Sublist.refl _ | exact List.nil_sublist _ | apply List.Sublist.cons_cons | apply List.Sublist.cons)) hh)) ?_ | refine d_pure1 rfl rfl rfl (pure_load (i := 5) rfl rfl rfl rfl rfl rfl) (by first | exact SubMem.refl _ | exact (SubMem.refl _).cons | exact (SubMem.refl _).cons.cons | exact (SubMem.refl _).cons.cons.cons | exact (SubMem.refl _).cons.cons.cons.cons | exact (fun w hh => Has.sublist (by repeat (first | exact List.Sublist.refl _ | exact List.nil_sublist _ | apply List.Sublist.cons_cons | apply List.Sublist.cons)) hh)) ?_
  refine d_pure0 rfl rfl rfl (pure_cel rfl rfl rfl hb) ?_
  first | refine d_pure0 rfl rfl rfl (pure_sub64 rfl rfl (by omega) (by omega)) ?_ | refine d_pure0 rfl rfl rfl (pure_sub rfl rfl) ?_
  refine d_pure0 rfl rfl rfl (pure_min rfl rfl) ?_
  refine qd rfl rfl rfl rfl ?_
  refine d_pure0 rfl rfl rfl (pure_nilCheck rfl) ?_
  refine d_pure0 rfl rfl rfl (pure_fieldAddr rfl rfl rfl rfl rfl (by decide)) ?_
  first | refine d_pure1 rfl rfl rfl (pure_load (i := 0) rfl rfl rfl rfl rfl rfl) (by first | exact SubMem.refl _ | exact (SubMem.refl _).cons | exact (SubMem.refl _).cons.cons | exact (SubMem.refl _).cons.cons.cons | exact (SubMem.refl _).cons.cons.cons.cons | exact (fun w hh => Has.sublist (by repeat (first | exact List.Sublist.refl _ | exact List.nil_sublist _ | apply List.Sublist.cons_cons | apply List.Sublist.cons)) hh)) ?_ | refine d_pure1 rfl rfl rfl (pure_load (i := 1) rfl rfl rfl rfl rfl rfl) (by first | exact SubMem.refl _ | exact (SubMem.refl _).cons | exact (SubMem.refl _).cons.cons | exact (SubMem.refl _).cons.cons.cons | exact (SubMem.refl _).cons.cons.cons.cons | exact (fun w hh => Has.sublist (by repeat (first | exact List.Sublist.refl _ | exact List.nil_sublist _ | apply List.Sublist.cons_cons | apply List.Sublist.cons)) hh)) ?_ | refine d_pure1 rfl rfl rfl (pure_load (i := 2) rfl rfl rfl rfl rfl rfl) (by first | exact SubMem.refl _ | exact (SubMem.refl _).cons | exact (SubMem.refl _).cons.cons | exact (SubMem.refl _).cons.cons.cons | exact (SubMem.refl _).cons.cons.cons.cons | exact (fun w hh => Has.sublist (by repeat (first | exact List.Sublist.refl _ | exact List.nil_sublist _ | apply List.Sublist.cons_cons | apply List.Sublist.cons)) hh)) ?_ | refine d_pure1 rfl rfl rfl (pure_load (i := 3) rfl rfl rfl rfl rfl rfl) (by first | exact SubMem.refl _ | exact (SubMem.refl _).cons | exact (SubMem.refl _).cons.cons | exact (SubMem.refl _).cons.cons.cons | exact (SubMem.refl _).cons.cons.cons.cons | exact (fun w hh => Has.sublist (by repeat (first | exact List.Sublist.refl _ | exact List.nil_sublist _ | apply List.Sublist.cons_cons | apply List.Sublist.cons)) hh)) ?_ | refine d_pure1 rfl rfl rfl (pure_load (i := 4) rfl rfl rfl rfl rfl rfl) (by first | exact SubMem.refl _ | exact (SubMem.refl _).cons | exact (SubMem.refl _).cons.cons | exact (SubMem.refl _).cons.cons.cons | exact (SubMem.refl _).cons.cons.cons.cons | exact (fun w hh => Has.sublist (by repeat (first | exact List.Sublist.refl _ | exact List.nil_sublist _ | apply List.Sublist.cons_cons | apply List.Sublist.cons)) hh)) ?_ | refine d_pure1 rfl rfl rfl (pure_load (i := 5) rfl rfl rfl rfl rfl rfl) (by first | exact SubMem.refl _ | exact (SubMem.refl _).cons | exact (SubMem.refl _).cons.cons | exact (SubMem.refl _).cons.cons.cons | exact (SubMem.refl _).cons.cons.cons.cons | exact (fun w hh => Has.sublist (by repeat (first | exact List.Sublist.refl _ | exact List.nil_sublist _ | apply List.Sublist.cons_cons | apply List.Sublist.cons)) hh)) ?_
  refine d_pure0 rfl rfl rfl (pure_cel rfl rfl rfl hc) ?_
  first | refine d_pure0 rfl rfl rfl (pure_sub64 rfl rfl (by omega) (by omega)) ?_ | refine d_pure0 rfl rfl rfl (pure_sub rfl rfl) ?_
  refine d_pure0 rfl rfl rfl (pure_min rfl rfl) ?_
  refine d_pure0 rfl rfl rfl (pure_cel rfl rfl rfl hc) ?_
  first | refine d_pure0 rfl rfl rfl (pure_sub64 rfl rfl (by omega) (by omega)) ?_ | refine d_pure0 rfl rfl rfl (pure_sub rfl rfl) ?_
  refine d_pure0 rfl rfl rfl (pure_nilCheck rfl) ?_
  refine d_pure0 rfl rfl rfl (pure_fieldAddr rfl rfl rfl rfl rfl (by decide)) ?_
  refine d_store 1 rfl rfl rfl rfl rfl rfl rfl rfl rfl rfl (Nat.le_of_ble_eq_true rfl) (show _ = scC { s with W := N } (.slice (some ⟨b22, 0, none⟩) l1.length l1.length) y from rfl) rfl rfl ?_
  refine d_pure0 rfl rfl rfl (pure_nilCheck rfl) ?_
  refine d_pure0 rfl rfl rfl (pure_fieldAddr rfl rfl rfl rfl rfl (by decide)) ?_
  refine d_store 1 rfl rfl rfl rfl rfl rfl rfl rfl rfl rfl (Nat.le_of_ble_eq_true rfl) (show _ = scC { s with W := N, H := M } (.slice (some ⟨b22, 0, none⟩) l1.length l1.length) y from rfl) rfl rfl ?_
  refine d_pure0 rfl rfl rfl (pure_nilCheck rfl) ?_
  refine d_pure0 rfl rfl rfl (pure_fieldAddr rfl rfl rfl rfl rfl (by decide)) ?_
  refine d_store 1 rfl rfl rfl rfl rfl rfl rfl rfl rfl rfl (Nat.le_of_ble_eq_true rfl) (show _ = scC { s with W := N, H := M, X := min s.X (N - 1) } (.slice (some ⟨b22, 0, none⟩) l1.length l1.length) y from rfl) rfl rfl ?_
  refine d_pure0 rfl rfl rfl (pure_nilCheck rfl) ?_
  refine d_pure0 rfl rfl rfl (pure_fieldAddr rfl rfl rfl rfl rfl (by decide)) ?_
  refine d_store 1 rfl rfl rfl rfl rfl rfl rfl rfl rfl rfl (Nat.le_of_ble_eq_true rfl) (show _ = scC { s with W := N, H := M, X := min s.X (N - 1), Y := min s.Y (M - 1) } (.slice (some ⟨b22, 0, none⟩) l1.length l1.length) y from rfl) rfl rfl ?_
  refine d_pure0 rfl rfl rfl (pure_nilCheck rfl) ?_
  refine d_pure0 rfl rfl rfl (pure_fieldAddr rfl rfl rfl rfl rfl (by decide)) ?_
  refine d_store 1 rfl rfl rfl rfl rfl rfl rfl rfl rfl rfl (Nat.le_of_ble_eq_true rfl) (show _ = scC { s with W := N, H := M, X := min s.X (N - 1), Y := min s.Y (M - 1), top := 0 } (.slice (some ⟨b22, 0, none⟩) l1.length l1.length) y from rfl) rfl rfl ?_
  refine d_pure0 rfl rfl rfl (pure_nilCheck rfl) ?_
  refine d_pure0 rfl rfl rfl (pure_fieldAddr rfl rfl rfl rfl rfl (by decide)) ?_
  refine d_store 1 rfl rfl rfl rfl rfl rfl rfl rfl rfl rfl (Nat.le_of_ble_eq_true rfl) (show _ = scC { s with W := N, H := M, X := min s.X (N - 1), Y := min s.Y (M - 1), top := 0, bot := M - 1 } (.slice (some ⟨b22, 0, none⟩) l1.length l1.length) y from rfl) rfl rfl ?_
  refine d_pure0 rfl rfl rfl (pure_nilCheck rfl) ?_
  refine d_pure0 rfl rfl rfl (pure_fieldAddr rfl rfl rfl rfl rfl (by decide)) ?_
  refine d_store 1 rfl rfl rfl rfl rfl rfl rfl rfl rfl rfl (Nat.le_of_ble_eq_true rfl) (show _ = scC { s with W := N, H := M, X := min s.X (N - 1), Y := min s.Y (M - 1), top := 0, bot := M - 1, wrap := false } (.slice (some ⟨b22, 0, none⟩) l1.length l1.length) y from rfl) rfl rfl ?_
  refine d_end (fun a w ok => ?_)
  exact ends_wm on (.inl rfl) ok (res_none rfl) (m1 := [_, ⟨b22, ceR l1, tC⟩]) (mr := [_]) (List.Perm.swap ..) doR_mono ⟨rfl, some ⟨b22, 0, none⟩, l1.length, y, ⟨b22, ceR l1, tC⟩, rfl, sl_built uC tC b22 (ceR l1) l1.length (ceR_len l1), hy⟩
end Go.Proofs.Ytbcpgdjhomoghaa
