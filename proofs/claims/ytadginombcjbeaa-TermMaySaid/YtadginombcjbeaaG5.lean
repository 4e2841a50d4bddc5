/- Rows, scroll, down, up: walked. -/
import Derived.Test.YtadginombcjbeaaG4
namespace Go.Proofs.Ytadginombcjbeaa
open Go.RowKit Go.Vc
set_option linter.unusedVariables false
abbrev tSc : TypeId := 32
abbrev scM (bs bc : Nat) (s : Scr) (v1 v2 : Value) (tl : List Value) : Mem := [⟨bs, scC s v1 v2, tSc⟩, ⟨bc, ceR s.cells ++ tl, tC⟩]
def SrR (bs bc : Nat) (v1 v2 : Value) (tl : List Value) (s : Scr) (u : Value) (m1 : Mem) (C : Addr → Value → Prop) : Prop := u = .tuple #[] ∧ m1 = scM bs bc s v1 v2 tl
theorem srR_mono {bs bc : Nat} {v1 v2 : Value} {tl : List Value} {s : Scr} : ∀ v m1 (C C' : Addr → Value → Prop), (∀ p x, C p x → C' p x) → SrR bs bc v1 v2 tl s v m1 C → SrR bs bc v1 v2 tl s v m1 C' := fun _ _ _ _ _ h => h
theorem sc_has {w : World} {m : Mem} {bs j t : Nat} {s : Scr} {v1 v2 : Value} (hh : Has w m) (he : nth m j = some ⟨bs, scC s v1 v2, t⟩) : ∀ j x, (scC s v1 v2)[j]? = some x → At w ⟨bs, j, none⟩ x :=
 fun j x hx => cell_of (hh.cell (nth_mem he) (by intro h; cases h)) hx
theorem mulN (a W : Nat) : (a : Int) * (W : Int) = ((a * W : Nat) : Int) := (Int.natCast_mul ..).symm
theorem rows_any (s : Scr) (v2 : Value) (bs bc n cap a b W : Nat) (w : World) (hc : ∀ j x, (scC s (.slice (some ⟨bc, 0, none⟩) n cap) v2)[j]? = some x → At w ⟨bs, j, none⟩ x) (hW : s.W = W) (hab : a ≤ b) (hb : b < 64) (hW64 : W ≤ 64)
  (hin : (b + 1) * W ≤ n) (hn : n ≤ cap) : Gives tb 88 [.pointer (some ⟨bs, 0, none⟩), .int .i64 a, .int .i64 b] w (subS (some ⟨bc, 0, none⟩) ((b + 1) * W) 2 (a * W) ((b + 1) * W)) := by
 replace hc : ∀ j x, (scC s (.slice (some ⟨bc, 0, none⟩) n cap) v2)[j]? = some x → Cel ⟨w, [], []⟩ ⟨bs, j, none⟩ x := fun j x h => ⟨hc j x h, by simp⟩
 have h1 : a * W ≤ (b + 1) * W := Nat.mul_le_mul_right _ (by omega)
 have h2 : (b + 1) * W ≤ 64 * 64 := Nat.mul_le_mul (by omega) hW64
 have hd2 := hc 2 _ rfl
 have hd0 := hc 0 _ rfl
 rw [hW] at hd0
 have ea : (a : Int) * (W : Int) = ((a * W : Nat) : Int) := mulN ..
 have eb : ((b : Int) + 1) * (W : Int) = (((b + 1) * W : Nat) : Int) := mulN (b + 1) W
 clear hc
 generalize a * W = x at *
 generalize (b + 1) * W = y at *
 have ea' : IntKind.i64.wrap ((a : Int) * (W : Int)) = x := by rw [ea]; exact wrap_i64 (by omega) (by omega)
 have eb' : IntKind.i64.wrap (((b : Int) + 1) * (W : Int)) = y := by rw [eb]; exact wrap_i64 (by omega) (by omega)
 refine gives_of (fn := Try.f88) Try.func88 rfl Try.ntmps88 rfl ?_
 repeat refine c_seq ?_
 refine c_region ?_
 refine qa rfl rfl ?_
 refine step_nil ?_
 repeat refine c_seq ?_
 refine d_region [1, 9, 17, 27, 33, 41, 49, 57, 67, 73, 81, 89, 97, 105, 113, 123, 129, 137, 145, 153, 161, 169, 179, 185, 193, 201] follows (by kernel_rfl) ?_
 refine qd rfl rfl rfl rfl ?_
 refine d_pure0 rfl rfl rfl (pure_nilCheck rfl) ?_
 refine d_pure0 rfl rfl rfl (pure_fieldAddr rfl rfl rfl rfl rfl (by decide)) ?_
 refine d_pure1 rfl rfl rfl (pure_cel rfl rfl rfl hd2) (by first | exact SubMem.refl _ | exact (SubMem.refl _).cons | exact (SubMem.refl _).cons.cons | exact (SubMem.refl _).cons.cons.cons | exact (SubMem.refl _).cons.cons.cons.cons | exact (fun w hh => Has.sublist (by repeat (first | exact List.Sublist.refl _ | exact List.nil_sublist _ | apply List.Sublist.cons_cons | apply List.Sublist.cons)) hh)) ?_
 refine qd rfl rfl rfl rfl ?_
 refine qd rfl rfl rfl rfl ?_
 refine d_pure0 rfl rfl rfl (pure_nilCheck rfl) ?_
 refine d_pure0 rfl rfl rfl (pure_fieldAddr rfl rfl rfl rfl rfl (by decide)) ?_
 refine d_pure1 rfl rfl rfl (pure_cel rfl rfl rfl hd0) (by first | exact SubMem.refl _ | exact (SubMem.refl _).cons | exact (SubMem.refl _).cons.cons | exact (SubMem.refl _).cons.cons.cons | exact (SubMem.refl _).cons.cons.cons.cons | exact (fun w hh => Has.sublist (by repeat (first | exact List.Sublist.refl _ | exact List.nil_sublist _ | apply List.Sublist.cons_cons | apply List.Sublist.cons)) hh)) ?_
 refine d_as0 rfl rfl rfl (pure_mul rfl rfl) (congrArg (Value.int .i64) ea') ?_
 refine qd rfl rfl rfl rfl ?_
 first | refine d_pure0 rfl rfl rfl (pure_add64 rfl rfl (by omega) (by omega)) ?_ | refine d_pure0 rfl rfl rfl (pure_add rfl rfl) ?_
 refine qd rfl rfl rfl rfl ?_
 refine d_pure0 rfl rfl rfl (pure_nilCheck rfl) ?_
 refine d_pure0 rfl rfl rfl (pure_fieldAddr rfl rfl rfl rfl rfl (by decide)) ?_
 refine d_pure1 rfl rfl rfl (pure_cel rfl rfl rfl hd0) (by first | exact SubMem.refl _ | exact (SubMem.refl _).cons | exact (SubMem.refl _).cons.cons | exact (SubMem.refl _).cons.cons.cons | exact (SubMem.refl _).cons.cons.cons.cons | exact (fun w hh => Has.sublist (by repeat (first | exact List.Sublist.refl _ | exact List.nil_sublist _ | apply List.Sublist.cons_cons | apply List.Sublist.cons)) hh)) ?_
 refine d_as0 rfl rfl rfl (pure_mul rfl rfl) (congrArg (Value.int .i64) eb') ?_
 refine qd rfl rfl rfl rfl ?_
 first | refine d_pure0 rfl rfl rfl (pure_add64 rfl rfl (by omega) (by omega)) ?_ | refine d_pure0 rfl rfl rfl (pure_add rfl rfl) ?_
 refine qd rfl rfl rfl rfl ?_
 refine d_pure0 rfl rfl rfl (pure_nilCheck rfl) ?_
 refine d_pure0 rfl rfl rfl (pure_fieldAddr rfl rfl rfl rfl rfl (by decide)) ?_
 refine d_pure1 rfl rfl rfl (pure_cel rfl rfl rfl hd0) (by first | exact SubMem.refl _ | exact (SubMem.refl _).cons | exact (SubMem.refl _).cons.cons | exact (SubMem.refl _).cons.cons.cons | exact (SubMem.refl _).cons.cons.cons.cons | exact (fun w hh => Has.sublist (by repeat (first | exact List.Sublist.refl _ | exact List.nil_sublist _ | apply List.Sublist.cons_cons | apply List.Sublist.cons)) hh)) ?_
 refine d_as0 rfl rfl rfl (pure_mul rfl rfl) (congrArg (Value.int .i64) eb') ?_
 refine d_pure0 rfl rfl rfl (pure_sub3 rfl rfl rfl rfl rfl rfl rfl (by omega) (by omega) (by omega) (by omega)) ?_
 refine d_pure0 rfl rfl rfl (pure_assign rfl) ?_
 refine d_nil ?_
 exact c_ret ⟨_, res_tmp Try.results88 rfl, rfl⟩
theorem mulIn {x y : Int} (h1 : 0 ≤ x ∧ x ≤ 64) (h2 : -64 ≤ y ∧ y ≤ 64) : -4096 ≤ x * y ∧ x * y ≤ 4096 := by
 have h3 : x * y ≤ x * 64 := Int.mul_le_mul_of_nonneg_left h2.2 h1.1
 have h4 : x * -64 ≤ x * y := Int.mul_le_mul_of_nonneg_left h2.1 h1.1
 omega
set_option maxHeartbeats 1000000 in
theorem scroll_W (s : Scr) (v2 : Value) (tl : List Value) (bs bc n cap : Nat) (a b N : Int) (w : World) {Z : Nat → Prop} (ok : ScOk s) (hab : 0 ≤ a ∧ a ≤ b ∧ b < s.H)
  (hm : Has w (scM bs bc s (.slice (some ⟨bc, 0, none⟩) n cap) v2 tl)) (hZ : ∀ j, w.heap.size ≤ j → Z j) (hZ0 : ∀ j ∈ blks (scM bs bc s (.slice (some ⟨bc, 0, none⟩) n cap) v2 tl), Z j) (hn : s.cells.length = n) (hcap : n ≤ cap) :
  Wm tb 74 [.pointer (some ⟨bs, 0, none⟩), .int .i64 a, .int .i64 b, .int .i64 N] w Z (scM bs bc s (.slice (some ⟨bc, 0, none⟩) n cap) v2 tl) (SrR bs bc (.slice (some ⟨bc, 0, none⟩) n cap) v2 tl (scrollF s a b N)) := by
 obtain ⟨W, q, hw, hq, hw1, hw2, hq1, hq2, hl, hle⟩ := wh_nat ok
 obtain ⟨a, rfl⟩ : ∃ k : Nat, a = k := ⟨a.toNat, by omega⟩
 obtain ⟨b, rfl⟩ : ∃ k : Nat, b = k := ⟨b.toNat, by omega⟩
 have hmx : 4096 ≤ maxLen := by decide
 have hin := rows_in (w := W) (q := q) (a := a) (b := b) (by omega) (by omega)
 have hin2 : (b + 1) * W ≤ W * q := by rw [← Nat.add_mul, show a + (b + 1 - a) = b + 1 by omega] at hin; exact hin
 obtain ⟨off, he, ho1, ho2⟩ := subS_at bc 0 ((b + 1) * W) (a * W) ((b + 1) * W) (Nat.le_refl _)
 have hrows := fun w' hc => rows_any s v2 bs bc n cap a b W w' hc hw (by omega) (by omega) hw2 (by omega) hcap
 rw [he] at hrows
 have hp := plc_sub (l := s.cells) (off := 0) (o := 0) (k := s.cells.length) (off' := off) ⟨fun _ => rfl, Nat.le_refl _, by omega⟩ (lo := a * W) (hi := (b + 1) * W) (Nat.mul_le_mul_right _ (by omega)) (by omega) ho1 ho2
 have hmv := fun w' Z' h0 h1 h2 => move_W s.cells tl bc off (0 + a * W) ((b + 1) * W - a * W) ((b + 1) * W - a * W) (s.W * clampI N (-s.H) s.H) w' (Z := Z') h0 h1 h2 hp (Nat.le_refl _) (by have := Nat.mul_le_mul hw1 hq1; omega) (by omega)
 rw [Nat.zero_add, show (b + 1) * W - a * W = (b + 1 - a) * W from (Nat.sub_mul ..).symm] at hmv
 rw [show (b + 1) * W - a * W = (b + 1 - a) * W from (Nat.sub_mul ..).symm] at hrows
 rw [show splice s.cells (a * W) (moveL ((s.cells.drop (a * W)).take ((b + 1 - a) * W)) (s.W * clampI N (-s.H) s.H)) = (scrollF s a b N).cells from by
  show _ = scrollL s.cells s.W.toNat (a : Int).toNat (b : Int).toNat _
  rw [Int.toNat_natCast, Int.toNat_natCast, hw, Int.toNat_natCast]
  rfl] at hmv
 have hcl := clampI_in N (lo := -s.H) (hi := s.H) (by omega)
 have hmw : IntKind.i64.wrap (s.W * clampI N (-s.H) s.H) = s.W * clampI N (-s.H) s.H := by
  have := mulIn (x := s.W) (y := clampI N (-s.H) s.H) (by omega) (by omega)
  exact wrap_i64 (by omega) (by omega)
 have hng : IntKind.i64.wrap (0 - s.H) = -s.H := by rw [wrap_i64 (by omega) (by omega)]; omega
 have hfc : scC (scrollF s a b N) (.slice (some ⟨bc, 0, none⟩) n cap) v2 = scC s (.slice (some ⟨bc, 0, none⟩) n cap) v2 := rfl
 refine wm_of (fn := Try.f74) Try.func74 rfl Try.ntmps74 rfl hm hZ hZ0 srR_mono (fun on => ?_)
 generalize hfs : scrollF s a b N = s' at *
 generalize (b + 1 - a) * W = k at *
 have hsc := fun (w' : World) (h : Has w' [⟨bs, scC s (.slice (some ⟨bc, 0, none⟩) n cap) v2, tSc⟩]) => sc_has (j := 0) h rfl
 repeat refine s_seqs ?_
 refine s_dreg [1, 9, 17, 27, 33, 41, 49, 59, 65, 73, 81, 89, 99, 105, 113, 121, 129, 139, 147, 153, 164] ([⟨bs, scC s (.slice (some ⟨bc, 0, none⟩) n cap) v2, tSc⟩]) follows (by kernel_rfl) ?_
 refine qd rfl rfl rfl rfl ?_
 refine qd rfl rfl rfl rfl ?_
 refine qd rfl rfl rfl rfl ?_
 refine d_gives rfl rfl rfl fun88 rfl (fun w' hh kp => hrows w' (hsc w' hh)) (by first | exact SubMem.refl _ | exact (SubMem.refl _).cons | exact (SubMem.refl _).cons.cons | exact (SubMem.refl _).cons.cons.cons | exact (SubMem.refl _).cons.cons.cons.cons | exact (fun w hh => Has.sublist (by repeat (first | exact List.Sublist.refl _ | exact List.nil_sublist _ | apply List.Sublist.cons_cons | apply List.Sublist.cons)) hh)) ?_
 refine qd rfl rfl rfl rfl ?_
 refine d_pure0 rfl rfl rfl (pure_nilCheck rfl) ?_
 refine d_pure0 rfl rfl rfl (pure_fieldAddr rfl rfl rfl rfl rfl (by decide)) ?_
 first | refine d_pure1 rfl rfl rfl (pure_load (i := 0) rfl rfl rfl rfl rfl rfl) (by first | exact SubMem.refl _ | exact (SubMem.refl _).cons | exact (SubMem.refl _).cons.cons | exact (SubMem.refl _).cons.cons.cons | exact (SubMem.refl _).cons.cons.cons.cons | exact (fun w hh => Has.sublist (by repeat (first | exact List.Sublist.refl _ | exact List.nil_sublist _ | apply List.Sublist.cons_cons | apply List.Sublist.cons)) hh)) ?_ | refine d_pure1 rfl rfl rfl (pure_load (i := 1) rfl rfl rfl rfl rfl rfl) (by first | exact SubMem.refl _ | exact (SubMem.refl _).cons | exact (SubMem.refl _).cons.cons | exact (SubMem.refl _).cons.cons.cons | exact (SubMem.refl _).cons.cons.cons.cons | exact (fun w hh => Has.sublist (by repeat (first | exact List.Sublist.refl _ | exact List.nil_sublist _ | apply List.Sublist.cons_cons | apply List.Sublist.cons)) hh)) ?_ | refine d_pure1 rfl rfl rfl (pure_load (i := 2) rfl rfl rfl rfl rfl rfl) (by first | exact SubMem.refl _ | exact (SubMem.refl _).cons | exact (SubMem.refl _).cons.cons | exact (SubMem.refl _).cons.cons.cons | exact (SubMem.refl _).cons.cons.cons.cons | exact (fun w hh => Has.sublist (by repeat (first | exact List.Sublist.refl _ | exact List.nil_sublist _ | apply List.Sublist.cons_cons | apply List.Sublist.cons)) hh)) ?_ | refine d_pure1 rfl rfl rfl (pure_load (i := 3) rfl rfl rfl rfl rfl rfl) (by first | exact SubMem.refl _ | exact (SubMem.refl _).cons | exact (SubMem.refl _).cons.cons | exact (SubMem.refl _).cons.cons.cons | exact (SubMem.refl _).cons.cons.cons.cons | exact (fun w hh => Has.sublist (by repeat (first | exact List.Sublist.refl _ | exact List.nil_sublist _ | apply List.Sublist.cons_cons | apply List.Sublist.cons)) hh)) ?_ | refine d_pure1 rfl rfl rfl (pure_load (i := 4) rfl rfl rfl rfl rfl rfl) (by first | exact SubMem.refl _ | exact (SubMem.refl _).cons | exact (SubMem.refl _).cons.cons | exact (SubMem.refl _).cons.cons.cons | exact (SubMem.refl _).cons.cons.cons.cons | exact (fun w hh => Has.sublist (by repeat (first | exact List.Sublist.refl _ | exact List.nil_sublist _ | apply List.Sublist.cons_cons | apply List.Sublist.cons)) hh)) ?_ | refine d_pure1 rfl rfl rfl (pure_load (i := 5) rfl rfl rfl rfl rfl rfl) (by first | exact SubMem.refl _ | exact (SubMem.refl _).cons | exact (SubMem.refl _).cons.cons | exact (SubMem.refl _).cons.cons.cons | exact (SubMem.refl _).cons.cons.cons.cons | exact (fun w hh => Has.sublist (by repeat (first | exact List.Sublist.refl _ | exact List.nil_sublist _ | apply List.Sublist.cons_cons | apply List.Sublist.cons)) hh)) ?_
 refine qd rfl rfl rfl rfl ?_
 refine qd rfl rfl rfl rfl ?_
 refine d_pure0 rfl rfl rfl (pure_nilCheck rfl) ?_
 refine d_pure0 rfl rfl rfl (pure_fieldAddr rfl rfl rfl rfl rfl (by decide)) ?_
 first | refine d_pure1 rfl rfl rfl (pure_load (i := 0) rfl rfl rfl rfl rfl rfl) (by first | exact SubMem.refl _ | exact (SubMem.refl _).cons | exact (SubMem.refl _).cons.cons | exact (SubMem.refl _).cons.cons.cons | exact (SubMem.refl _).cons.cons.cons.cons | exact (fun w hh => Has.sublist (by repeat (first | exact List.Sublist.refl _ | exact List.nil_sublist _ | apply List.Sublist.cons_cons | apply List.Sublist.cons)) hh)) ?_ | refine d_pure1 rfl rfl rfl (pure_load (i := 1) rfl rfl rfl rfl rfl rfl) (by first | exact SubMem.refl _ | exact (SubMem.refl _).cons | exact (SubMem.refl _).cons.cons | exact (SubMem.refl _).cons.cons.cons | exact (SubMem.refl _).cons.cons.cons.cons | exact (fun w hh => Has.sublist (by repeat (first | exact List.Sublist.refl _ | exact List.nil_sublist _ | apply List.Sublist.cons_cons | apply List.Sublist.cons)) hh)) ?_ | refine d_pure1 rfl rfl rfl (pure_load (i := 2) rfl rfl rfl rfl rfl rfl) (by first | exact SubMem.refl _ | exact (SubMem.refl _).cons | exact (SubMem.refl _).cons.cons | exact (SubMem.refl _).cons.cons.cons | exact (SubMem.refl _).cons.cons.cons.cons | exact (fun w hh => Has.sublist (by repeat (first | exact List.Sublist.refl _ | exact List.nil_sublist _ | apply List.Sublist.cons_cons | apply List.Sublist.cons)) hh)) ?_ | refine d_pure1 rfl rfl rfl (pure_load (i := 3) rfl rfl rfl rfl rfl rfl) (by first | exact SubMem.refl _ | exact (SubMem.refl _).cons | exact (SubMem.refl _).cons.cons | exact (SubMem.refl _).cons.cons.cons | exact (SubMem.refl _).cons.cons.cons.cons | exact (fun w hh => Has.sublist (by repeat (first | exact List.Sublist.refl _ | exact List.nil_sublist _ | apply List.Sublist.cons_cons | apply List.Sublist.cons)) hh)) ?_ | refine d_pure1 rfl rfl rfl (pure_load (i := 4) rfl rfl rfl rfl rfl rfl) (by first | exact SubMem.refl _ | exact (SubMem.refl _).cons | exact (SubMem.refl _).cons.cons | exact (SubMem.refl _).cons.cons.cons | exact (SubMem.refl _).cons.cons.cons.cons | exact (fun w hh => Has.sublist (by repeat (first | exact List.Sublist.refl _ | exact List.nil_sublist _ | apply List.Sublist.cons_cons | apply List.Sublist.cons)) hh)) ?_ | refine d_pure1 rfl rfl rfl (pure_load (i := 5) rfl rfl rfl rfl rfl rfl) (by first | exact SubMem.refl _ | exact (SubMem.refl _).cons | exact (SubMem.refl _).cons.cons | exact (SubMem.refl _).cons.cons.cons | exact (SubMem.refl _).cons.cons.cons.cons | exact (fun w hh => Has.sublist (by repeat (first | exact List.Sublist.refl _ | exact List.nil_sublist _ | apply List.Sublist.cons_cons | apply List.Sublist.cons)) hh)) ?_
 refine d_as0 rfl rfl rfl (pure_neg rfl) (congrArg (Value.int .i64) hng) ?_
 refine qd rfl rfl rfl rfl ?_
 refine d_pure0 rfl rfl rfl (pure_nilCheck rfl) ?_
 refine d_pure0 rfl rfl rfl (pure_fieldAddr rfl rfl rfl rfl rfl (by decide)) ?_
 first | refine d_pure1 rfl rfl rfl (pure_load (i := 0) rfl rfl rfl rfl rfl rfl) (by first | exact SubMem.refl _ | exact (SubMem.refl _).cons | exact (SubMem.refl _).cons.cons | exact (SubMem.refl _).cons.cons.cons | exact (SubMem.refl _).cons.cons.cons.cons | exact (fun w hh => Has.sublist (by repeat (first | exact List.Sublist.refl _ | exact List.nil_sublist _ | apply List.Sublist.cons_cons | apply List.Sublist.cons)) hh)) ?_ | refine d_pure1 rfl rfl rfl (pure_load (i := 1) rfl rfl rfl rfl rfl rfl) (by first | exact SubMem.refl _ | exact (SubMem.refl _).cons | exact (SubMem.refl _).cons.cons | exact (SubMem.refl _).cons.cons.cons | exact (SubMem.refl _).cons.cons.cons.cons | exact (fun w hh => Has.sublist (by repeat (first | exact List.Sublist.refl _ | exact List.nil_sublist _ | apply List.Sublist.cons_cons | apply List.Sublist.cons)) hh)) ?_ | refine d_pure1 rfl rfl rfl (pure_load (i := 2) rfl rfl rfl rfl rfl rfl) (by first | exact SubMem.refl _ | exact (SubMem.refl _).cons | exact (SubMem.refl _).cons.cons | exact (SubMem.refl _).cons.cons.cons | exact (SubMem.refl _).cons.cons.cons.cons | exact (fun w hh => Has.sublist (by repeat (first | exact List.Sublist.refl _ | exact List.nil_sublist _ | apply List.Sublist.cons_cons | apply List.Sublist.cons)) hh)) ?_ | refine d_pure1 rfl rfl rfl (pure_load (i := 3) rfl rfl rfl rfl rfl rfl) (by first | exact SubMem.refl _ | exact (SubMem.refl _).cons | exact (SubMem.refl _).cons.cons | exact (SubMem.refl _).cons.cons.cons | exact (SubMem.refl _).cons.cons.cons.cons | exact (fun w hh => Has.sublist (by repeat (first | exact List.Sublist.refl _ | exact List.nil_sublist _ | apply List.Sublist.cons_cons | apply List.Sublist.cons)) hh)) ?_ | refine d_pure1 rfl rfl rfl (pure_load (i := 4) rfl rfl rfl rfl rfl rfl) (by first | exact SubMem.refl _ | exact (SubMem.refl _).cons | exact (SubMem.refl _).cons.cons | exact (SubMem.refl _).cons.cons.cons | exact (SubMem.refl _).cons.cons.cons.cons | exact (fun w hh => Has.sublist (by repeat (first | exact List.Sublist.refl _ | exact List.nil_sublist _ | apply List.Sublist.cons_cons | apply List.Sublist.cons)) hh)) ?_ | refine d_pure1 rfl rfl rfl (pure_load (i := 5) rfl rfl rfl rfl rfl rfl) (by first | exact SubMem.refl _ | exact (SubMem.refl _).cons | exact (SubMem.refl _).cons.cons | exact (SubMem.refl _).cons.cons.cons | exact (SubMem.refl _).cons.cons.cons.cons | exact (fun w hh => Has.sublist (by repeat (first | exact List.Sublist.refl _ | exact List.nil_sublist _ | apply List.Sublist.cons_cons | apply List.Sublist.cons)) hh)) ?_
 refine d_gives rfl rfl rfl fun30 rfl (fun w _ _ => clamp_any _ _ _ w) (by first | exact SubMem.refl _ | exact (SubMem.refl _).cons | exact (SubMem.refl _).cons.cons | exact (SubMem.refl _).cons.cons.cons | exact (SubMem.refl _).cons.cons.cons.cons | exact (fun w hh => Has.sublist (by repeat (first | exact List.Sublist.refl _ | exact List.nil_sublist _ | apply List.Sublist.cons_cons | apply List.Sublist.cons)) hh)) ?_
 refine d_as0 rfl rfl rfl (pure_mul rfl rfl) (congrArg (Value.int .i64) hmw) ?_
 refine d_wm [⟨bc, ceR s.cells ++ tl, tC⟩] [⟨bs, scC s (.slice (some ⟨bc, 0, none⟩) n cap) v2, tSc⟩] on.sc rfl rfl rfl fun87 rfl (List.Perm.swap ..) (fun w' Z' hh kp h0 hZ hZ0 hC => hmv w' Z' h0 hZ hZ0) rfl (List.Sublist.refl _) ?_
 rintro u m1 E3 g ⟨rfl, rfl⟩
 replace on := on.next g
 refine d_end (fun a w ok => ?_)
 exact ends_wm on (.inl rfl) ok (res_none rfl) (m1 := [_, _]) (mr := []) (List.Perm.swap ..) srR_mono ⟨rfl, by unfold scM; rw [hfc]⟩
end Go.Proofs.Ytadginombcjbeaa
