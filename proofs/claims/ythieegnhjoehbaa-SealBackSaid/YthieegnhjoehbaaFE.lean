/- few, walked. -/
import Derived.Test.YthieegnhjoehbaaFD
import Derived.Test.YthieegnhjoehbaaFo
import Derived.Test.YthieegnhjoehbaaVk
namespace Go.Proofs.Ythieegnhjoehbaa
open Go.RowKit Go.Vc
set_option linter.unusedVariables false
def smallF (f : Fr) : Bool := !(decide ((f.data.length : Int) > 3000) || decide ((f.rs.length : Int) > 40))
def fewB (fs : List Fr) : Bool := decide (fs.length ≤ 30) && fs.all smallF
theorem few_in {fs : List Fr} (h : fewB fs = true) : fs.length ≤ 30 ∧ ∀ f ∈ fs, f.data.length ≤ 3000 ∧ f.rs.length ≤ 40 := by
 unfold fewB at h
 rw [Bool.and_eq_true, List.all_eq_true] at h
 refine ⟨by simpa using h.1, fun f hf => ?_⟩
 have := h.2 f hf
 unfold smallF at this
 simp at this
 omega
end Go.Proofs.Ythieegnhjoehbaa
/- awake, walked. -/
namespace Go.Proofs.Ythieegnhjoehbaa
open Go.RowKit Go.Vc
set_option linter.unusedVariables false
/-! a slice of frames of one's own, as a callee sees it -/
theorem slis_mem {u : Ty} {eT : TypeId} {e : Ent} {m : Mem} {base : Option Addr} {len cap : Nat} {xs : List Value} (hs : SlIs u eT e base len cap xs) (he : e.cells ≠ [] → e ∈ m) {w : World} (hh : Has w m) :
  SlC (fun p x => w.cell? p = some x) u.size (.slice base len cap) len xs := by
 refine ⟨base, cap, rfl, hs.le, hs.len, fun hne => ?_⟩
 have hlive : e.cells ≠ [] := fun h => hne (by rw [← hs.xs, h]; simp)
 obtain ⟨hb, hel⟩ := hs.at_ hlive
 refine ⟨_, hb, fun i x hx => ?_⟩
 rw [add_none, Nat.zero_add]
 refine cell_of (hh.cell (he hlive) hlive) ?_
 rw [← hs.xs, List.getElem?_take] at hx
 split at hx
 ·exact hx
 ·cases hx
theorem frx_mem {x : FrX} {m : Mem} (h : x.Ok) (he : x.er.cells ≠ [] → x.er ∈ m) (hd : x.ed.cells ≠ [] → x.ed ∈ m) {w : World} (hh : Has w m) : FrC (fun p y => w.cell? p = some y) x.f x.cells :=
 ⟨_, _, rfl, slis_mem h.rs he hh, slis_mem h.data hd hh⟩
theorem frs_mem {L : List FrX} {m : Mem} {e : Ent} {base : Option Addr} {cap : Nat} (hs : SlIs ty59 59 e base L.length cap (L.flatMap FrX.cells)) (he : e.cells ≠ [] → e ∈ m) (hL : ∀ x ∈ L, x.Ok)
  (her : ∀ x ∈ L, x.er.cells ≠ [] → x.er ∈ m) (hed : ∀ x ∈ L, x.ed.cells ≠ [] → x.ed ∈ m) {w : World} (hh : Has w m) : FrsC (fun p y => w.cell? p = some y) (.slice base L.length cap) (L.map FrX.f) := by
 refine ⟨L.map FrX.cells, by simp, fun i f cs hf hc => ?_, ?_⟩
 ·rw [List.getElem?_map] at hf hc
  cases hx : L[i]? with
  | none => rw [hx] at hf; cases hf
  | some x =>
   rw [hx] at hf hc
   cases hf
   cases hc
   have hm := List.mem_of_getElem? hx
   exact frx_mem (hL x hm) (her x hm) (hed x hm) hh
 ·rw [List.length_map, ← List.flatMap_def]
  exact slis_mem hs he hh
theorem ents_er {L : List FrX} {x : FrX} (h : x ∈ L) : x.er ∈ ents L := List.mem_flatMap.2 ⟨x, List.mem_reverse.2 h, by simp⟩
theorem ents_ed {L : List FrX} {x : FrX} (h : x ∈ L) : x.ed ∈ ents L := List.mem_flatMap.2 ⟨x, List.mem_reverse.2 h, by simp⟩
def ackF : Fr := ⟨2, 5, 0, [(7, 9), (2, 2)], []⟩
def pingF : Fr := ⟨1, 0, 0, [], []⟩
def padF : Fr := ⟨0, 2, 0, [], []⟩
theorem wrAck : wrOk [ackF] = true := by decide
theorem wrTwo : wrOk [pingF, padF] = true := by decide
theorem fbAck : [ackF].flatMap fbytes = [2, 5, 2, 7, 9, 2, 2] := by decide
theorem fbTwo : [pingF, padF].flatMap fbytes = [1, 0, 2, 0, 0] := by decide
theorem rdAck : rdAll [2, 5, 2, 7, 9, 2, 2] = some [ackF] := by rfl
theorem rdTwo : rdAll [1, 0, 2, 0, 0] = some [pingF, padF] := by rfl
theorem rdEight : rdAll [8] = none := by rfl
theorem rdEight' : (rdAll [8]).isSome = false := by rfl
theorem sl_len8 {e : Ent} {base : Option Addr} {len cap : Nat} {l : List Int} (h : SlIs ty5 5 e base len cap (row l)) : len = l.length := by
 have := h.len
 rw [row_len] at this
 rw [this]
 exact (Nat.mul_one _).symm
theorem fillAck : fillL (fun i => some (i * ty110.size, ty110.size)) (rowOf [Value.int .i64 0, .int .i64 0] (2 * ty110.size)) [(0, .agg [Value.int .i64 7, .int .i64 9].toArray), (1, .agg [Value.int .i64 2, .int .i64 2].toArray)] = some [.int .i64 7, .int .i64 9, .int .i64 2, .int .i64 2] := by kernel_rfl
theorem rowOf_fr2 : rowOf [Value.int .i64 0, .int .i64 0, .int .i64 0, .slice none 0 0, .slice none 0 0] (2 * 5) = [Value.int .i64 0, .int .i64 0, .int .i64 0, .slice none 0 0, .slice none 0 0, .int .i64 0, .int .i64 0, .int .i64 0, .slice none 0 0, .slice none 0 0] := by kernel_rfl
theorem fillTwo : fillL (fun i => some (i * ty59.size, ty59.size)) (rowOf [Value.int .i64 0, .int .i64 0, .int .i64 0, .slice none 0 0, .slice none 0 0] (2 * ty59.size)) [(0, .agg [Value.int .i64 1, .int .i64 0, .int .i64 0, .slice none 0 0, .slice none 0 0].toArray), (1, .agg [Value.int .i64 0, .int .i64 2, .int .i64 0, .slice none 0 0, .slice none 0 0].toArray)] = some [.int .i64 1, .int .i64 0, .int .i64 0, .slice none 0 0, .slice none 0 0, .int .i64 0, .int .i64 2, .int .i64 0, .slice none 0 0, .slice none 0 0] := by kernel_rfl
def ackX (b : Nat) : FrX := ⟨ackF, some ⟨b, 0, none⟩, 2, none, 0, ⟨b, [.int .i64 7, .int .i64 9, .int .i64 2, .int .i64 2], 110⟩, hole⟩
theorem ackX_ok (b : Nat) : (ackX b).Ok := ⟨sl_built ty110 110 b [.int .i64 7, .int .i64 9, .int .i64 2, .int .i64 2] 2 rfl, sl_nil _ _ (by decide)⟩
def pingX : FrX := ⟨pingF, none, 0, none, 0, hole, hole⟩
def padX : FrX := ⟨padF, none, 0, none, 0, hole, hole⟩
theorem pingX_ok : pingX.Ok := ⟨sl_nil _ _ (by decide), sl_nil _ _ (by decide)⟩
theorem padX_ok : padX.Ok := ⟨sl_nil _ _ (by decide), sl_nil _ _ (by decide)⟩
theorem one_of {α : Type} : ∀ {L : List α}, L.length = 1 → ∃ x, L = [x]
 | [x], _ => ⟨x, rfl⟩
theorem bytesAck : ∀ f ∈ [ackF], Bytes f.data := by
 intro f hf
 rw [List.mem_singleton.1 hf]
 intro x hx
 cases hx
theorem allAck : allB [ackF] [ackF] = true := (allB_iff bytesAck bytesAck).2 rfl
theorem fill7 : fillL (fun i => some (i * ty5.size, ty5.size)) (rowOf [Value.int .u8 0] (7 * ty5.size)) [(0, .int .u8 2), (1, .int .u8 5), (2, .int .u8 2), (3, .int .u8 7), (4, .int .u8 9), (5, .int .u8 2), (6, .int .u8 2)] = some (row [2, 5, 2, 7, 9, 2, 2]) := by kernel_rfl
theorem fill5 : fillL (fun i => some (i * ty5.size, ty5.size)) (rowOf [Value.int .u8 0] (5 * ty5.size)) [(0, .int .u8 1), (1, .int .u8 0), (2, .int .u8 2), (3, .int .u8 0), (4, .int .u8 0)] = some (row [1, 0, 2, 0, 0]) := by kernel_rfl
theorem fokAck : fok ackF = true := by decide
theorem two_mem {m : Mem} {e : Ent} {base : Option Addr} {cap : Nat} {w : World} (hs : SlIs ty59 59 e base 2 cap (pingX.cells ++ padX.cells)) (he : e ∈ m) (hh : Has w m) : FrsC (fun p y => w.cell? p = some y) (.slice base 2 cap) [pingF, padF] := by
 refine frs_mem (L := [pingX, padX]) ?_ (fun _ => he) ?_ ?_ ?_ hh
 ·exact hs
 ·intro x hx
  simp at hx
  rcases hx with rfl | rfl
  ·exact pingX_ok
  ·exact padX_ok
 ·intro x hx h
  simp at hx
  rcases hx with rfl | rfl <;> exact absurd rfl h
 ·intro x hx h
  simp at hx
  rcases hx with rfl | rfl <;> exact absurd rfl h
end Go.Proofs.Ythieegnhjoehbaa
/- The law FrameNames, walked. -/
namespace Go.Proofs.Ythieegnhjoehbaa
open Go.RowKit Go.Vc
set_option linter.unusedVariables false
end Go.Proofs.Ythieegnhjoehbaa
/- What is written is read, and what is read was written so. Plain. -/
namespace Go.Proofs.Ythieegnhjoehbaa
open Go.RowKit Go.Vc
set_option linter.unusedVariables false
set_option linter.unusedSimpArgs false
theorem rdN_vb {n : Int} (r : List Int) (h0 : 0 ≤ n) (h1 : n < 4611686018427387904) : rdN (vb n ++ r, false) = (n, (r, false)) := by
 have h := gt_vb n r h0 h1
 unfold rdN gN gS
 rw [show (vb n ++ r, false).1 = vb n ++ r from rfl, h]
 simp [← vb_len]
theorem rdN_back {s : St} (hb : Bytes s.1) (h : (rdN s).2.2 = false) : s.2 = false ∧ s.1 = vb (rdN s).1 ++ (rdN s).2.1 ∧ 0 ≤ (rdN s).1 ∧ (rdN s).1 < 4611686018427387904 := by
 obtain ⟨b, l⟩ := s
 unfold rdN gN gS at h ⊢
 dsimp only at h hb ⊢
 cases hg : gt b with
 | none => rw [hg] at h; simp at h
 | some p =>
  obtain ⟨n, k⟩ := p
  rw [hg] at h
  obtain ⟨h1, h2, h3, h4, h5, h6⟩ := vb_gt hb hg
  simp at h ⊢
  exact ⟨h, by rw [← h5, List.take_append_drop], h1, h2⟩
theorem rdN_bytes {s : St} (hb : Bytes s.1) : Bytes (rdN s).2.1 := fun x hx => hb x (List.mem_of_mem_drop hx)
theorem rdD_bytes {s : St} (hb : Bytes s.1) (n : Int) : Bytes (rdD s n).2.1 := fun x hx => hb x (List.mem_of_mem_drop hx)
theorem rdD_take {s : St} (hb : Bytes s.1) (n : Int) : Bytes (rdD s n).1 := fun x hx => hb x (List.mem_of_mem_take hx)
theorem rdD_app (d r : List Int) : rdD (d ++ r, false) (d.length : Int) = (d, (r, false)) := by
 have hk : dK (d ++ r) (d.length : Int) = d.length := by
  unfold dK
  rw [if_pos ⟨by omega, by rw [List.length_append]; omega⟩, Int.toNat_natCast]
 have hz : dBad (d ++ r) (d.length : Int) = false := by
  unfold dBad
  rw [decide_eq_true (by omega : (0 : Int) ≤ (d.length : Int)), decide_eq_true (by rw [List.length_append]; omega : ((d.length : Int)) ≤ ((d ++ r).length : Int))]
  rfl
 unfold rdD
 dsimp only
 rw [hk, hz]
 simp
theorem rdD_back {s : St} {n : Int} (h : (rdD s n).2.2 = false) : s.2 = false ∧ s.1 = (rdD s n).1 ++ (rdD s n).2.1 ∧ ((rdD s n).1.length : Int) = n := by
 obtain ⟨b, l⟩ := s
 have hl := rdD_len (b, l) n
 unfold rdD at h hl ⊢
 dsimp only at h hl ⊢
 rw [Bool.or_eq_false_iff] at h
 refine ⟨h.1, (List.take_append_drop _ _).symm, ?_⟩
 rw [hl]
 have := h.2
 unfold dBad at this
 simp at this
 unfold dK
 rw [if_pos this]
 omega
theorem rdRs_vb (rs : List (Int × Int)) (r : List Int) (h : ∀ p ∈ rs, 0 ≤ p.1 ∧ p.1 ≤ p.2 ∧ p.2 ≤ 4611686018427387903) : ∀ k, k ≤ rs.length → rdRs ((nuR rs).flatMap vb ++ r, false) k = (rs.take k, ((nuR (rs.drop k)).flatMap vb ++ r, false)) := by
 intro k
 induction k with
 | zero => intro _; simp [rdRs]
 | succ k ih =>
  intro hk
  have hlt : k < rs.length := by omega
  have hp := h _ (List.getElem_mem hlt)
  have e : (nuR (rs.drop k)).flatMap vb ++ r = vb rs[k].1 ++ (vb rs[k].2 ++ ((nuR (rs.drop (k + 1))).flatMap vb ++ r)) := by
   rw [show nuR (rs.drop k) = rs[k].1 :: rs[k].2 :: nuR (rs.drop (k + 1)) from by rw [List.drop_eq_getElem_cons hlt]; rfl]
   rw [List.flatMap_cons, List.flatMap_cons, List.append_assoc, List.append_assoc]
  unfold rdRs
  rw [ih (by omega)]
  dsimp only
  rw [e, rdN_vb _ hp.1 (by omega)]
  dsimp only
  rw [rdN_vb _ (by omega) (by omega)]
  rw [List.take_succ_eq_append_getElem hlt]
theorem rdRs_back {s : St} (hb : Bytes s.1) : ∀ k, (rdRs s k).2.2 = false → s.2 = false ∧ s.1 = (nuR (rdRs s k).1).flatMap vb ++ (rdRs s k).2.1 := by
 have hbk : ∀ k, Bytes (rdRs s k).2.1 := by
  intro k
  induction k with
  | zero => exact hb
  | succ k ih => exact rdN_bytes (rdN_bytes ih)
 intro k
 induction k with
 | zero => intro h; exact ⟨h, by simp [rdRs, nuR]⟩
 | succ k ih =>
  intro h
  have h2 := rdN_back (rdN_bytes (hbk k)) h
  have h1 := rdN_back (hbk k) h2.1
  obtain ⟨h0, e⟩ := ih h1.1
  refine ⟨h0, ?_⟩
  rw [e, show rdRs s (k + 1) = ((rdRs s k).1 ++ [((rdN (rdRs s k).2).1, (rdN (rdN (rdRs s k).2).2).1)], (rdN (rdN (rdRs s k).2).2).2) from rfl]
  dsimp only
  rw [show nuR ((rdRs s k).1 ++ [((rdN (rdRs s k).2).1, (rdN (rdN (rdRs s k).2).2).1)]) = nuR (rdRs s k).1 ++ [(rdN (rdRs s k).2).1, (rdN (rdN (rdRs s k).2).2).1] from by simp [nuR]]
  rw [List.flatMap_append, List.append_assoc]
  congr 1
  rw [h1.2.1, h2.2.1]
  simp [List.flatMap_cons, List.append_assoc]
/-! a frame's bytes, part by part -/
def pad (f : Fr) : List Int := if f.kind = 0 then zeros f.a.toNat else []
theorem flat_if (g : Int → List Int) (c : Bool) (x : Int) : (if c = true then [x] else []).flatMap g = if c = true then g x else [] := by cases c <;> simp
theorem flat_if1 (g : Int → List Int) (k x : Int) : (if k = 1 then [] else [x]).flatMap g = if k = 1 then [] else g x := by split <;> simp
theorem nu1_eq (f : Fr) : nu1 f = f.kind :: (if f.kind = 1 then [] else [f.a]) := by unfold nu1; split <;> rfl
theorem nu2_eq (f : Fr) : nu2 f = nu1 f ++ (if wantB f.kind = true then [f.b] else []) := by unfold nu2; split <;> simp
theorem nu3_eq (f : Fr) : nu3 f = nu2 f ++ (if wantR f.kind = true then [(f.rs.length : Int)] else []) := by unfold nu3; split <;> simp
theorem fnums_eq (f : Fr) : fnums f = nu3 f ++ nuR f.rs ++ (if wantD f.kind = true then [(f.data.length : Int)] else []) := by unfold fnums nu4; split <;> simp
theorem fb_parts (f : Fr) (r : List Int) : fbytes f ++ r = vb f.kind ++ ((if f.kind = 1 then [] else vb f.a) ++ ((if wantB f.kind = true then vb f.b else []) ++ ((if wantR f.kind = true then vb (f.rs.length : Int) else []) ++
  ((nuR f.rs).flatMap vb ++ ((if wantD f.kind = true then vb (f.data.length : Int) else []) ++ (f.data ++ (pad f ++ r))))))) := by
 have e : fbytes f = (fnums f).flatMap vb ++ f.data ++ pad f := rfl
 rw [e, fnums_eq, nu3_eq, nu2_eq, nu1_eq, List.flatMap_append, List.flatMap_append, List.flatMap_append, List.flatMap_append, List.flatMap_cons, flat_if, flat_if, flat_if, flat_if1]
 simp only [List.append_assoc]
theorem fok_want {f : Fr} (h : fok f = true) : (f.kind = 1 → f.a = 0) ∧ (wantB f.kind ≠ true → f.b = 0) ∧ (wantR f.kind ≠ true → f.rs = []) ∧ (wantD f.kind ≠ true → f.data = []) := by
 by_cases h0 : f.kind = 0
 ·have k := (fok0 h0).1 h
  exact ⟨fun h1 => by omega, fun _ => k.2.2.1, fun _ => k.2.2.2.1, fun _ => k.2.2.2.2⟩
 by_cases h1 : f.kind = 1
 ·have k := (fok1 h1).1 h
  exact ⟨fun _ => k.1, fun _ => k.2.1, fun _ => k.2.2.1, fun _ => k.2.2.2⟩
 by_cases h2 : f.kind = 2
 ·have k := (fok2 h2).1 h
  exact ⟨fun h1 => by omega, fun _ => k.2.2.1, fun hn => absurd (by rw [h2]; rfl) hn, fun _ => k.2.2.2.2⟩
 by_cases h3 : f.kind = 3
 ·have k := (fok3 h3).1 h
  exact ⟨fun h1 => by omega, fun hn => absurd (by rw [h3]; rfl) hn, fun _ => k.2.2.2.1, fun hn => absurd (by rw [h3]; rfl) hn⟩
 by_cases h4 : f.kind = 4
 ·have k := (fok4 h4).1 h
  exact ⟨fun h1 => by omega, fun _ => k.2.2.1, fun _ => k.2.2.2.1, fun hn => absurd (by rw [h4]; rfl) hn⟩
 by_cases h5 : f.kind = 5
 ·have k := (fok5 h5).1 h
  exact ⟨fun h1 => by omega, fun hn => absurd (by rw [h5]; rfl) hn, fun _ => k.2.2.2.2.1, fun _ => k.2.2.2.2.2⟩
 by_cases h67 : f.kind = 6 ∨ f.kind = 7
 ·have k := (fok67 h67).1 h
  exact ⟨fun h1 => by omega, fun _ => k.2.2.1, fun _ => k.2.2.2.1, fun _ => k.2.2.2.2⟩
 ·rw [fok_no ⟨h0, h1, h2, h3, h4, h5, fun h => h67 (.inl h), fun h => h67 (.inr h)⟩] at h
  cases h
theorem zeros_any (n : Nat) : (zeros n).any (· != 0) = false := by
 rw [List.any_eq_false]
 intro x hx
 have : x = 0 := List.eq_of_mem_replicate hx
 simp [this]
theorem zeros_of {l : List Int} (h : l.any (· != 0) = false) : l = zeros l.length := by
 refine List.eq_replicate_iff.2 ⟨rfl, fun x hx => ?_⟩
 have := List.any_eq_false.1 h x hx
 simpa using this
theorem read_parts (f : Fr) (h : fok f = true) (T0 T1 T2 T3 T4 T5 r : List Int) (h0 : T0 = (if f.kind = 1 then [] else vb f.a) ++ T1) (h1 : T1 = (if wantB f.kind = true then vb f.b else []) ++ T2) (h2 : T2 = (if wantR f.kind = true then vb (f.rs.length : Int) else []) ++ T3)
  (h3 : T3 = (nuR f.rs).flatMap vb ++ T4) (h4 : T4 = (if wantD f.kind = true then vb (f.data.length : Int) else []) ++ T5) (h5 : T5 = f.data ++ (pad f ++ r)) : rdFrame (vb f.kind ++ T0, false) = f ∧ rdZ (vb f.kind ++ T0, false) = (r, false) := by
 obtain ⟨k0, k7, a0, a1, b0, b1, rl, dl, hp, hr⟩ := fok_in h
 obtain ⟨w1, wB, wR, wD⟩ := fok_want h
 have eN : rdN (vb f.kind ++ T0, false) = (f.kind, (T0, false)) := rdN_vb _ k0 (by omega)
 generalize (vb f.kind ++ T0, false) = s at *
 have eA : rdA s = (f.a, (T1, false)) := by
  unfold rdA
  rw [eN]
  dsimp only
  by_cases hk : f.kind = 1
  ·rw [if_pos hk] at h0 ⊢
   rw [w1 hk, h0]; rfl
  ·rw [if_neg hk] at h0 ⊢
   rw [h0, rdN_vb _ a0 (by omega)]
 have eB : rdB s = (f.b, (T2, false)) := by
  unfold rdB
  rw [eN, eA]
  dsimp only
  by_cases hk : wantB f.kind = true
  ·rw [if_pos hk] at h1 ⊢
   rw [h1, rdN_vb _ b0 (by omega)]
  ·rw [if_neg hk] at h1 ⊢
   rw [wB hk, h1]; rfl
 have eR : rdR s = (f.rs, (T4, false)) := by
  unfold rdR
  rw [eN, eB]
  dsimp only
  by_cases hk : wantR f.kind = true
  ·rw [if_pos hk] at h2 ⊢
   rw [h2, rdN_vb _ (by omega) (by omega)]
   dsimp only
   rw [show (min (f.rs.length : Int) 17).toNat = f.rs.length by omega, h3, rdRs_vb _ _ hr _ (Nat.le_refl _), List.take_length, List.drop_length]
   rfl
  ·rw [if_neg hk] at h2 ⊢
   rw [h2, h3, wR hk]; rfl
 have eT : rdT s = (f.data, (pad f ++ r, false)) := by
  unfold rdT
  rw [eN, eR]
  dsimp only
  by_cases hk : wantD f.kind = true
  ·rw [if_pos hk] at h4 ⊢
   rw [h4, rdN_vb _ (by omega) (by omega)]
   dsimp only
   rw [h5, rdD_app]
  ·rw [if_neg hk] at h4 ⊢
   rw [h4, h5, wD hk]; rfl
 refine ⟨?_, ?_⟩
 ·unfold rdFrame
  rw [eN, eA, eB, eR, eT]
 ·unfold rdZ
  rw [eN, eA, eT]
  dsimp only
  unfold pad
  by_cases hk : f.kind = 0
  ·have hl : ((zeros f.a.toNat).length : Int) = f.a := by rw [zeros_len]; omega
   rw [if_pos hk, if_pos hk]
   have e := rdD_app (zeros f.a.toNat) r
   rw [hl] at e
   rw [e]
   dsimp only
   rw [zeros_any]
   rfl
  ·rw [if_neg hk, if_neg hk]; rfl
/-- A frame that may be is read as it was written. -/
theorem read_write (f : Fr) (h : fok f = true) (r : List Int) : rdFrame (fbytes f ++ r, false) = f ∧ rdZ (fbytes f ++ r, false) = (r, false) := by
 rw [fb_parts]
 exact read_parts f h _ _ _ _ _ _ r rfl rfl rfl rfl rfl rfl
end Go.Proofs.Ythieegnhjoehbaa
/- What is read was written so; all the frames. Plain. -/
namespace Go.Proofs.Ythieegnhjoehbaa
open Go.RowKit Go.Vc
set_option linter.unusedVariables false
set_option linter.unusedSimpArgs false
theorem rdA_bytes {s : St} (hb : Bytes s.1) : Bytes (rdA s).2.1 := by
 unfold rdA
 split
 ·exact rdN_bytes hb
 ·exact rdN_bytes (rdN_bytes hb)
theorem rdB_bytes {s : St} (hb : Bytes s.1) : Bytes (rdB s).2.1 := by
 unfold rdB
 split
 ·exact rdN_bytes (rdA_bytes hb)
 ·exact rdA_bytes hb
theorem rdRs_bytes {s : St} (hb : Bytes s.1) (k : Nat) : Bytes (rdRs s k).2.1 := by
 induction k with
 | zero => exact hb
 | succ k ih => exact rdN_bytes (rdN_bytes ih)
theorem rdR_bytes {s : St} (hb : Bytes s.1) : Bytes (rdR s).2.1 := by
 unfold rdR
 split
 ·exact rdRs_bytes (rdN_bytes (rdB_bytes hb)) _
 ·exact rdB_bytes hb
theorem rdT_bytes {s : St} (hb : Bytes s.1) : Bytes (rdT s).2.1 ∧ Bytes (rdT s).1 := by
 unfold rdT
 split
 ·exact ⟨rdD_bytes (rdN_bytes (rdR_bytes hb)) _, rdD_take (rdN_bytes (rdR_bytes hb)) _⟩
 ·exact ⟨rdR_bytes hb, by intro x hx; cases hx⟩
theorem rdZ_bytes {s : St} (hb : Bytes s.1) : Bytes (rdZ s).1 := by
 unfold rdZ
 split
 ·exact rdD_bytes (rdT_bytes hb).1 _
 ·exact (rdT_bytes hb).1
theorem bA {s : St} (hb : Bytes s.1) (h : (rdA s).2.2 = false) : (rdN s).2.2 = false ∧ (rdN s).2.1 = (if (rdN s).1 = 1 then [] else vb (rdA s).1) ++ (rdA s).2.1 := by
 unfold rdA at h ⊢
 split
 ·rename_i hk
  rw [if_pos hk] at h
  exact ⟨h, rfl⟩
 ·rename_i hk
  rw [if_neg hk] at h
  have k := rdN_back (rdN_bytes hb) h
  exact ⟨k.1, k.2.1⟩
theorem bB {s : St} (hb : Bytes s.1) (h : (rdB s).2.2 = false) : (rdA s).2.2 = false ∧ (rdA s).2.1 = (if wantB (rdN s).1 = true then vb (rdB s).1 else []) ++ (rdB s).2.1 := by
 unfold rdB at h ⊢
 split
 ·rename_i hk
  rw [if_pos hk] at h
  have k := rdN_back (rdA_bytes hb) h
  exact ⟨k.1, k.2.1⟩
 ·rename_i hk
  rw [if_neg hk] at h
  exact ⟨h, rfl⟩
theorem bR {s : St} (hb : Bytes s.1) (h : (rdR s).2.2 = false) (h16 : (rdR s).1.length ≤ 16) : (rdB s).2.2 = false ∧ (rdB s).2.1 = (if wantR (rdN s).1 = true then vb ((rdR s).1.length : Int) else []) ++ ((nuR (rdR s).1).flatMap vb ++ (rdR s).2.1) := by
 unfold rdR at h h16 ⊢
 split
 ·rename_i hk
  rw [if_pos hk] at h h16
  have k := rdRs_back (rdN_bytes (rdB_bytes hb)) _ h
  have k2 := rdN_back (rdB_bytes hb) k.1
  rw [rdRs_len] at h16 ⊢
  refine ⟨k2.1, ?_⟩
  rw [show (((min (rdN (rdB s).2).1 17).toNat : Nat) : Int) = (rdN (rdB s).2).1 by have := k2.2.2; omega, ← k.2]
  exact k2.2.1
 ·rename_i hk
  rw [if_neg hk] at h
  exact ⟨h, rfl⟩
theorem bT {s : St} (hb : Bytes s.1) (h : (rdT s).2.2 = false) : (rdR s).2.2 = false ∧ (rdR s).2.1 = (if wantD (rdN s).1 = true then vb ((rdT s).1.length : Int) else []) ++ ((rdT s).1 ++ (rdT s).2.1) := by
 unfold rdT at h ⊢
 split
 ·rename_i hk
  rw [if_pos hk] at h
  have k := rdD_back h
  have k2 := rdN_back (rdR_bytes hb) k.1
  refine ⟨k2.1, ?_⟩
  rw [k.2.2, ← k.2.1]
  exact k2.2.1
 ·rename_i hk
  rw [if_neg hk] at h
  exact ⟨h, rfl⟩
/-- A frame that was read, and may be, was written so. -/
theorem write_read {b : List Int} (hb : Bytes b) (hz : (rdZ (b, false)).2 = false) (h : fok (rdFrame (b, false)) = true) : b = fbytes (rdFrame (b, false)) ++ (rdZ (b, false)).1 := by
 have hlen := (fok_in h).2.2.2.2.2.2.1
 have hpos : 0 ≤ (rdFrame (b, false)).a := (fok_in h).2.2.1
 rw [fb_parts]
 have hT : (rdT (b, false)).2.2 = false ∧ (rdT (b, false)).2.1 = pad (rdFrame (b, false)) ++ (rdZ (b, false)).1 := by
  unfold pad
  show _ ∧ _ = (if (rdN (b, false)).1 = 0 then zeros (rdA (b, false)).1.toNat else []) ++ _
  have hpos : 0 ≤ (rdA (b, false)).1 := hpos
  unfold rdZ at hz ⊢
  split
  ·rename_i hk
   rw [if_pos hk] at hz
   rw [Bool.or_eq_false_iff] at hz
   have k := rdD_back hz.1
   refine ⟨k.1, ?_⟩
   have hl := k.2.2
   have hzz := zeros_of hz.2
   rw [k.2.1]
   congr 1
   rw [hzz]
   congr 1
   omega
  ·rename_i hk
   rw [if_neg hk] at hz
   exact ⟨hz, rfl⟩
 obtain ⟨h5, e5⟩ := hT
 obtain ⟨h4, e4⟩ := bT hb h5
 obtain ⟨h3, e3⟩ := bR hb h4 hlen
 obtain ⟨h2, e2⟩ := bB hb h3
 obtain ⟨h1, e1⟩ := bA hb h2
 obtain ⟨-, e0, -⟩ := rdN_back (s := (b, false)) hb h1
 rw [e5] at e4
 rw [e4] at e3
 rw [e3] at e2
 rw [e2] at e1
 rw [e1] at e0
 exact e0
theorem fbytes_ne (f : Fr) (h : fok f = true) (r : List Int) : (fbytes f ++ r).length ≠ 0 := by
 rw [fb_parts, List.length_append, vb_len]
 have := fok_in h
 have := vsize_ne (n := f.kind) (by omega) (by omega)
 omega
theorem rdGo_write : ∀ (fs l : List Fr) (k : Nat), (∀ f ∈ fs, fok f = true) → l.length + fs.length ≤ 16 → fs.length < k → rdGo k (fs.flatMap fbytes) l = some (l ++ fs)
 | [], l, k + 1, _, _, _ => by simp [rdGo]
 | f :: fs, l, k + 1, h, hl, hk => by
  have hf := h f (.head _)
  rw [List.length_cons] at hl hk
  have e := read_write f hf (fs.flatMap fbytes)
  rw [List.flatMap_cons]
  unfold rdGo
  rw [if_neg (fbytes_ne f hf _), e.1, e.2, hf]
  have h16 : ((l.length : Int) == 16) = false := by simp; omega
  rw [h16, if_neg (by simp), rdGo_write fs (l ++ [f]) k (fun x hx => h x (.tail _ hx)) (by rw [List.length_append, List.length_singleton]; omega) (by omega)]
  simp
theorem rdAll_write {fs : List Fr} (h : wrOk fs = true) : rdAll (fs.flatMap fbytes) = some fs := by
 unfold wrOk at h
 rw [Bool.and_eq_true, List.all_eq_true] at h
 have hl : fs.length ≤ 16 := by simpa using h.1
 have := rdGo_write fs [] 17 h.2 (by simpa using hl) (by omega)
 simpa [rdAll] using this
theorem rdGo_read : ∀ (k : Nat) (b : List Int) (l l' : List Fr), Bytes b → rdGo k b l = some l' → l.length ≤ 16 → ∃ fs, l' = l ++ fs ∧ b = fs.flatMap fbytes ∧ (∀ f ∈ fs, fok f = true ∧ Bytes f.data) ∧ l'.length ≤ 16
 | 0, b, l, l', _, h, _ => by cases h
 | k + 1, b, l, l', hb, h, hl => by
  unfold rdGo at h
  split at h
  ·rename_i h0
   have hb0 : b = [] := List.eq_nil_of_length_eq_zero h0
   cases h
   exact ⟨[], by simp, by simp [hb0], by simp, hl⟩
  ·split at h
   ·cases h
   ·rename_i hbad
    simp only [Bool.or_eq_true, not_or, Bool.not_eq_true, Bool.not_eq_false'] at hbad
    obtain ⟨hz, hf, h16⟩ := hbad
    have hf : fok (rdFrame (b, false)) = true := by simpa using hf
    have h16 : l.length ≠ 16 := by simp at h16; omega
    obtain ⟨fs, e1, e2, e3, e4⟩ := rdGo_read k _ _ _ (rdZ_bytes (s := (b, false)) hb) h (by rw [List.length_append, List.length_singleton]; omega)
    refine ⟨rdFrame (b, false) :: fs, by rw [e1]; simp, ?_, ?_, e4⟩
    ·rw [List.flatMap_cons, ← e2]
     exact write_read hb hz hf
    ·intro x hx
     rcases List.mem_cons.1 hx with rfl | hx
     ·exact ⟨hf, (rdT_bytes (s := (b, false)) hb).2⟩
     ·exact e3 x hx
theorem rdAll_read {b : List Int} {fs : List Fr} (hb : Bytes b) (h : rdAll b = some fs) : b = fs.flatMap fbytes ∧ wrOk fs = true ∧ ∀ f ∈ fs, Bytes f.data := by
 obtain ⟨l, e1, e2, e3, e4⟩ := rdGo_read 17 b [] fs hb h (by simp)
 rw [List.nil_append] at e1
 subst e1
 refine ⟨e2, ?_, fun f hf => (e3 f hf).2⟩
 unfold wrOk
 rw [Bool.and_eq_true, List.all_eq_true]
 exact ⟨by simpa using e4, fun f hf => (e3 f hf).1⟩
end Go.Proofs.Ythieegnhjoehbaa
/- What the laws of frames share; the law FrameJoins, walked. -/
namespace Go.Proofs.Ythieegnhjoehbaa
open Go.RowKit Go.Vc
set_option linter.unusedVariables false
abbrev At (w : World) : Addr → Value → Prop := fun p x => w.cell? p = some x
theorem at_keep {w w' : World} (k : Keep w w' []) : ∀ p x, At w p x → At w' p x := fun p x h => cell_keep h k (by simp)
/-- A row of frames of one's own whose parts lie elsewhere. -/
theorem frs_own {fs : List Fr} {css : List (List Value)} {e : Ent} {m : Mem} {base : Option Addr} {len cap : Nat} (hs : SlIs ty59 59 e base len cap css.flatten) (he : e.cells ≠ [] → e ∈ m) (hl : len = fs.length) (h1 : css.length = fs.length)
  {w : World} (h2 : ∀ (i : Nat) (f : Fr) (cs : List Value), fs[i]? = some f → css[i]? = some cs → FrC (At w) f cs) (hh : Has w m) : FrsC (At w) (.slice base len cap) fs := by
 subst hl
 exact ⟨css, h1, h2, slis_mem hs he hh⟩
theorem frc_app {C : Addr → Value → Prop} {a b : List Fr} {ca cb : List (List Value)} (ha : ca.length = a.length) (h1 : ∀ (i : Nat) (f : Fr) (cs : List Value), a[i]? = some f → ca[i]? = some cs → FrC C f cs) (h2 : ∀ (i : Nat) (f : Fr) (cs : List Value), b[i]? = some f → cb[i]? = some cs → FrC C f cs) :
  ∀ (i : Nat) (f : Fr) (cs : List Value), (a ++ b)[i]? = some f → (ca ++ cb)[i]? = some cs → FrC C f cs := by
 intro i f cs hf hc
 by_cases hi : i < a.length
 ·rw [List.getElem?_append_left hi] at hf
  rw [List.getElem?_append_left (by omega)] at hc
  exact h1 i f cs hf hc
 ·rw [List.getElem?_append_right (by omega)] at hf
  rw [List.getElem?_append_right (by omega), ha] at hc
  exact h2 _ f cs hf hc
theorem css_one {C : Addr → Value → Prop} {fs : List Fr} {css : List (List Value)} (h1 : css.length = fs.length) (h2 : ∀ (i : Nat) (f : Fr) (cs : List Value), fs[i]? = some f → css[i]? = some cs → FrC C f cs) : ∀ v ∈ css.flatten, v.oneCell' = true := by
 intro v hv
 obtain ⟨cs, hcs, hv⟩ := List.mem_flatten.1 hv
 obtain ⟨i, hi, rfl⟩ := List.getElem_of_mem hcs
 obtain ⟨rv, dv, he, ⟨_, _, hr, _⟩, ⟨_, _, hd, _⟩⟩ := h2 i _ _ (List.getElem?_eq_getElem (by omega)) (List.getElem?_eq_getElem hi)
 rw [he] at hv
 subst hr hd
 simp at hv
 rcases hv with rfl | rfl | rfl | rfl | rfl <;> rfl
theorem css_len {C : Addr → Value → Prop} {fs : List Fr} {css : List (List Value)} (h1 : css.length = fs.length) (h2 : ∀ (i : Nat) (f : Fr) (cs : List Value), fs[i]? = some f → css[i]? = some cs → FrC C f cs) : css.flatten.length = fs.length * 5 := by
 rw [flatten_len 5 css (fun c hc => by
  obtain ⟨i, hi, rfl⟩ := List.getElem_of_mem hc
  exact (h2 i _ _ (List.getElem?_eq_getElem (by omega)) (List.getElem?_eq_getElem hi)).five), h1]
theorem wrOk_in {fs : List Fr} (h : wrOk fs = true) : fs.length ≤ 16 ∧ ∀ f ∈ fs, fok f = true := by
 unfold wrOk at h
 rw [Bool.and_eq_true, List.all_eq_true] at h
 exact ⟨by simpa using h.1, h.2⟩
theorem wr_len {fs : List Fr} (h : wrOk fs = true) : (fs.flatMap fbytes).length ≤ 80000 := by
 have h1 := wrOk_in h
 have := flatB_le fs h1.2
 omega
theorem wrOk_app (a b : List Fr) : wrOk (a ++ b) = (wrOk a && (wrOk b && decide (a.length + b.length ≤ 16))) := by
 unfold wrOk
 rw [List.length_append, List.all_append]
 by_cases h : a.length + b.length ≤ 16
 ·rw [decide_eq_true h, decide_eq_true (show a.length ≤ 16 by omega), decide_eq_true (show b.length ≤ 16 by omega)]
  simp
 ·rw [decide_eq_false h]
  simp
/-- What is written, as a bool. -/
def wBs (fs : List Fr) : List Int := if wrOk fs = true then fs.flatMap fbytes else []
theorem wBs_le (fs : List Fr) : (wBs fs).length ≤ 80000 := by
 unfold wBs
 split
 ·rename_i h; exact wr_len h
 ·simp
end Go.Proofs.Ythieegnhjoehbaa
/- Write and Read, as contracts of memory that nobody writes any more. -/
namespace Go.Proofs.Ythieegnhjoehbaa
open Go.RowKit Go.Vc
set_option linter.unusedVariables false
theorem frs_cz {C : Addr → Value → Prop} {L : List FrX} {e : Ent} {base : Option Addr} {cap : Nat} (hs : SlIs ty59 59 e base L.length cap (L.flatMap FrX.cells)) (hL : ∀ x ∈ L, x.Ok)
  (hC : ∀ e' ∈ e :: ents L, ∀ j x, e'.cells[j]? = some x → C ⟨e'.blk, j, none⟩ x) : FrsC C (.slice base L.length cap) (L.map FrX.f) := by
 refine ⟨L.map FrX.cells, by simp, fun i f cs hf hc => ?_, ?_⟩
 ·rw [List.getElem?_map] at hf hc
  cases hx : L[i]? with
  | none => rw [hx] at hf; cases hf
  | some x =>
   rw [hx] at hf hc
   cases hf
   cases hc
   have hm := List.mem_of_getElem? hx
   exact ⟨_, _, rfl, slis_cz (hL x hm).rs (hC _ (.tail _ (ents_er hm))), slis_cz (hL x hm).data (hC _ (.tail _ (ents_ed hm)))⟩
 ·rw [List.length_map, ← List.flatMap_def]
  exact slis_cz hs (hC _ (.head _))
def WrR (fs : List Fr) (u : Value) (C : Addr → Value → Prop) : Prop := ∃ v, u = .tuple #[v, .int .i64 (if wrOk fs = true then 0 else 20)] ∧ SlC C 1 v (wBs fs).length (row (wBs fs))
theorem write_P (fs : List Fr) (v : Value) (w : World) {Z : Nat → Prop} (hZ : ∀ b, w.heap.size ≤ b → Z b) (hv : FrsC (At w) v fs) (hbig : ∀ f ∈ fs, f.data.length ≤ maxLen) : GivesP tb 21 [v] w Z (WrR fs) := by
 refine givesP_of_makes (write_any fs v w hv hbig) hZ ?_ ?_
 ·rintro u C C' hC ⟨v, rfl, hs⟩
  exact ⟨v, rfl, hs.mono hC⟩
 ·rintro u m' C ⟨base, len, cap, e, rfl, rfl, hs⟩ hC
  obtain rfl := sl_len8 hs
  exact ⟨_, rfl, slis_cz hs (hC e (.head _))⟩
def RdR (b : List Int) (u : Value) (C : Addr → Value → Prop) : Prop := ∃ v, u = .tuple #[v, .int .i64 (if (rdAll b).isSome = true then 0 else 20)] ∧ FrsC C v ((rdAll b).getD [])
theorem read_P (b : List Int) (v : Value) (w : World) {Z : Nat → Prop} (hZ : ∀ b, w.heap.size ≤ b → Z b) (hv : SlC (At w) 1 v b.length (row b)) (hb : Bytes b) (hle : b.length ≤ 70368744177664) : GivesP tb 39 [v] w Z (RdR b) := by
 have hs := hv.slv
 obtain ⟨base, cap, rfl, -, -, -⟩ := hv
 refine givesP_of_makes (read_any b base cap w hs hb hle) hZ ?_ ?_
 ·rintro u C C' hC ⟨v, rfl, hs⟩
  exact ⟨v, rfl, hs.mono hC⟩
 ·rintro u m' C ⟨base', cap', es, L, rfl, rfl, hL, hok, hs⟩ hC
  refine ⟨_, rfl, ?_⟩
  rw [← hL]
  exact frs_cz hs hok hC
theorem wBs_bytes {fs : List Fr} (h : ∀ f ∈ fs, Bytes f.data) : Bytes (wBs fs) := by
 unfold wBs
 split
 ·intro x hx
  obtain ⟨f, hf, hx⟩ := List.mem_flatMap.1 hx
  unfold fbytes at hx
  rcases List.mem_append.1 hx with hx | hx
  ·rcases List.mem_append.1 hx with hx | hx
   ·obtain ⟨n, _, hx⟩ := List.mem_flatMap.1 hx
    exact vb_bytes n x hx
   ·exact h f hf x hx
  ·split at hx
   ·have := List.eq_of_mem_replicate hx
    omega
   ·cases hx
 ·intro x hx; cases hx
theorem wBs_ok {fs : List Fr} (h : wrOk fs = true) : wBs fs = fs.flatMap fbytes := if_pos h
theorem wBs_no {fs : List Fr} (h : wrOk fs = false) : wBs fs = [] := if_neg (by rw [h]; decide)
/-- What is read of what was written. -/
theorem rd_wBs {fs : List Fr} (h : wrOk fs = true) : rdAll (wBs fs) = some fs := by rw [wBs_ok h]; exact rdAll_write h
theorem rdGet_in {b : List Int} (hb : Bytes b) : wrOk ((rdAll b).getD []) = true ∧ (∀ f ∈ (rdAll b).getD [], Bytes f.data) := by
 cases h : rdAll b with
 | none => exact ⟨rfl, by intro f hf; cases hf⟩
 | some fs => exact ⟨(rdAll_read hb h).2.1, (rdAll_read hb h).2.2⟩
theorem wrOk_big {fs : List Fr} (h : wrOk fs = true) : ∀ f ∈ fs, f.data.length ≤ maxLen ∧ f.rs.length ≤ 16 := fun f hf => by
 have h1 := fok_in ((wrOk_in h).2 f hf)
 exact ⟨Nat.le_trans h1.2.2.2.2.2.2.2.1 (by decide), h1.2.2.2.2.2.2.1⟩
/-- A slice of bytes, as a string. -/
theorem slc_str {C : Addr → Value → Prop} {v : Value} {l : List Int} (h : SlC C 1 v l.length (row l)) : ∃ base cap, v = .slice base l.length cap ∧ l.length ≤ cap := by
 obtain ⟨base, cap, rfl, h1, _⟩ := h
 exact ⟨base, cap, rfl, h1⟩
theorem pure_cz_string {Z : Nat → Prop} {E : Env} {rs : Rs} {m : Mem} {dst : Option Tmp} {ty : TypeId} {pos : String} {aft : Array Edge} {gd : Option (Nat × Bool)} {x : Operand} {S T eT : TypeId} {d d2 u : Ty} {v : Value} {ns : List Int}
  (hx : ev rs x = some v) (hS : tb.ty S = some d) (hd : d.desc = .slice eT) (hu : tb.ty eT = some u) (hud : u.desc = .int .u8)
  (hT : tb.ty T = some d2) (hd2 : d2.desc = .string) (hs : SlC (Cz Z E) 1 v ns.length (row ns)) : Pure tb E rs m ⟨dst, .convert S T x, ty, pos, aft, gd⟩ (.string (str ns)) :=
 pure_sl_string hx hS hd hu hud hT hd2 (fun w hh kp => (hs.mono (Cz.now kp)).slv)
end Go.Proofs.Ythieegnhjoehbaa
