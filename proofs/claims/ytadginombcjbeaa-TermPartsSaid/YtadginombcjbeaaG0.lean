/- Screens, plain: which may be, and what is done with them. -/
import Derived.Test.YtadginombcjbeaaVb
namespace Go.Proofs.Ytadginombcjbeaa
open Go.RowKit Go.Vc
set_option linter.unusedVariables false
abbrev Ce := Int × Int
def blC : Ce := (32, 0)
structure Scr where
  W : Int
  H : Int
  cells : List Ce
  X : Int
  Y : Int
  A : Int
  top : Int
  bot : Int
  wrap : Bool
  auto : Bool
  hid : Bool
  alt : Bool
  s0 : Int
  s1 : Int
  s2 : Int
  main : List Ce
def zScr : Scr := ⟨0, 0, [], 0, 0, 0, 0, 0, false, false, false, false, 0, 0, 0, []⟩
def clampI (n lo hi : Int) : Int := min (max n lo) hi
def okCell (c : Ce) : Bool := decide (32 ≤ c.1 ∧ c.1 ≤ 1114111 ∧ 0 ≤ c.2 ∧ c.2 ≤ 2047)
def okCells (l : List Ce) (n : Int) : Bool := decide ((l.length : Int) = n) && l.all okCell
structure ScOk (s : Scr) : Prop where
  w : 1 ≤ s.W ∧ s.W ≤ 64
  h : 1 ≤ s.H ∧ s.H ≤ 64
  cells : okCells s.cells (s.W * s.H) = true
  main : okCells s.main (if s.alt = true then s.W * s.H else 0) = true
  x : 0 ≤ s.X ∧ s.X < s.W
  y : 0 ≤ s.Y ∧ s.Y < s.H
  a : 0 ≤ s.A ∧ s.A ≤ 2047
  rows : 0 ≤ s.top ∧ s.top ≤ s.bot ∧ s.bot < s.H
  s0 : 0 ≤ s.s0 ∧ s.s0 < 64
  s1 : 0 ≤ s.s1 ∧ s.s1 < 64
  s2 : 0 ≤ s.s2 ∧ s.s2 ≤ 2047
def scOk (s : Scr) : Bool := decide (1 ≤ s.W ∧ s.W ≤ 64 ∧ 1 ≤ s.H ∧ s.H ≤ 64) && (okCells s.cells (s.W * s.H) && (okCells s.main (if s.alt = true then s.W * s.H else 0) &&
  decide ((0 ≤ s.X ∧ s.X < s.W) ∧ (0 ≤ s.Y ∧ s.Y < s.H) ∧ (0 ≤ s.A ∧ s.A ≤ 2047) ∧ (0 ≤ s.top ∧ s.top ≤ s.bot ∧ s.bot < s.H) ∧ (0 ≤ s.s0 ∧ s.s0 < 64) ∧ (0 ≤ s.s1 ∧ s.s1 < 64) ∧ (0 ≤ s.s2 ∧ s.s2 ≤ 2047))))
theorem scOk_iff (s : Scr) : scOk s = true ↔ ScOk s := by
  unfold scOk
  simp only [Bool.and_eq_true, decide_eq_true_eq]
  constructor
  · rintro ⟨h1, h2, h3, h4, h5, h6, h7, h8, h9, h10⟩
    exact ⟨⟨h1.1, h1.2.1⟩, ⟨h1.2.2.1, h1.2.2.2⟩, h2, h3, h4, h5, h6, h7, h8, h9, h10⟩
  · rintro ⟨h1, h2, h3, h4, h5, h6, h7, h8, h9, h10, h11⟩
    exact ⟨⟨h1.1, h1.2, h2.1, h2.2⟩, h3, h4, h5, h6, h7, h8, h9, h10, h11⟩
/-! places moved -/
def moveL (l : List Ce) (n : Int) : List Ce :=
  if 0 ≤ n then l.drop n.toNat ++ List.replicate (min n.toNat l.length) blC else List.replicate (min (-n).toNat l.length) blC ++ l.take (l.length - (-n).toNat)
theorem moveL_len (l : List Ce) (n : Int) : (moveL l n).length = l.length := by
  unfold moveL
  split <;> (simp only [List.length_append, List.length_drop, List.length_replicate, List.length_take]; omega)
theorem getD_replicate (n i : Nat) (c : Ce) : (List.replicate n c).getD i c = c := by
  rw [List.getD_eq_getElem?_getD, List.getElem?_replicate]
  split <;> rfl
theorem moveL_get (l : List Ce) (n : Int) (i : Nat) (h : i < l.length) : (moveL l n).getD i blC = if 0 ≤ (i : Int) + n ∧ (i : Int) + n < l.length then l.getD ((i : Int) + n).toNat blC else blC := by
  unfold moveL
  split
  · rename_i hn
    obtain ⟨k, rfl⟩ : ∃ k : Nat, n = k := ⟨n.toNat, by omega⟩
    rw [Int.toNat_natCast]
    by_cases hik : i + k < l.length
    · rw [if_pos (by omega), show ((i : Int) + (k : Int)).toNat = k + i by omega, List.getD_eq_getElem?_getD, List.getElem?_append_left (by rw [List.length_drop]; omega), List.getElem?_drop, List.getD_eq_getElem?_getD]
    · rw [if_neg (by omega), List.getD_eq_getElem?_getD, List.getElem?_append_right (by rw [List.length_drop]; omega), ← List.getD_eq_getElem?_getD]
      exact getD_replicate ..
  · rename_i hn
    obtain ⟨k, rfl⟩ : ∃ k : Nat, n = -(k : Int) := ⟨(-n).toNat, by omega⟩
    rw [show (-(-(k : Int))).toNat = k by omega]
    by_cases hik : i < k
    · rw [if_neg (by omega), List.getD_eq_getElem?_getD, List.getElem?_append_left (by rw [List.length_replicate]; omega), ← List.getD_eq_getElem?_getD]
      exact getD_replicate ..
    · rw [if_pos (by omega), show ((i : Int) + -(k : Int)).toNat = i - k by omega, List.getD_eq_getElem?_getD, List.getElem?_append_right (by rw [List.length_replicate]; omega), List.length_replicate, List.getElem?_take, if_pos (by omega), List.getD_eq_getElem?_getD, show i - min k l.length = i - k by omega]
theorem ext_getD {a b : List Ce} (hl : a.length = b.length) (h : ∀ i, i < a.length → a.getD i blC = b.getD i blC) : a = b := by
  refine List.ext_getElem hl fun i h1 h2 => ?_
  have := h i h1
  rw [List.getD_eq_getElem?_getD, List.getD_eq_getElem?_getD, List.getElem?_eq_getElem h1, List.getElem?_eq_getElem h2] at this
  exact this
theorem splice_getD (l x : List Ce) (o i : Nat) (h : o + x.length ≤ l.length) : (splice l o x).getD i blC = if o ≤ i ∧ i < o + x.length then x.getD (i - o) blC else l.getD i blC := by
  have h1 : (l.take o).length = o := by rw [List.length_take]; omega
  unfold splice
  rw [List.getD_eq_getElem?_getD, List.append_assoc]
  by_cases h2 : i < o
  · rw [if_neg (by omega), List.getElem?_append_left (by omega), List.getElem?_take, if_pos h2, List.getD_eq_getElem?_getD]
  · rw [List.getElem?_append_right (by omega), h1]
    by_cases h3 : i < o + x.length
    · rw [if_pos ⟨by omega, h3⟩, List.getElem?_append_left (by omega), List.getD_eq_getElem?_getD]
    · rw [if_neg (by omega), List.getElem?_append_right (by omega), List.getElem?_drop, List.getD_eq_getElem?_getD, show o + x.length + (i - o - x.length) = i by omega]
theorem sub_get (l : List Ce) (o n i : Nat) (h : i < n) : ((l.drop o).take n).getD i blC = l.getD (o + i) blC := by
  rw [List.getD_eq_getElem?_getD, List.getElem?_take, if_pos h, List.getElem?_drop, List.getD_eq_getElem?_getD]
/-- Rows a to b moved up. -/
def scrollL (l : List Ce) (W : Nat) (a b : Nat) (n : Int) : List Ce := splice l (a * W) (moveL ((l.drop (a * W)).take ((b + 1 - a) * W)) n)
/-- .. and what is done with a screen. -/
def scrollF (s : Scr) (a b n : Int) : Scr := { s with cells := scrollL s.cells s.W.toNat a.toNat b.toNat (s.W * clampI n (-s.H) s.H) }
def downF (s : Scr) : Scr := if s.Y = s.bot then { scrollF s s.top s.bot 1 with wrap := false } else if s.Y < s.H - 1 then { s with Y := s.Y + 1, wrap := false } else { s with wrap := false }
def upF (s : Scr) : Scr := if s.Y = s.top then { scrollF s s.top s.bot (-1) with wrap := false } else if s.Y > 0 then { s with Y := s.Y - 1, wrap := false } else { s with wrap := false }
def moveF (x y : Int) (s : Scr) : Scr := { s with X := clampI x 0 (s.W - 1), Y := clampI y 0 (s.H - 1), wrap := false }
def setF (n : Int) (s : Scr) : Scr := { s with cells := s.cells.set (s.Y * s.W + s.X).toNat (n, s.A), wrap := decide (s.X = s.W - 1) && s.auto, X := if s.X < s.W - 1 then s.X + 1 else s.X }
def putN (n : Int) : Int := if 32 ≤ n ∧ n ≤ 1114111 then n else 65533
def putF (n : Int) (s : Scr) : Scr := setF (putN n) (if (s.wrap && s.auto) = true then downF { s with X := 0 } else s)
def linesF (n : Int) (s : Scr) : Scr := if s.top ≤ s.Y ∧ s.Y ≤ s.bot then scrollF s s.Y s.bot (-clampI n (-s.H) s.H) else s
def charsF (n : Int) (s : Scr) : Scr := { s with cells := splice s.cells (s.Y * s.W + s.X).toNat (moveL ((s.cells.drop (s.Y * s.W + s.X).toNat).take (s.W - s.X).toNat) (-clampI n (-s.W) s.W)) }
def eraseL (l : List Ce) (f t : Int) : List Ce := splice l (clampI f 0 l.length).toNat (List.replicate ((max (clampI f 0 l.length) (clampI t 0 l.length)).toNat - (clampI f 0 l.length).toNat) blC)
def eraseF (f t : Int) (s : Scr) : Scr := { s with cells := eraseL s.cells f t }
def sizedL (l : List Ce) (was had w h : Nat) : List Ce := (List.range (w * h)).map fun i => if i % w < was ∧ i / w < had then l.getD (i / w * was + i % w) blC else blC
def side (n : Int) : Bool := decide (1 ≤ n ∧ n ≤ 64)
def resizeF (w h : Int) (s : Scr) : Scr := if (side w && side h) = true then
  { s with cells := sizedL s.cells s.W.toNat s.H.toNat w.toNat h.toNat, main := if s.alt = true then sizedL s.main s.W.toNat s.H.toNat w.toNat h.toNat else s.main,
           W := w, H := h, X := min s.X (w - 1), Y := min s.Y (h - 1), top := 0, bot := h - 1, wrap := false } else s
def doF (f : Scr → Scr) (s : Scr) : Scr := if scOk s = true then f s else zScr
def newS (w h : Int) : Scr := if (side w && side h) = true then ⟨w, h, List.replicate (w * h).toNat blC, 0, 0, 0, 0, h - 1, false, true, false, false, 0, 0, 0, []⟩ else zScr
theorem clampI_in (n : Int) {lo hi : Int} (h : lo ≤ hi) : lo ≤ clampI n lo hi ∧ clampI n lo hi ≤ hi := by unfold clampI; omega
theorem okCells_len {l : List Ce} {n : Int} (h : okCells l n = true) : (l.length : Int) = n := by
  unfold okCells at h
  simp only [Bool.and_eq_true, decide_eq_true_eq] at h
  exact h.1
theorem okCells_of {l : List Ce} {n : Int} (h1 : (l.length : Int) = n) (h2 : ∀ c ∈ l, okCell c = true) : okCells l n = true := by
  unfold okCells
  rw [Bool.and_eq_true, List.all_eq_true, decide_eq_true_eq]
  exact ⟨h1, h2⟩
theorem okCells_all {l : List Ce} {n : Int} (h : okCells l n = true) : ∀ c ∈ l, okCell c = true := by
  unfold okCells at h
  rw [Bool.and_eq_true, List.all_eq_true] at h
  exact h.2
theorem blC_ok : okCell blC = true := by decide
theorem mem_moveL {l : List Ce} {n : Int} {c : Ce} (h : c ∈ moveL l n) : c ∈ l ∨ c = blC := by
  unfold moveL at h
  split at h
  · rcases List.mem_append.1 h with h | h
    · exact .inl (List.mem_of_mem_drop h)
    · exact .inr (List.eq_of_mem_replicate h)
  · rcases List.mem_append.1 h with h | h
    · exact .inr (List.eq_of_mem_replicate h)
    · exact .inl (List.mem_of_mem_take h)
theorem mem_splice {l x : List Ce} {o : Nat} {c : Ce} (h : c ∈ splice l o x) : c ∈ l ∨ c ∈ x := by
  unfold splice at h
  rcases List.mem_append.1 h with h | h
  · rcases List.mem_append.1 h with h | h
    · exact .inl (List.mem_of_mem_take h)
    · exact .inr h
  · exact .inl (List.mem_of_mem_drop h)
theorem wh_nat {s : Scr} (h : ScOk s) : ∃ w q : Nat, s.W = w ∧ s.H = q ∧ 1 ≤ w ∧ w ≤ 64 ∧ 1 ≤ q ∧ q ≤ 64 ∧ s.cells.length = w * q ∧ w * q ≤ 4096 := by
  obtain ⟨h1, h2⟩ := h.w
  obtain ⟨h3, h4⟩ := h.h
  have h5 := okCells_len h.cells
  obtain ⟨w, hw⟩ : ∃ w : Nat, s.W = w := ⟨s.W.toNat, by omega⟩
  obtain ⟨q, hq⟩ : ∃ q : Nat, s.H = q := ⟨s.H.toNat, by omega⟩
  rw [hw, hq] at h5
  refine ⟨w, q, hw, hq, by omega, by omega, by omega, by omega, ?_, ?_⟩
  · have : ((w : Int) * (q : Int)) = ((w * q : Nat) : Int) := (Int.natCast_mul ..).symm
    omega
  · exact Nat.mul_le_mul (show w ≤ 64 by omega) (show q ≤ 64 by omega)
/-- Rows a to b lie within. -/
theorem rows_in {w q a b : Nat} (hab : a ≤ b) (hb : b < q) : a * w + (b + 1 - a) * w ≤ w * q := by
  rw [← Nat.add_mul, show a + (b + 1 - a) = b + 1 by omega, Nat.mul_comm w q]
  exact Nat.mul_le_mul_right w hb
theorem scrollL_len {l : List Ce} {w q a b : Nat} {n : Int} (hl : l.length = w * q) (hab : a ≤ b) (hb : b < q) : (scrollL l w a b n).length = l.length := by
  have := rows_in (w := w) hab hb
  unfold scrollL
  rw [splice_len (by rw [moveL_len, List.length_take, List.length_drop]; omega)]
theorem scrollF_ok {s : Scr} {a b n : Int} (h : ScOk s) (h0 : 0 ≤ a) (hab : a ≤ b) (hb : b < s.H) : ScOk (scrollF s a b n) := by
  obtain ⟨w, q, hw, hq, hw1, hw2, hq1, hq2, hl, hle⟩ := wh_nat h
  have hc := okCells_all h.cells
  have hlen := scrollL_len (l := s.cells) (w := w) (q := q) (a := a.toNat) (b := b.toNat) (n := s.W * clampI n (-s.H) s.H) hl (by omega) (by omega)
  refine ⟨h.w, h.h, okCells_of ?_ ?_, h.main, h.x, h.y, h.a, h.rows, h.s0, h.s1, h.s2⟩
  · show ((scrollL s.cells s.W.toNat a.toNat b.toNat _).length : Int) = s.W * s.H
    rw [show s.W.toNat = w by omega, hlen]
    exact okCells_len h.cells
  · intro c hcm
    have hcm : c ∈ scrollL s.cells s.W.toNat a.toNat b.toNat (s.W * clampI n (-s.H) s.H) := hcm
    unfold scrollL at hcm
    rcases mem_splice hcm with h1 | h1
    · exact hc c h1
    · rcases mem_moveL h1 with h2 | rfl
      · exact hc c (List.mem_of_mem_drop (List.mem_of_mem_take h2))
      · exact blC_ok
theorem wrap_ok {s : Scr} (h : ScOk s) (b : Bool) : ScOk { s with wrap := b } := ⟨h.w, h.h, h.cells, h.main, h.x, h.y, h.a, h.rows, h.s0, h.s1, h.s2⟩
theorem downF_ok {s : Scr} (h : ScOk s) : ScOk (downF s) := by
  unfold downF
  have hr := h.rows
  split
  · exact wrap_ok (scrollF_ok h hr.1 hr.2.1 hr.2.2) false
  · split
    · exact ⟨h.w, h.h, h.cells, h.main, h.x, by have := h.y; constructor <;> (show _ ; dsimp only; omega), h.a, h.rows, h.s0, h.s1, h.s2⟩
    · exact wrap_ok h false
theorem upF_ok {s : Scr} (h : ScOk s) : ScOk (upF s) := by
  unfold upF
  have hr := h.rows
  split
  · exact wrap_ok (scrollF_ok h hr.1 hr.2.1 hr.2.2) false
  · split
    · exact ⟨h.w, h.h, h.cells, h.main, h.x, by have := h.y; constructor <;> (show _ ; dsimp only; omega), h.a, h.rows, h.s0, h.s1, h.s2⟩
    · exact wrap_ok h false
theorem moveF_ok {s : Scr} (h : ScOk s) (x y : Int) : ScOk (moveF x y s) := by
  have h1 := h.w
  have h2 := h.h
  have h3 := clampI_in x (lo := 0) (hi := s.W - 1) (by omega)
  have h4 := clampI_in y (lo := 0) (hi := s.H - 1) (by omega)
  exact ⟨h.w, h.h, h.cells, h.main, ⟨h3.1, by show clampI x 0 (s.W - 1) < s.W; omega⟩, ⟨h4.1, by show clampI y 0 (s.H - 1) < s.H; omega⟩, h.a, h.rows, h.s0, h.s1, h.s2⟩
theorem setF_ok {s : Scr} (h : ScOk s) {n : Int} (hn : 32 ≤ n ∧ n ≤ 1114111) : ScOk (setF n s) := by
  have hx := h.x
  refine ⟨h.w, h.h, okCells_of ?_ ?_, h.main, ?_, h.y, h.a, h.rows, h.s0, h.s1, h.s2⟩
  · show ((s.cells.set _ _).length : Int) = s.W * s.H
    rw [List.length_set]
    exact okCells_len h.cells
  · intro c hc
    rcases List.mem_or_eq_of_mem_set hc with h1 | rfl
    · exact okCells_all h.cells c h1
    · have := h.a
      exact decide_eq_true ⟨hn.1, hn.2, this.1, this.2⟩
  · show 0 ≤ (if s.X < s.W - 1 then s.X + 1 else s.X) ∧ (if s.X < s.W - 1 then s.X + 1 else s.X) < s.W
    split <;> omega
theorem putN_in (n : Int) : 32 ≤ putN n ∧ putN n ≤ 1114111 := by unfold putN; split <;> omega
theorem x0_ok {s : Scr} (h : ScOk s) : ScOk { s with X := 0 } := by
  have := h.w
  exact ⟨h.w, h.h, h.cells, h.main, ⟨Int.le_refl 0, by show (0 : Int) < s.W; omega⟩, h.y, h.a, h.rows, h.s0, h.s1, h.s2⟩
theorem putF_ok {s : Scr} (h : ScOk s) (n : Int) : ScOk (putF n s) := by
  unfold putF
  refine setF_ok ?_ (putN_in n)
  split
  · exact downF_ok (x0_ok h)
  · exact h
theorem linesF_ok {s : Scr} (h : ScOk s) (n : Int) : ScOk (linesF n s) := by
  unfold linesF
  split
  · rename_i h1
    exact scrollF_ok h h.y.1 h1.2 h.rows.2.2
  · exact h
theorem place_in {s : Scr} (h : ScOk s) : (s.Y * s.W + s.X).toNat + (s.W - s.X).toNat ≤ s.cells.length ∧ 0 ≤ s.Y * s.W + s.X := by
  obtain ⟨w, q, hw, hq, hw1, hw2, hq1, hq2, hl, hle⟩ := wh_nat h
  have hx := h.x
  have hy := h.y
  obtain ⟨y, hyy⟩ : ∃ y : Nat, s.Y = y := ⟨s.Y.toNat, by omega⟩
  have h1 : s.Y * s.W = ((y * w : Nat) : Int) := by rw [hyy, hw]; exact (Int.natCast_mul ..).symm
  have h2 : (y + 1) * w ≤ w * q := by rw [Nat.mul_comm w q]; exact Nat.mul_le_mul_right w (by omega)
  rw [Nat.add_mul] at h2
  rw [h1, hl]
  omega
theorem charsF_ok {s : Scr} (h : ScOk s) (n : Int) : ScOk (charsF n s) := by
  have hp := place_in h
  refine ⟨h.w, h.h, okCells_of ?_ ?_, h.main, h.x, h.y, h.a, h.rows, h.s0, h.s1, h.s2⟩
  · show ((splice s.cells _ _).length : Int) = s.W * s.H
    rw [splice_len (by rw [moveL_len, List.length_take, List.length_drop]; omega)]
    exact okCells_len h.cells
  · intro c hc
    rcases mem_splice hc with h1 | h1
    · exact okCells_all h.cells c h1
    · rcases mem_moveL h1 with h2 | rfl
      · exact okCells_all h.cells c (List.mem_of_mem_drop (List.mem_of_mem_take h2))
      · exact blC_ok
theorem eraseL_len (l : List Ce) (f t : Int) : (eraseL l f t).length = l.length := by
  have h1 := clampI_in f (lo := 0) (hi := l.length) (by omega)
  have h2 := clampI_in t (lo := 0) (hi := l.length) (by omega)
  unfold eraseL
  rw [splice_len (by rw [List.length_replicate]; omega)]
theorem eraseF_ok {s : Scr} (h : ScOk s) (f t : Int) : ScOk (eraseF f t s) := by
  refine ⟨h.w, h.h, okCells_of ?_ ?_, h.main, h.x, h.y, h.a, h.rows, h.s0, h.s1, h.s2⟩
  · show ((eraseL s.cells f t).length : Int) = s.W * s.H
    rw [eraseL_len]
    exact okCells_len h.cells
  · intro c hc
    have hc : c ∈ eraseL s.cells f t := hc
    unfold eraseL at hc
    rcases mem_splice hc with h1 | h1
    · exact okCells_all h.cells c h1
    · rw [List.eq_of_mem_replicate h1]
      exact blC_ok
theorem getD_ok {l : List Ce} (h : ∀ c ∈ l, okCell c = true) (i : Nat) : okCell (l.getD i blC) = true := by
  rw [List.getD_eq_getElem?_getD]
  cases hx : l[i]? with
  | none => exact blC_ok
  | some c => exact h c (List.mem_of_getElem? hx)
theorem sizedL_len (l : List Ce) (a b w h : Nat) : (sizedL l a b w h).length = w * h := by unfold sizedL; rw [List.length_map, List.length_range]
theorem sizedL_ok {l : List Ce} (hl : ∀ c ∈ l, okCell c = true) (a b w h : Nat) : ∀ c ∈ sizedL l a b w h, okCell c = true := by
  intro c hc
  obtain ⟨i, _, rfl⟩ := List.mem_map.1 hc
  split
  · exact getD_ok hl _
  · exact blC_ok
theorem side_in {n : Int} (h : side n = true) : 1 ≤ n ∧ n ≤ 64 := of_decide_eq_true h
theorem natMul {w h : Int} (h1 : 0 ≤ w) (h2 : 0 ≤ h) : ((w.toNat * h.toNat : Nat) : Int) = w * h := by
  rw [Int.natCast_mul]
  rw [show (w.toNat : Int) = w by omega, show (h.toNat : Int) = h by omega]
theorem resizeF_ok {s : Scr} (h : ScOk s) (w q : Int) : ScOk (resizeF w q s) := by
  unfold resizeF
  split
  · rename_i hs
    rw [Bool.and_eq_true] at hs
    have h1 := side_in hs.1
    have h2 := side_in hs.2
    have hx := h.x
    have hy := h.y
    have hm := natMul (w := w) (h := q) (by omega) (by omega)
    refine ⟨h1, h2, okCells_of (by show ((sizedL s.cells _ _ _ _).length : Int) = w * q; rw [sizedL_len, hm]) (sizedL_ok (okCells_all h.cells) _ _ _ _), ?_, ?_, ?_, h.a, ?_, h.s0, h.s1, h.s2⟩
    · show okCells (if s.alt = true then sizedL s.main s.W.toNat s.H.toNat w.toNat q.toNat else s.main) (if s.alt = true then w * q else 0) = true
      have := h.main
      split
      · exact okCells_of (by rw [sizedL_len, hm]) (sizedL_ok (okCells_all h.main) _ _ _ _)
      · rename_i ha
        rw [if_neg ha] at this
        exact this
    · show 0 ≤ min s.X (w - 1) ∧ min s.X (w - 1) < w
      omega
    · show 0 ≤ min s.Y (q - 1) ∧ min s.Y (q - 1) < q
      omega
    · show (0 : Int) ≤ 0 ∧ 0 ≤ q - 1 ∧ q - 1 < q
      omega
  · exact h
theorem newS_ok {w h : Int} (hw : side w = true) (hh : side h = true) : ScOk (newS w h) := by
  unfold newS
  rw [hw, hh]
  have h1 := side_in hw
  have h2 := side_in hh
  have h3 := natMul (w := w) (h := h) (by omega) (by omega)
  have h4 : (0 : Int) ≤ w * h := Int.mul_nonneg (by omega) (by omega)
  refine ⟨h1, h2, okCells_of ?_ ?_, rfl, ?_, ?_, ?_, ?_, ?_, ?_, ?_⟩
  · show ((List.replicate (w * h).toNat blC).length : Int) = w * h
    rw [List.length_replicate]
    omega
  · intro c hc
    rw [List.eq_of_mem_replicate hc]
    exact blC_ok
  · show (0 : Int) ≤ 0 ∧ 0 < w; omega
  · show (0 : Int) ≤ 0 ∧ 0 < h; omega
  · show (0 : Int) ≤ 0 ∧ (0 : Int) ≤ 2047; omega
  · show (0 : Int) ≤ 0 ∧ 0 ≤ h - 1 ∧ h - 1 < h; omega
  · show (0 : Int) ≤ 0 ∧ (0 : Int) < 64; omega
  · show (0 : Int) ≤ 0 ∧ (0 : Int) < 64; omega
  · show (0 : Int) ≤ 0 ∧ (0 : Int) ≤ 2047; omega
theorem zScr_no : scOk zScr = false := by decide
end Go.Proofs.Ytadginombcjbeaa
