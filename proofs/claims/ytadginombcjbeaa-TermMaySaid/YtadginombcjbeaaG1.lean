/- Screens, plain: rows moved up and down again; sides that grow and shrink again; a text that is written. -/
import Derived.Test.YtadginombcjbeaaG0
namespace Go.Proofs.Ytadginombcjbeaa
open Go.RowKit Go.Vc
set_option linter.unusedVariables false
/-! up and down again -/
theorem scrollL_get {l : List Ce} {w q a b : Nat} {n : Int} (hl : l.length = w * q) (hab : a ≤ b) (hb : b < q) (i : Nat) (hi : i < l.length) :
  (scrollL l w a b n).getD i blC = if a * w ≤ i ∧ i < (b + 1) * w then (if (a * w : Nat) ≤ (i : Int) + n ∧ (i : Int) + n < ((b + 1) * w : Nat) then l.getD ((i : Int) + n).toNat blC else blC) else l.getD i blC := by
 have hin := rows_in (w := w) hab hb
 have hbm : a * w + (b + 1 - a) * w = (b + 1) * w := by rw [← Nat.add_mul, show a + (b + 1 - a) = b + 1 by omega]
 have hsl : ((l.drop (a * w)).take ((b + 1 - a) * w)).length = (b + 1 - a) * w := by rw [List.length_take, List.length_drop]; omega
 unfold scrollL
 rw [splice_getD _ _ _ _ (by rw [moveL_len, hsl]; omega), moveL_len, hsl, hbm]
 generalize (b + 1 - a) * w = m at *
 generalize a * w = o at *
 generalize (b + 1) * w = e at *
 split
 ·rename_i h1
  rw [moveL_get _ _ _ (by rw [hsl]; omega), hsl]
  by_cases h2 : (o : Int) ≤ (i : Int) + n ∧ (i : Int) + n < e
  ·rw [if_pos (by omega), if_pos h2, sub_get _ _ _ _ (by omega), show o + (((i - o : Nat) : Int) + n).toNat = ((i : Int) + n).toNat by omega]
  ·rw [if_neg (by omega), if_neg h2]
 ·rfl
theorem scroll_back {l : List Ce} {w q a b k : Nat} (hl : l.length = w * q) (hab : a ≤ b) (hb : b < q) (hk : k ≤ b - a) (i : Nat) (hi : i < l.length) :
  (scrollL (scrollL l w a b ((w * k : Nat) : Int)) w a b (-((w * k : Nat) : Int))).getD i blC = if a ≤ i / w ∧ i / w < a + k then blC else l.getD i blC := by
 have hw : 0 < w := by
  rcases Nat.eq_zero_or_pos w with h | h
  ·rw [h, Nat.zero_mul] at hl; omega
  ·exact h
 have hl2 := scrollL_len (l := l) (n := ((w * k : Nat) : Int)) hl hab hb
 have h1 : a ≤ i / w ↔ a * w ≤ i := Nat.le_div_iff_mul_le hw
 have h2 : i / w < a + k ↔ i < (a + k) * w := Nat.div_lt_iff_lt_mul hw
 have hm : (a + k) * w ≤ (b + 1) * w := Nat.mul_le_mul_right w (by omega)
 rw [Nat.add_mul, Nat.mul_comm k w] at h2 hm
 rw [scrollL_get (by rw [hl2]; exact hl) hab hb i (by omega)]
 have hg := fun j hj => scrollL_get (n := ((w * k : Nat) : Int)) hl hab hb j hj
 have hin := rows_in (w := w) hab hb
 have hbm : a * w + (b + 1 - a) * w = (b + 1) * w := by rw [← Nat.add_mul, show a + (b + 1 - a) = b + 1 by omega]
 rw [hbm] at hin
 by_cases h3 : a * w ≤ i ∧ i < (b + 1) * w
 ·rw [if_pos h3]
  by_cases h4 : i < a * w + w * k
  ·rw [if_neg (by omega), if_pos (by rw [h1, h2]; omega)]
  ·rw [if_pos (by omega), if_neg (by rw [h1, h2]; omega), hg _ (by omega), if_pos (by omega), if_pos (by omega), show ((((i : Int) + -((w * k : Nat) : Int)).toNat : Nat) + ((w * k : Nat) : Int)).toNat = i by omega]
 ·rw [if_neg h3, hg i hi, if_neg h3, if_neg (by rw [h1, h2]; omega)]
/-! sides that grow and shrink again -/
theorem sizedL_get (l : List Ce) (was had w h i : Nat) (hi : i < w * h) : (sizedL l was had w h).getD i blC = if i % w < was ∧ i / w < had then l.getD (i / w * was + i % w) blC else blC := by
 unfold sizedL
 rw [List.getD_eq_getElem?_getD, List.getElem?_map, List.getElem?_range hi]
 rfl
theorem sized_back {l : List Ce} {w h u v : Nat} (hl : l.length = w * h) (hu : w ≤ u) (hv : h ≤ v) (hw : 0 < w) : sizedL (sizedL l w h u v) u v w h = l := by
 refine ext_getD (by rw [sizedL_len, hl]) fun i hi => ?_
 rw [sizedL_len] at hi
 have h1 : i / w < h := by rw [Nat.div_lt_iff_lt_mul hw, Nat.mul_comm]; exact hi
 have h2 : i % w < w := Nat.mod_lt _ hw
 rw [sizedL_get _ _ _ _ _ _ hi, if_pos ⟨by omega, by omega⟩]
 have h3 : i / w * u + i % w < u * v := by
  have h4 : (i / w + 1) * u ≤ v * u := Nat.mul_le_mul_right u (by omega)
  rw [Nat.add_mul, Nat.mul_comm v u] at h4
  omega
 have h5 : (i / w * u + i % w) % u = i % w := by
  rw [Nat.mul_comm, Nat.mul_add_mod]
  exact Nat.mod_eq_of_lt (by omega)
 have h6 : (i / w * u + i % w) / u = i / w := by
  rw [Nat.mul_comm, Nat.mul_add_div (by omega), Nat.div_eq_of_lt (show i % w < u by omega), Nat.add_zero]
 rw [sizedL_get _ _ _ _ _ _ h3, h5, h6, if_pos ⟨h2, h1⟩]
 congr 1
 rw [Nat.mul_comm]
 exact Nat.div_add_mod i w
/-! a text that is written -/
def txC (l : List Int) (j : Nat) : Ce := (33 + l.getD j 0, 0)
def wrGone (a b n : Nat) : Nat := (max ((n + a - 1) / a) 1 - b) * a
def wrCells (a b : Nat) (l : List Int) (n : Nat) : List Ce := (List.range (a * b)).map fun i => if wrGone a b n + i < n then txC l (wrGone a b n + i) else blC
def wrS (a b : Nat) (l : List Int) (n : Nat) : Scr := ⟨a, b, wrCells a b l n, if n = 0 then 0 else if n % a = 0 then (a : Int) - 1 else ((n % a : Nat) : Int), ((min (max ((n + a - 1) / a) 1) b : Nat) : Int) - 1, 0, 0, (b : Int) - 1, decide (n ≠ 0 ∧ n % a = 0), true, false, false, 0, 0, 0, []⟩
theorem wrCells_len (a b : Nat) (l : List Int) (n : Nat) : (wrCells a b l n).length = a * b := by unfold wrCells; rw [List.length_map, List.length_range]
theorem wrCells_get (a b : Nat) (l : List Int) (n i : Nat) (h : i < a * b) : (wrCells a b l n).getD i blC = if wrGone a b n + i < n then txC l (wrGone a b n + i) else blC := by
 unfold wrCells
 rw [List.getD_eq_getElem?_getD, List.getElem?_map, List.getElem?_range h]
 rfl
theorem wrS_zero (a b : Nat) (l : List Int) (ha : 1 ≤ a ∧ a ≤ 64) (hb : 1 ≤ b ∧ b ≤ 64) : newS a b = wrS a b l 0 := by
 have h1 : side (a : Int) = true := decide_eq_true (by omega)
 have h2 : side (b : Int) = true := decide_eq_true (by omega)
 have h3 : (0 + a - 1) / a = 0 := Nat.div_eq_of_lt (by omega)
 unfold newS wrS
 rw [h1, h2]
 have hc : List.replicate ((a : Int) * (b : Int)).toNat blC = wrCells a b l 0 := by
  have h4 : ((a : Int) * (b : Int)).toNat = a * b := by rw [← Int.natCast_mul, Int.toNat_natCast]
  rw [h4]
  refine ext_getD (by rw [List.length_replicate, wrCells_len]) fun i hi => ?_
  rw [List.length_replicate] at hi
  rw [getD_replicate, wrCells_get _ _ _ _ _ hi, if_neg (by omega)]
 rw [hc, h3]
 simp only [Bool.and_self, if_true]
 congr 1
 rw [show min (max 0 1) b = 1 by omega]
 rfl
/-- What stands where, behind one more. -/
theorem wr_set {a b n Y x : Nat} {l : List Int} {cs : List Ce} (hlen : cs.length = a * b) (hi : Y * a + x < a * b) (hg : wrGone a b (n + 1) + (Y * a + x) = n)
  (hc : ∀ i, i < a * b → cs.getD i blC = if wrGone a b (n + 1) + i < n then txC l (wrGone a b (n + 1) + i) else blC) : cs.set (Y * a + x) (txC l n) = wrCells a b l (n + 1) := by
 refine ext_getD (by rw [List.length_set, wrCells_len, hlen]) fun i hil => ?_
 rw [List.length_set, hlen] at hil
 rw [wrCells_get _ _ _ _ _ hil, List.getD_eq_getElem?_getD]
 by_cases h : Y * a + x = i
 ·subst h
  rw [List.getElem?_set_self (by rw [hlen]; exact hi), hg, if_pos (by omega)]
  rfl
 ·rw [List.getElem?_set_ne h, ← List.getD_eq_getElem?_getD, hc i hil]
  by_cases h2 : wrGone a b (n + 1) + i < n
  ·rw [if_pos h2, if_pos (by omega)]
  ·rw [if_neg h2, if_neg (by omega)]
theorem setF_wr {a b n Y x : Nat} {l : List Int} {s : Scr} (ha : 1 ≤ a) (hb : 1 ≤ b) (hW : s.W = a) (hX : s.X = x) (hY : s.Y = Y) (hx : x < a) (hYb : Y < b) (hlen : s.cells.length = a * b) (hg : wrGone a b (n + 1) + (Y * a + x) = n) (hn : n % a = x)
  (hYn : (Y : Int) = ((min (max ((n + 1 + a - 1) / a) 1) b : Nat) : Int) - 1)
  (hc : ∀ i, i < a * b → s.cells.getD i blC = if wrGone a b (n + 1) + i < n then txC l (wrGone a b (n + 1) + i) else blC)
  (hs : s = ⟨a, b, s.cells, x, Y, 0, 0, (b : Int) - 1, s.wrap, true, false, false, 0, 0, 0, []⟩) : setF (33 + l.getD n 0) s = wrS a b l (n + 1) := by
 have hi : Y * a + x < a * b := by
  have : (Y + 1) * a ≤ b * a := Nat.mul_le_mul_right a (by omega)
  rw [Nat.add_mul, Nat.mul_comm b a] at this
  omega
 have hset := wr_set hlen hi hg hc
 have hidx : ((Y : Int) * (a : Int) + (x : Int)).toNat = Y * a + x := by rw [← Int.natCast_mul]; omega
 rw [hs]
 unfold setF wrS
 simp only
 rw [hidx, show ((33 + l.getD n 0, 0) : Ce) = txC l n from rfl, hset, ← hYn]
 have hmod : (n + 1) % a = if x = a - 1 then 0 else x + 1 := by
  rw [Nat.add_mod, hn]
  by_cases h : x = a - 1
  ·rw [if_pos h]
   rcases Nat.lt_or_ge 1 a with h1 | h1
   ·rw [Nat.mod_eq_of_lt h1, h, show a - 1 + 1 = a by omega, Nat.mod_self]
   ·rw [show a = 1 by omega]
    exact Nat.mod_one _
  ·rw [if_neg h, Nat.mod_eq_of_lt (show 1 < a by omega), Nat.mod_eq_of_lt (by omega)]
 rw [hmod]
 by_cases h : x = a - 1
 ·subst h
  have e1 : decide ((((a - 1 : Nat)) : Int) = (a : Int) - 1) = true := decide_eq_true (by omega)
  rw [e1, if_neg (by omega)]
  simp
  omega
 ·have e1 : decide ((x : Int) = (a : Int) - 1) = false := decide_eq_false (by omega)
  rw [e1, if_pos (by omega), if_neg h]
  simp
theorem wrS_next (a b : Nat) (l : List Int) (n : Nat) (ha : 1 ≤ a) (hb : 1 ≤ b) (hl : 0 ≤ l.getD n 0 ∧ l.getD n 0 < 256) : putF (33 + l.getD n 0) (wrS a b l n) = wrS a b l (n + 1) := by
 have hp : putN (33 + l.getD n 0) = 33 + l.getD n 0 := by unfold putN; rw [if_pos (by omega)]
 unfold putF
 rw [hp]
 have hdm := Nat.div_add_mod n a
 have hml := Nat.mod_lt n (show 0 < a by omega)
 obtain ⟨q, hq⟩ : ∃ q, q = n / a := ⟨_, rfl⟩
 rw [← hq] at hdm
 have hrow : ∀ m x, m = a * q + x → 0 < x → x ≤ a → (m + a - 1) / a = q + 1 := fun m x hm h1 h2 => by
  rw [hm, show a * q + x + a - 1 = (x - 1) + a * (q + 1) by rw [Nat.mul_add]; omega, Nat.add_mul_div_left _ _ (show 0 < a by omega), Nat.div_eq_of_lt (by omega), Nat.zero_add]
 have hn1 : (n + 1 + a - 1) / a = q + 1 := hrow (n + 1) (n % a + 1) (by omega) (by omega) (by omega)
 have hgn : wrGone a b (n + 1) = (q + 1 - b) * a := by unfold wrGone; rw [hn1, show max (q + 1) 1 = q + 1 by omega]
 have hqa : a * q = q * a := Nat.mul_comm ..
 by_cases hw : n ≠ 0 ∧ n % a = 0
 ·have hq1 : 1 ≤ q := by
   rcases Nat.eq_zero_or_pos q with h | h
   ·rw [h, Nat.mul_zero] at hdm; omega
   ·exact h
  obtain ⟨r, rfl⟩ : ∃ r, q = r + 1 := ⟨q - 1, by omega⟩
  have hn0 : (n + a - 1) / a = r + 1 := by
   have e : n = a * r + a := by rw [Nat.mul_add] at hdm; omega
   rw [e, show a * r + a + a - 1 = (a - 1) + a * (r + 1) by rw [Nat.mul_add]; omega, Nat.add_mul_div_left _ _ (show 0 < a by omega), Nat.div_eq_of_lt (by omega), Nat.zero_add]
  have hg0 : wrGone a b n = (r + 1 - b) * a := by unfold wrGone; rw [hn0, show max (r + 1) 1 = r + 1 by omega]
  have hcond : ((wrS a b l n).wrap && (wrS a b l n).auto) = true := by
   show (decide (n ≠ 0 ∧ n % a = 0) && true) = true
   rw [decide_eq_true hw]
   rfl
  rw [if_pos hcond]
  have hY0 : (wrS a b l n).Y = ((min (r + 1) b : Nat) : Int) - 1 := by show ((min (max ((n + a - 1) / a) 1) b : Nat) : Int) - 1 = _; rw [hn0, show max (r + 1) 1 = r + 1 by omega]
  unfold downF
  by_cases hrb : r + 1 < b
  ·have h1 : ¬ (wrS a b l n).Y = (wrS a b l n).bot := by rw [hY0]; show ¬ _ = (b : Int) - 1; omega
   have h2 : (wrS a b l n).Y < (wrS a b l n).H - 1 := by rw [hY0]; show _ < (b : Int) - 1; omega
   rw [if_neg (show ¬ ({ wrS a b l n with X := 0 } : Scr).Y = ({ wrS a b l n with X := 0 } : Scr).bot from h1), if_pos (show ({ wrS a b l n with X := 0 } : Scr).Y < ({ wrS a b l n with X := 0 } : Scr).H - 1 from h2)]
   refine setF_wr (Y := r + 1) (x := 0) ha hb rfl rfl ?_ (by omega) (by omega) (wrCells_len ..) ?_ hw.2 ?_ (fun i hi => ?_) ?_
   ·show (wrS a b l n).Y + 1 = _
    rw [hY0]
    omega
   ·rw [hgn, show r + 1 + 1 - b = 0 by omega]
    omega
   ·rw [hn1]
    omega
   ·show (wrCells a b l n).getD i blC = _
    rw [wrCells_get _ _ _ _ _ hi, hg0, hgn, show r + 1 - b = 0 by omega, show r + 1 + 1 - b = 0 by omega]
   ·show (_ : Scr) = _
    have : (wrS a b l n).Y + 1 = ((r + 1 : Nat) : Int) := by rw [hY0]; omega
    rw [this]
    rfl
  ·have h1 : (wrS a b l n).Y = (wrS a b l n).bot := by rw [hY0]; show _ = (b : Int) - 1; omega
   rw [if_pos (show ({ wrS a b l n with X := 0 } : Scr).Y = ({ wrS a b l n with X := 0 } : Scr).bot from h1)]
   obtain ⟨k, hk⟩ : ∃ k, r + 1 = b + k := ⟨r + 1 - b, by omega⟩
   have hclp : clampI 1 (-(b : Int)) b = 1 := by unfold clampI; omega
   have hcells : ∀ i, i < a * b → (scrollL (wrCells a b l n) a 0 (b - 1) ((a : Int) * 1)).getD i blC = if wrGone a b (n + 1) + i < n then txC l (wrGone a b (n + 1) + i) else blC := fun i hi => by
    rw [scrollL_get (q := b) (wrCells_len ..) (Nat.zero_le _) (by omega) i (by rw [wrCells_len]; exact hi), show b - 1 + 1 = b by omega, Nat.zero_mul, Nat.mul_comm b a, if_pos (by omega)]
    rw [hgn, show r + 1 + 1 - b = k + 1 by omega, Nat.add_mul, Nat.one_mul]
    have hnn : n = a * b + a * k := by rw [← Nat.mul_add, ← hk]; omega
    have hka : a * k = k * a := Nat.mul_comm ..
    by_cases h : i + a < a * b
    ·rw [if_pos (by omega), show ((i : Int) + (a : Int) * 1).toNat = i + a by omega, wrCells_get _ _ _ _ _ h, hg0, show r + 1 - b = k by omega, show k * a + (i + a) = k * a + a + i by omega]
    ·rw [if_neg (by omega), if_neg (by omega)]
   have hsc : scrollF { wrS a b l n with X := 0 } ({ wrS a b l n with X := 0 } : Scr).top ({ wrS a b l n with X := 0 } : Scr).bot 1 = { wrS a b l n with X := 0, cells := scrollL (wrCells a b l n) a 0 (b - 1) ((a : Int) * 1) } := by
    unfold scrollF
    show ({ wrS a b l n with X := 0, cells := scrollL (wrCells a b l n) (a : Int).toNat (0 : Int).toNat ((b : Int) - 1).toNat ((a : Int) * clampI 1 (-(b : Int)) b) } : Scr) = _
    rw [hclp, Int.toNat_natCast, show ((b : Int) - 1).toNat = b - 1 by omega]
    rfl
   rw [hsc]
   refine setF_wr (Y := b - 1) (x := 0) ha hb rfl rfl ?_ (by omega) (by omega) ?_ ?_ hw.2 ?_ hcells ?_
   ·show (wrS a b l n).Y = _
    rw [hY0]
    omega
   ·show (scrollL _ _ _ _ _).length = _
    rw [scrollL_len (q := b) (wrCells_len ..) (Nat.zero_le _) (by omega), wrCells_len]
   ·have e : (k + 1) * a + (b - 1) * a = (r + 1) * a := by rw [← Nat.add_mul, show k + 1 + (b - 1) = r + 1 by omega]
    rw [hgn, show r + 1 + 1 - b = k + 1 by omega]
    omega
   ·rw [hn1]
    omega
   ·have : (wrS a b l n).Y = ((b - 1 : Nat) : Int) := by rw [hY0]; omega
    show (_ : Scr) = _
    rw [show (({ wrS a b l n with X := 0, cells := scrollL (wrCells a b l n) a 0 (b - 1) ((a : Int) * 1), wrap := false } : Scr)) = ⟨a, b, scrollL (wrCells a b l n) a 0 (b - 1) ((a : Int) * 1), 0, (wrS a b l n).Y, 0, 0, (b : Int) - 1, false, true, false, false, 0, 0, 0, []⟩ from rfl, this]
    rfl
 ·have hcond : ¬ ((wrS a b l n).wrap && (wrS a b l n).auto) = true := by
   show ¬ (decide (n ≠ 0 ∧ n % a = 0) && true) = true
   rw [decide_eq_false hw]
   decide
  rw [if_neg hcond]
  have hn0 : max ((n + a - 1) / a) 1 = q + 1 := by
   by_cases h0 : n = 0
   ·have : q = 0 := by
     rcases Nat.eq_zero_or_pos q with h | h
     ·exact h
     ·have := Nat.mul_le_mul_left a h
      omega
    rw [h0, this, Nat.div_eq_of_lt (show 0 + a - 1 < a by omega)]
    omega
   ·rw [hrow n (n % a) (by omega) (by omega) (by omega)]
    omega
  have hg0 : wrGone a b n = (q + 1 - b) * a := by unfold wrGone; rw [hn0]
  have hY0 : (wrS a b l n).Y = ((min (q + 1) b - 1 : Nat) : Int) := by show ((min (max ((n + a - 1) / a) 1) b : Nat) : Int) - 1 = _; rw [hn0]; omega
  have hX0 : (wrS a b l n).X = ((n % a : Nat) : Int) := by
   show (if n = 0 then 0 else if n % a = 0 then (a : Int) - 1 else ((n % a : Nat) : Int)) = _
   by_cases h0 : n = 0
   ·rw [if_pos h0, h0, Nat.zero_mod]; rfl
   ·rw [if_neg h0, if_neg (fun h => hw ⟨h0, h⟩)]
  refine setF_wr (Y := min (q + 1) b - 1) (x := n % a) ha hb rfl hX0 hY0 hml (by omega) (wrCells_len ..) ?_ rfl ?_ (fun i hi => ?_) ?_
  ·rw [hgn]
   by_cases h : q + 1 ≤ b
   ·rw [show q + 1 - b = 0 by omega, show min (q + 1) b - 1 = q by omega]
    omega
   ·rw [show min (q + 1) b - 1 = b - 1 by omega, ← Nat.add_assoc, ← Nat.add_mul, show q + 1 - b + (b - 1) = q by omega]
    omega
  ·rw [hn1]
   omega
  ·show (wrCells a b l n).getD i blC = _
   rw [wrCells_get _ _ _ _ _ hi, hg0, hgn]
  ·rw [show wrS a b l n = ⟨a, b, wrCells a b l n, (wrS a b l n).X, (wrS a b l n).Y, 0, 0, (b : Int) - 1, (wrS a b l n).wrap, true, false, false, 0, 0, 0, []⟩ from rfl, hX0, hY0]
end Go.Proofs.Ytadginombcjbeaa
