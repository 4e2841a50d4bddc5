/- Terminals, plain: bytes to runes, runes to acts, acts on a screen. -/
import Derived.Test.YtadginombcjbeaaG0
namespace Go.Proofs.Ytadginombcjbeaa
open Go.RowKit Go.Vc
set_option linter.unusedVariables false
/-! bytes to runes -/
structure Ut where
 need : Int
 val : Int
 least : Int
def zUt : Ut := ⟨0, 0, 0⟩
def utC (u : Ut) : List Value := [.int .i64 u.need, .int .i64 u.val, .int .i64 u.least]
def utGoes (u : Ut) : Bool := decide (1 ≤ u.need ∧ u.need ≤ 3 ∧ 0 ≤ u.val ∧ u.val ≤ 32767 ∧ (u.least = 128 ∨ u.least = 2048 ∨ u.least = 65536))
def utIs (n : Int) : Bool := decide (0 ≤ n ∧ n ≤ 1114111 ∧ (n < 55296 ∨ 57343 < n))
def utFirst (b : Int) : Ut × List Int :=
 if b < 128 then (zUt, [IntKind.i64.wrap b]) else if b < 194 ∨ 244 < b then (zUt, [65533]) else if 240 ≤ b then (⟨3, IntKind.i64.wrap (bits .and .u8 b 7), 65536⟩, [])
 else if 224 ≤ b then (⟨2, IntKind.i64.wrap (bits .and .u8 b 15), 2048⟩, []) else (⟨1, IntKind.i64.wrap (bits .and .u8 b 31), 128⟩, [])
def utVal (u : Ut) (b : Int) : Int := bits .or .i64 (IntKind.i64.wrap (u.val * 2 ^ min (6 : Int).toNat IntKind.i64.bits)) (IntKind.i64.wrap (bits .and .u8 b 63))
def utStep (u : Ut) (b : Int) : Ut × List Int :=
 if utGoes u = true then
  if bits .and .u8 b 192 = 128 then
   if u.need - 1 > 0 then (⟨u.need - 1, utVal u b, u.least⟩, []) else (zUt, [if utIs (utVal u b) = true ∧ u.least ≤ utVal u b then utVal u b else 65533])
  else ((utFirst b).1, 65533 :: (utFirst b).2)
 else utFirst b
def utRunes : Ut → List Int → List Int × Ut
 | u, [] => ([], u)
 | u, b :: r => ((utStep u b).2 ++ (utRunes (utStep u b).1 r).1, (utRunes (utStep u b).1 r).2)
theorem utRunes_app : ∀ (a b : List Int) (u : Ut), utRunes u (a ++ b) = ((utRunes u a).1 ++ (utRunes (utRunes u a).2 b).1, (utRunes (utRunes u a).2 b).2)
 | [], b, u => rfl
 | x :: a, b, u => by
  show ((utStep u x).2 ++ (utRunes (utStep u x).1 (a ++ b)).1, (utRunes (utStep u x).1 (a ++ b)).2) = _
  rw [utRunes_app a b]
  show (_, _) = (((utStep u x).2 ++ (utRunes (utStep u x).1 a).1) ++ _, _)
  rw [List.append_assoc]
  rfl
theorem utFirst_len (b : Int) : (utFirst b).2.length ≤ 1 := by
 unfold utFirst
 split
 ·exact Nat.le_refl _
 ·split
  ·exact Nat.le_refl _
  ·split
   ·exact Nat.zero_le _
   ·split <;> exact Nat.zero_le _
theorem utStep_len (u : Ut) (b : Int) : (utStep u b).2.length ≤ 2 := by
 have := utFirst_len b
 unfold utStep
 split
 ·split
  ·split
   ·exact Nat.zero_le _
   ·exact Nat.le_succ _
  ·show (utFirst b).2.length + 1 ≤ 2
   omega
 ·omega
theorem utRunes_len : ∀ (l : List Int) (u : Ut), (utRunes u l).1.length ≤ 2 * l.length
 | [], u => Nat.le_refl _
 | b :: l, u => by
  have h1 := utStep_len u b
  have h2 := utRunes_len l (utStep u b).1
  show ((utStep u b).2 ++ (utRunes (utStep u b).1 l).1).length ≤ 2 * (l.length + 1)
  rw [List.length_append]
  omega
/-! runes to acts -/
structure Ac where
 kind : Int
 rune : Int
 mark : Bool
 many : Int
 ps : List Int
def z8 : List Int := [0, 0, 0, 0, 0, 0, 0, 0]
def zAc : Ac := ⟨0, 0, false, 0, z8⟩
def acC (a : Ac) : List Value := .int .i64 a.kind :: .int .i64 a.rune :: .bool a.mark :: .int .i64 a.many :: ints .i64 a.ps
def acR (l : List Ac) : List Value := l.flatMap acC
structure Pa where
 st : Int
 act : Ac
def zPa : Pa := ⟨0, zAc⟩
def paC (p : Pa) : List Value := .int .i64 p.st :: acC p.act
def acEq (a b : Ac) : Bool := a.kind == b.kind && (a.rune == b.rune && (a.mark == b.mark && (a.many == b.many && a.ps == b.ps)))
def paBad (n : Int) : Bool := decide (n < 0) || decide (n > 9999)
def paHead (p : Pa) : Bool := decide (p.st < 0 ∨ p.st > 3 ∨ p.act.many < 0 ∨ p.act.many ≥ 8 ∨ p.act.kind ≠ 0 ∨ p.act.rune ≠ 0)
def paWrong (p : Pa) : Bool := (paHead p || p.act.ps.any paBad) || (p.st != 2 && !acEq p.act zAc)
def paOf (p : Pa) : Pa := if paWrong p = true then zPa else p
abbrev Es := Pa × Ac × Bool
def esNone (p : Pa) : Es := (p, zAc, false)
def esGround (m : Pa) (n : Int) : Es := if n < 0 ∨ n = 127 then esNone m else (m, ⟨1, n, false, 0, z8⟩, true)
def esEscaped (n : Int) : Es :=
 if n = 91 then esNone ⟨2, zAc⟩ else if n = 93 then esNone ⟨3, zAc⟩ else if 48 ≤ n ∧ n < 127 then (zPa, ⟨3, n, false, 0, z8⟩, true) else esNone zPa
def esAt (m : Pa) : Int := m.act.ps.getD m.act.many.toNat 0
def esCsi (m : Pa) (n : Int) : Es :=
 if 48 ≤ n ∧ n ≤ 57 then esNone { m with act := { m.act with ps := m.act.ps.set m.act.many.toNat (min (10 * esAt m + n - 48) 9999) } }
 else if n = 59 then esNone { m with act := { m.act with many := min (m.act.many + 1) 7 } }
 else if n = 63 ∧ m.act.many = 0 ∧ esAt m = 0 then esNone { m with act := { m.act with mark := true } }
 else if 64 ≤ n ∧ n < 127 then (zPa, { m.act with kind := 4, rune := n }, true)
 else esNone m
def esOsc (m : Pa) (n : Int) : Es := if n = 7 then esNone zPa else esNone m
def esState (m : Pa) (n : Int) : Es := if m.st = 0 then esGround m n else if m.st = 1 then esEscaped n else if m.st = 2 then esCsi m n else esOsc m n
def esStep (p : Pa) (n : Int) : Es :=
 if n = 27 then esNone ⟨1, zAc⟩ else if 0 ≤ n ∧ n < 32 ∧ (paOf p).st ≠ 3 then (paOf p, ⟨2, n, false, 0, z8⟩, true) else esState (paOf p) n
def esOut (e : Es) : List Ac := if e.2.2 = true then [e.2.1] else []
def esActs : Pa → List Int → List Ac × Pa
 | p, [] => ([], p)
 | p, n :: r => (esOut (esStep p n) ++ (esActs (esStep p n).1 r).1, (esActs (esStep p n).1 r).2)
theorem esActs_app : ∀ (a b : List Int) (p : Pa), esActs p (a ++ b) = ((esActs p a).1 ++ (esActs (esActs p a).2 b).1, (esActs (esActs p a).2 b).2)
 | [], b, p => rfl
 | x :: a, b, p => by
  show (esOut (esStep p x) ++ (esActs (esStep p x).1 (a ++ b)).1, (esActs (esStep p x).1 (a ++ b)).2) = _
  rw [esActs_app a b]
  show (_, _) = ((esOut (esStep p x) ++ (esActs (esStep p x).1 a).1) ++ _, _)
  rw [List.append_assoc]
  rfl
theorem esOut_len (e : Es) : (esOut e).length ≤ 1 := by
 unfold esOut
 split
 ·exact Nat.le_refl _
 ·exact Nat.zero_le _
theorem esActs_len : ∀ (l : List Int) (p : Pa), (esActs p l).1.length ≤ l.length
 | [], p => Nat.le_refl _
 | n :: l, p => by
  have h1 := esOut_len (esStep p n)
  have h2 := esActs_len l (esStep p n).1
  show (esOut (esStep p n) ++ (esActs (esStep p n).1 l).1).length ≤ l.length + 1
  rw [List.length_append]
  omega
/-- Eight numbers it has. -/
def Ac8 (a : Ac) : Prop := a.ps.length = 8
theorem zAc8 : Ac8 zAc := rfl
theorem paOf8 {p : Pa} (h : Ac8 p.act) : Ac8 (paOf p).act := by
 unfold paOf
 split
 ·exact zAc8
 ·exact h
/-- What a parser is that may be. -/
structure PaOk (m : Pa) : Prop where
 st : 0 ≤ m.st ∧ m.st ≤ 3
 many : 0 ≤ m.act.many ∧ m.act.many < 8
 ps : ∀ n ∈ m.act.ps, 0 ≤ n ∧ n ≤ 9999
theorem paOf_ok (p : Pa) : PaOk (paOf p) := by
 unfold paOf
 split
 ·refine ⟨⟨by decide, by decide⟩, ⟨by decide, by decide⟩, fun n hn => ?_⟩
  have : n ∈ List.replicate 8 (0 : Int) := hn
  rw [List.eq_of_mem_replicate this]
  exact ⟨by decide, by decide⟩
 ·rename_i h
  unfold paWrong at h
  simp only [Bool.or_eq_true, not_or, Bool.not_eq_true] at h
  have h1 := of_decide_eq_false h.1.1
  refine ⟨by omega, by omega, fun n hn => ?_⟩
  have h2 := List.any_eq_false.1 h.1.2 n hn
  unfold paBad at h2
  simp only [Bool.or_eq_true, decide_eq_true_eq, not_or] at h2
  omega
theorem esCsi8 {m : Pa} (n : Int) (h : Ac8 m.act) : Ac8 (esCsi m n).1.act ∧ Ac8 (esCsi m n).2.1 := by
 unfold esCsi
 split
 ·exact ⟨by show (List.set _ _ _).length = 8; rw [List.length_set]; exact h, zAc8⟩
 ·split
  ·exact ⟨h, zAc8⟩
  ·split
   ·exact ⟨h, zAc8⟩
   ·split
    ·exact ⟨zAc8, h⟩
    ·exact ⟨h, zAc8⟩
theorem esStep8 {p : Pa} (n : Int) (h : Ac8 p.act) : Ac8 (esStep p n).1.act ∧ Ac8 (esStep p n).2.1 := by
 have hp := paOf8 h
 unfold esStep
 split
 ·exact ⟨zAc8, zAc8⟩
 ·split
  ·exact ⟨hp, rfl⟩
  ·unfold esState
   split
   ·unfold esGround
    split
    ·exact ⟨hp, zAc8⟩
    ·exact ⟨hp, rfl⟩
   ·split
    ·unfold esEscaped
     split
     ·exact ⟨zAc8, zAc8⟩
     ·split
      ·exact ⟨zAc8, zAc8⟩
      ·split
       ·exact ⟨zAc8, rfl⟩
       ·exact ⟨zAc8, zAc8⟩
    ·split
     ·exact esCsi8 n hp
     ·unfold esOsc
      split
      ·exact ⟨zAc8, zAc8⟩
      ·exact ⟨hp, zAc8⟩
theorem esActs8 : ∀ (l : List Int) (p : Pa), Ac8 p.act → (∀ a ∈ (esActs p l).1, Ac8 a) ∧ Ac8 (esActs p l).2.act
 | [], p, h => ⟨fun a ha => (by cases ha), h⟩
 | n :: l, p, h => by
  obtain ⟨h1, h2⟩ := esStep8 n h
  obtain ⟨h3, h4⟩ := esActs8 l (esStep p n).1 h1
  refine ⟨fun a ha => ?_, h4⟩
  rcases List.mem_append.1 (show a ∈ esOut (esStep p n) ++ (esActs (esStep p n).1 l).1 from ha) with ha | ha
  ·unfold esOut at ha
   split at ha
   ·rw [List.mem_singleton.1 ha]; exact h2
   ·cases ha
  ·exact h3 a ha
end Go.Proofs.Ytadginombcjbeaa
/- Terminals, plain: what an act does with a screen. -/
namespace Go.Proofs.Ytadginombcjbeaa
open Go.RowKit Go.Vc
set_option linter.unusedVariables false
abbrev andN (a b : Int) : Int := bits .andNot .i64 a b
abbrev orN (a b : Int) : Int := bits .or .i64 a b
def tmColour (attr at_ n : Int) : Int := if at_ = 8 then orN (andN attr 120) (n * 8) else orN (bits .and .i64 attr 127) (n * 128)
def tmLook (attr n : Int) : Int :=
 if n = 0 then 0 else if n = 1 then orN attr 1 else if n = 4 then orN attr 2 else if n = 7 then orN attr 4
 else if n = 22 then andN attr 1 else if n = 24 then andN attr 2 else if n = 27 then andN attr 4
 else if n = 39 then tmColour attr 8 0 else if n = 49 then tmColour attr 128 0
 else if 30 ≤ n ∧ n < 38 then tmColour attr 8 (n - 29) else if 40 ≤ n ∧ n < 48 then tmColour attr 128 (n - 39) else attr
def tmMany (a : Ac) : Int := min (max a.many (-1)) 7 + 1
def tmParams (a : Ac) : List Int := a.ps.take (tmMany a).toNat
def tmLooks (attr : Int) (l : List Int) : Int := l.foldl tmLook attr
def tmLookA (attr : Int) (a : Ac) : Int := tmLooks (clampI attr 0 2047) (tmParams a)
def tmParam (a : Ac) (i none : Int) : Int := if i < 0 ∨ 8 ≤ i ∨ a.ps.getD i.toNat 0 ≤ 0 then none else min (a.ps.getD i.toNat 0) 9999
def tmN (a : Ac) : Int := tmParam a 0 1
def tmUp (a : Ac) (s : Scr) : Scr := moveF s.X (max (s.Y - tmN a) (if s.Y < s.top then 0 else s.top)) s
def tmDown (a : Ac) (s : Scr) : Scr := moveF s.X (min (s.Y + tmN a) (if s.Y > s.bot then s.H - 1 else s.bot)) s
def tmRight (a : Ac) (s : Scr) : Scr := moveF (s.X + tmN a) s.Y s
def tmLeft (a : Ac) (s : Scr) : Scr := moveF (s.X - tmN a) s.Y s
def tmColumn (a : Ac) (s : Scr) : Scr := moveF (tmN a - 1) s.Y s
def tmRow (a : Ac) (s : Scr) : Scr := moveF s.X (tmN a - 1) s
def tmPlace (a : Ac) (s : Scr) : Scr := moveF (tmParam a 1 1 - 1) (tmN a - 1) s
def tmErase (a : Ac) (f t : Int) (s : Scr) : Scr :=
 if tmParam a 0 0 = 0 then eraseF (s.Y * s.W + s.X) t s else if tmParam a 0 0 = 1 then eraseF f (s.Y * s.W + s.X + 1) s else if tmParam a 0 0 = 2 then eraseF f t s else eraseF f f s
def tmAll (a : Ac) (s : Scr) : Scr := tmErase a 0 (s.W * s.H) s
def tmLine (a : Ac) (s : Scr) : Scr := tmErase a (s.Y * s.W) ((s.Y + 1) * s.W) s
def tmSome (a : Ac) (s : Scr) : Scr := eraseF (s.Y * s.W + s.X) (min (s.Y * s.W + s.X + tmN a) ((s.Y + 1) * s.W)) s
def tmLines (a : Ac) (s : Scr) : Scr := linesF (tmN a) s
def tmNoLines (a : Ac) (s : Scr) : Scr := linesF (0 - tmN a) s
def tmChars (a : Ac) (s : Scr) : Scr := charsF (tmN a) s
def tmNoChars (a : Ac) (s : Scr) : Scr := charsF (0 - tmN a) s
def tmScroll (a : Ac) (s : Scr) : Scr := scrollF s s.top s.bot (tmN a)
def tmBack (a : Ac) (s : Scr) : Scr := scrollF s s.top s.bot (0 - tmN a)
def tmRegion (a : Ac) (s : Scr) : Scr := if tmN a ≥ tmParam a 1 s.H ∨ tmParam a 1 s.H > s.H then s else { moveF 0 0 s with top := tmN a - 1, bot := tmParam a 1 s.H - 1 }
def tmLooksF (a : Ac) (s : Scr) : Scr := { s with A := tmLookA s.A a }
def tmSave (s : Scr) : Scr := { s with s0 := s.X, s1 := s.Y, s2 := s.A }
def tmRestore (s : Scr) : Scr := { moveF s.s0 s.s1 s with A := s.s2 }
def tmMode (n : Int) (on : Bool) (s : Scr) : Scr :=
 if n = 7 then { s with auto := on } else if n = 25 then { s with hid := !on }
 else if n = 1049 ∧ on = true ∧ s.alt = false then eraseF 0 s.cells.length { tmSave s with main := s.cells, alt := true }
 else if n = 1049 ∧ on = false ∧ s.alt = true then tmRestore { s with cells := s.main, main := [], alt := false }
 else s
def tmControl (n : Int) (s : Scr) : Scr :=
 if n = 8 then moveF (s.X - 1) s.Y s else if n = 9 then moveF ((s.X / 8 + 1) * 8) s.Y s else if n = 10 ∨ n = 11 ∨ n = 12 then downF s else if n = 13 then moveF 0 s.Y s else s
def tmEscaped (n : Int) (s : Scr) : Scr :=
 if n = 68 then downF s else if n = 69 then downF (moveF 0 s.Y s) else if n = 77 then upF s else if n = 55 then tmSave s else if n = 56 then tmRestore s else if n = 99 then newS s.W s.H else s
def assocI {β : Type} : List (Int × β) → Int → Option β
 | [], _ => none
 | x :: l, r => if x.1 = r then some x.2 else assocI l r
def AllOf {α : Type} (P : α → Prop) : List α → Prop
 | [] => True
 | x :: l => P x ∧ AllOf P l
theorem assocI_all {β : Type} {P : Int × β → Prop} : ∀ {l : List (Int × β)} {r : Int} {v : β}, AllOf P l → assocI l r = some v → P (r, v)
 | [], r, v, _, h => by cases h
 | x :: l, r, v, hp, h => by
  unfold assocI at h
  split at h
  ·rename_i hx
   cases h
   rw [← hx]
   exact hp.1
  ·exact assocI_all hp.2 h
def tmTab : List (Int × (Ac → Scr → Scr)) := [(65, tmUp), (66, tmDown), (67, tmRight), (68, tmLeft), (71, tmColumn), (100, tmRow), (72, tmPlace), (102, tmPlace), (74, tmAll), (75, tmLine),
 (88, tmSome), (76, tmLines), (77, tmNoLines), (64, tmChars), (80, tmNoChars), (83, tmScroll), (84, tmBack), (114, tmRegion), (109, tmLooksF)]
def tmSeq (r : Int) : Option (Ac → Scr → Scr) := assocI tmTab r
def tmModes (on : Bool) (l : List Int) (s : Scr) : Scr := l.foldl (fun s n => tmMode n on s) s
def tmCsi (a : Ac) (s : Scr) : Scr :=
 if a.mark = false then match tmSeq a.rune with
  | some f => f a s
  | none => s
 else if a.rune ≠ 104 ∧ a.rune ≠ 108 then s else tmModes (a.rune == 104) (tmParams a) s
def tmDo (a : Ac) (s : Scr) : Scr :=
 if a.kind = 1 then putF a.rune s else if a.kind = 2 then tmControl a.rune s else if a.kind = 3 then tmEscaped a.rune s else if a.kind = 4 then tmCsi a s else s
def tmDoes (l : List Ac) (s : Scr) : Scr := l.foldl (fun s a => doF (tmDo a) s) s
/-! what stays -/
/-- The screen may be, with the sides it had. -/
structure Still (s t : Scr) : Prop where
 ok : ScOk t
 w : t.W = s.W
 h : t.H = s.H
theorem still_refl {s : Scr} (h : ScOk s) : Still s s := ⟨h, rfl, rfl⟩
theorem Still.trans {a b c : Scr} (h : Still a b) (k : Still b c) : Still a c := ⟨k.ok, k.w.trans h.w, k.h.trans h.h⟩
theorem still_move {s : Scr} (h : ScOk s) (x y : Int) : Still s (moveF x y s) := ⟨moveF_ok h x y, rfl, rfl⟩
theorem still_down {s : Scr} (h : ScOk s) : Still s (downF s) := by
 refine ⟨downF_ok h, ?_, ?_⟩ <;> unfold downF <;> split <;> first | rfl | (split <;> rfl)
theorem still_up {s : Scr} (h : ScOk s) : Still s (upF s) := by
 refine ⟨upF_ok h, ?_, ?_⟩ <;> unfold upF <;> split <;> first | rfl | (split <;> rfl)
theorem still_put {s : Scr} (h : ScOk s) (n : Int) : Still s (putF n s) := by
 refine ⟨putF_ok h n, ?_, ?_⟩ <;> unfold putF setF downF <;> dsimp only <;> split <;> first | rfl | (split <;> first | rfl | (split <;> rfl))
theorem still_erase {s : Scr} (h : ScOk s) (f t : Int) : Still s (eraseF f t s) := ⟨eraseF_ok h f t, rfl, rfl⟩
theorem still_lines {s : Scr} (h : ScOk s) (n : Int) : Still s (linesF n s) := by
 refine ⟨linesF_ok h n, ?_, ?_⟩ <;> unfold linesF <;> split <;> rfl
theorem still_chars {s : Scr} (h : ScOk s) (n : Int) : Still s (charsF n s) := ⟨charsF_ok h n, rfl, rfl⟩
theorem still_scroll {s : Scr} (h : ScOk s) (n : Int) : Still s (scrollF s s.top s.bot n) := ⟨scrollF_ok h h.rows.1 h.rows.2.1 h.rows.2.2, rfl, rfl⟩
theorem still_save {s : Scr} (h : ScOk s) : Still s (tmSave s) := by
 have := h.w
 have := h.h
 have := h.x
 have := h.y
 exact ⟨⟨h.w, h.h, h.cells, h.main, h.x, h.y, h.a, h.rows, by show 0 ≤ s.X ∧ s.X < 64; omega, by show 0 ≤ s.Y ∧ s.Y < 64; omega, h.a⟩, rfl, rfl⟩
theorem still_restore {s : Scr} (h : ScOk s) : Still s (tmRestore s) := by
 have k := moveF_ok h s.s0 s.s1
 exact ⟨⟨k.w, k.h, k.cells, k.main, k.x, k.y, h.s2, k.rows, k.s0, k.s1, k.s2⟩, rfl, rfl⟩
theorem still_mode {s : Scr} (h : ScOk s) (n : Int) (on : Bool) : Still s (tmMode n on s) := by
 unfold tmMode
 split
 ·exact ⟨⟨h.w, h.h, h.cells, h.main, h.x, h.y, h.a, h.rows, h.s0, h.s1, h.s2⟩, rfl, rfl⟩
 ·split
  ·exact ⟨⟨h.w, h.h, h.cells, h.main, h.x, h.y, h.a, h.rows, h.s0, h.s1, h.s2⟩, rfl, rfl⟩
  ·split
   ·have k := (still_save h).ok
    have k2 : ScOk { tmSave s with main := s.cells, alt := true } := ⟨k.w, k.h, k.cells, k.cells, k.x, k.y, k.a, k.rows, k.s0, k.s1, k.s2⟩
    exact Still.trans ⟨k2, rfl, rfl⟩ (still_erase k2 _ _)
   ·split
    ·rename_i hn
     have hm := h.main
     rw [if_pos hn.2.2] at hm
     have k2 : ScOk { s with cells := s.main, main := [], alt := false } := ⟨h.w, h.h, hm, rfl, h.x, h.y, h.a, h.rows, h.s0, h.s1, h.s2⟩
     exact Still.trans ⟨k2, rfl, rfl⟩ (still_restore k2)
    ·exact still_refl h
theorem still_new {s : Scr} (h : ScOk s) : Still s (newS s.W s.H) := by
 have hw := h.w
 have hh := h.h
 have hs : (side s.W && side s.H) = true := by rw [show side s.W = true from decide_eq_true hw, show side s.H = true from decide_eq_true hh]; rfl
 have hpos : 0 ≤ s.W * s.H := Int.mul_nonneg (by omega) (by omega)
 unfold newS
 rw [if_pos hs]
 refine ⟨⟨hw, hh, okCells_of ?_ ?_, rfl, ⟨Int.le_refl _, by show (0 : Int) < s.W; omega⟩, ⟨Int.le_refl _, by show (0 : Int) < s.H; omega⟩, by show (0 : Int) ≤ 0 ∧ (0 : Int) ≤ 2047; decide, ⟨Int.le_refl _, by show (0 : Int) ≤ s.H - 1; omega, by show s.H - 1 < s.H; omega⟩, by show (0 : Int) ≤ 0 ∧ (0 : Int) < 64; decide, by show (0 : Int) ≤ 0 ∧ (0 : Int) < 64; decide, by show (0 : Int) ≤ 0 ∧ (0 : Int) ≤ 2047; decide⟩, rfl, rfl⟩
 ·show ((List.replicate (s.W * s.H).toNat blC).length : Int) = s.W * s.H
  rw [List.length_replicate]
  omega
 ·intro c hc
  rw [List.eq_of_mem_replicate hc]
  exact blC_ok
theorem still_control {s : Scr} (h : ScOk s) (n : Int) : Still s (tmControl n s) := by
 unfold tmControl
 split
 ·exact still_move h _ _
 ·split
  ·exact still_move h _ _
  ·split
   ·exact still_down h
   ·split
    ·exact still_move h _ _
    ·exact still_refl h
theorem still_escaped {s : Scr} (h : ScOk s) (n : Int) : Still s (tmEscaped n s) := by
 unfold tmEscaped
 split
 ·exact still_down h
 ·split
  ·exact (still_move h _ _).trans (still_down (moveF_ok h _ _))
  ·split
   ·exact still_up h
   ·split
    ·exact still_save h
    ·split
     ·exact still_restore h
     ·split
      ·exact still_new h
      ·exact still_refl h
theorem still_eraseT {s : Scr} (h : ScOk s) (a : Ac) (f t : Int) : Still s (tmErase a f t s) := by
 unfold tmErase
 split
 ·exact still_erase h _ _
 ·split
  ·exact still_erase h _ _
  ·split <;> exact still_erase h _ _
theorem tmParam_in (a : Ac) {i z : Int} (hz : 1 ≤ z ∧ z ≤ 9999) : 1 ≤ tmParam a i z ∧ tmParam a i z ≤ 9999 := by
 unfold tmParam
 split
 ·exact hz
 ·rename_i h
  omega
theorem tmN_in (a : Ac) : 1 ≤ tmN a ∧ tmN a ≤ 9999 := tmParam_in a (by decide)
theorem still_region {s : Scr} (h : ScOk s) (a : Ac) : Still s (tmRegion a s) := by
 have h1 := tmN_in a
 have hh := h.h
 have h2 := tmParam_in a (i := 1) (z := s.H) (by omega)
 unfold tmRegion
 split
 ·exact still_refl h
 ·rename_i hn
  have k := moveF_ok h 0 0
  exact ⟨⟨k.w, k.h, k.cells, k.main, k.x, k.y, k.a, by show 0 ≤ tmN a - 1 ∧ tmN a - 1 ≤ tmParam a 1 s.H - 1 ∧ tmParam a 1 s.H - 1 < s.H; omega, k.s0, k.s1, k.s2⟩, rfl, rfl⟩
/-! looks: eleven bits -/
def Lk (n : Int) : Prop := 0 ≤ n ∧ n ≤ 2047
theorem lk_nat {x : Int} (h : Lk x) : ∃ a : Nat, x = a ∧ a < 2048 := ⟨x.toNat, by unfold Lk at h; omega, by unfold Lk at h; omega⟩
theorem lk_of {n : Nat} (h : n < 2048) : Lk (IntKind.i64.wrap (n : Int)) := by
 rw [wrap_i64 (by omega) (by omega)]
 unfold Lk
 omega
theorem ofInt_lt {a : Nat} (h : a < 2048) : (BitVec.ofInt IntKind.i64.bits (a : Int)).toNat = a := by
 rw [BitVec.ofInt_natCast, BitVec.toNat_ofNat]
 exact Nat.mod_eq_of_lt (Nat.lt_of_lt_of_le h (by decide))
theorem lk_or {x y : Int} (hx : Lk x) (hy : Lk y) : Lk (bits .or .i64 x y) := by
 obtain ⟨a, rfl, ha⟩ := lk_nat hx
 obtain ⟨b, rfl, hb⟩ := lk_nat hy
 refine lk_of (n := (BitVec.ofInt IntKind.i64.bits (a : Int) ||| BitVec.ofInt IntKind.i64.bits (b : Int)).toNat) ?_
 rw [BitVec.toNat_or, ofInt_lt ha, ofInt_lt hb]
 exact Nat.or_lt_two_pow (n := 11) ha hb
theorem lk_and {x : Int} (hx : Lk x) (y : Int) : Lk (bits .and .i64 x y) := by
 obtain ⟨a, rfl, ha⟩ := lk_nat hx
 refine lk_of (n := (BitVec.ofInt IntKind.i64.bits (a : Int) &&& BitVec.ofInt IntKind.i64.bits y).toNat) ?_
 rw [BitVec.toNat_and, ofInt_lt ha]
 exact Nat.lt_of_le_of_lt Nat.and_le_left ha
theorem lk_andN {x : Int} (hx : Lk x) (y : Int) : Lk (bits .andNot .i64 x y) := by
 obtain ⟨a, rfl, ha⟩ := lk_nat hx
 refine lk_of (n := (BitVec.ofInt IntKind.i64.bits (a : Int) &&& ~~~BitVec.ofInt IntKind.i64.bits y).toNat) ?_
 rw [BitVec.toNat_and, ofInt_lt ha]
 exact Nat.lt_of_le_of_lt Nat.and_le_left ha
theorem lk_colour {x : Int} (hx : Lk x) {n : Int} (hn : 0 ≤ n ∧ n ≤ 8) (at_ : Int) : Lk (tmColour x at_ n) := by
 unfold tmColour
 split
 ·exact lk_or (lk_andN hx _) (by unfold Lk; omega)
 ·exact lk_or (lk_and hx _) (by unfold Lk; omega)
theorem lk_look {x : Int} (hx : Lk x) (n : Int) : Lk (tmLook x n) := by
 unfold tmLook
 split
 ·exact ⟨by decide, by decide⟩
 ·split
  ·exact lk_or hx ⟨by decide, by decide⟩
  ·split
   ·exact lk_or hx ⟨by decide, by decide⟩
   ·split
    ·exact lk_or hx ⟨by decide, by decide⟩
    ·split
     ·exact lk_andN hx _
     ·split
      ·exact lk_andN hx _
      ·split
       ·exact lk_andN hx _
       ·split
        ·exact lk_colour hx (by decide) _
        ·split
         ·exact lk_colour hx (by decide) _
         ·split
          ·exact lk_colour hx (by omega) _
          ·split
           ·exact lk_colour hx (by omega) _
           ·exact hx
theorem lk_looks : ∀ (l : List Int) {x : Int}, Lk x → Lk (tmLooks x l)
 | [], x, h => h
 | n :: l, x, h => lk_looks l (lk_look h n)
theorem still_looks {s : Scr} (h : ScOk s) (a : Ac) : Still s (tmLooksF a s) :=
 ⟨⟨h.w, h.h, h.cells, h.main, h.x, h.y, lk_looks _ (show Lk (clampI s.A 0 2047) from clampI_in _ (by decide)), h.rows, h.s0, h.s1, h.s2⟩, rfl, rfl⟩
theorem still_seq {s : Scr} (h : ScOk s) (a : Ac) {r : Int} {f : Ac → Scr → Scr} (hf : tmSeq r = some f) : Still s (f a s) := by
 refine assocI_all (P := fun (p : Int × (Ac → Scr → Scr)) => Still s (p.2 a s)) (l := tmTab) ?_ hf
 exact ⟨still_move h _ _, still_move h _ _, still_move h _ _, still_move h _ _, still_move h _ _, still_move h _ _, still_move h _ _, still_move h _ _, still_eraseT h _ _ _, still_eraseT h _ _ _, still_erase h _ _,
  still_lines h _, still_lines h _, still_chars h _, still_chars h _, still_scroll h _, still_scroll h _, still_region h a, still_looks h a, trivial⟩
theorem still_modes (on : Bool) : ∀ (l : List Int) {s : Scr}, ScOk s → Still s (tmModes on l s)
 | [], s, h => still_refl h
 | n :: l, s, h => (still_mode h n on).trans (still_modes on l (still_mode h n on).ok)
theorem still_csi {s : Scr} (h : ScOk s) (a : Ac) : Still s (tmCsi a s) := by
 unfold tmCsi
 split
 ·split
  ·rename_i f hf
   exact still_seq h a hf
  ·exact still_refl h
 ·split
  ·exact still_refl h
  ·exact still_modes _ _ h
theorem still_do {s : Scr} (h : ScOk s) (a : Ac) : Still s (tmDo a s) := by
 unfold tmDo
 split
 ·exact still_put h _
 ·split
  ·exact still_control h _
  ·split
   ·exact still_escaped h _
   ·split
    ·exact still_csi h a
    ·exact still_refl h
theorem doF_ok {s : Scr} (h : ScOk s) (f : Scr → Scr) : doF f s = f s := by unfold doF; rw [(scOk_iff s).2 h, if_pos rfl]
theorem doF_no {s : Scr} (h : scOk s = false) (f : Scr → Scr) : doF f s = zScr := by unfold doF; rw [h, if_neg (by decide)]
theorem still_does : ∀ (l : List Ac) {s : Scr}, ScOk s → Still s (tmDoes l s)
 | [], s, h => still_refl h
 | a :: l, s, h => by
  show Still s (tmDoes l (doF (tmDo a) s))
  rw [doF_ok h]
  exact (still_do h a).trans (still_does l (still_do h a).ok)
theorem does_no : ∀ (l : List Ac), tmDoes l zScr = zScr
 | [] => rfl
 | a :: l => by
  show tmDoes l (doF (tmDo a) zScr) = zScr
  rw [doF_no zScr_no]
  exact does_no l
/-- One screen copied, behind acts or not, is as it is. -/
theorem does_copy (l : List Ac) (s : Scr) : doF id (tmDoes l (doF id s)) = tmDoes l (doF id s) := by
 cases h : scOk s with
 | true =>
  have h' := (scOk_iff s).1 h
  rw [doF_ok h']
  exact doF_ok (still_does l h').ok id
 | false =>
  rw [doF_no h, does_no]
  exact doF_no zScr_no id
theorem does_app (a b : List Ac) (s : Scr) : tmDoes (a ++ b) s = tmDoes b (tmDoes a s) := List.foldl_append ..
/-! a terminal -/
structure Tm where
 ut : Ut
 pa : Pa
 s : Scr
def tmActs (t : Tm) (b : List Int) : List Ac × Pa := esActs t.pa (utRunes t.ut b).1
def tmFeed (t : Tm) (b : List Int) : Tm := ⟨(utRunes t.ut b).2, (tmActs t b).2, tmDoes (tmActs t b).1 (doF id t.s)⟩
/-- It does not matter in which parts bytes come. -/
theorem feed_parts (t : Tm) (a b : List Int) : tmFeed (tmFeed t a) b = tmFeed t (a ++ b) := by
 unfold tmFeed tmActs
 dsimp only
 rw [utRunes_app, esActs_app, does_app, does_copy]
end Go.Proofs.Ytadginombcjbeaa
