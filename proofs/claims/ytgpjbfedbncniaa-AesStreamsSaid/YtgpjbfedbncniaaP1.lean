import Derived.Test.YtgpjbfedbncniaaVb
/- Plain facts of the cipher's bytes: no program. -/
namespace Go.Proofs.Ytgpjbfedbncniaa
open Go.Vc

/-- Two bytes, bit by bit. -/
abbrev xr (a b : Int) : Int := bits BinOp.xor IntKind.u8 a b
abbrev orr (a b : Int) : Int := bits BinOp.or IntKind.u8 a b

/-- Shifts and products of bytes. -/
abbrev sl (a k : Int) : Int := IntKind.u8.wrap (a * 2 ^ min k.toNat IntKind.u8.bits)
abbrev sr (a k : Int) : Int := a / 2 ^ min k.toNat IntKind.u8.bits
abbrev ml (a k : Int) : Int := IntKind.u8.wrap (a * k)

/-- Twice a byte, as a product. -/
def dbl (a : Int) : Int := xr (sl a 1) (ml (sr a 7) 27)

/-- One round of the two powers. -/
def powA (a : Int) : Int := xr a (dbl a)
def powB0 (b : Int) : Int := xr b (sl b 1)
def powB1 (b : Int) : Int := xr b (sl b 2)
def powB2 (b : Int) : Int := xr b (sl b 4)
def powB3 (b : Int) : Int := xr b (ml (sr b 7) 9)
def powB (b : Int) : Int := powB3 (powB2 (powB1 (powB0 b)))
def boxOf (b : Int) : Int := xr (xr (xr (xr (xr b (orr (sl b 1) (sr b 7))) (orr (sl b 2) (sr b 6))) (orr (sl b 3) (sr b 5))) (orr (sl b 4) (sr b 4))) 99

/-- After k rounds: the two powers and the table. -/
def boxSt : Nat → Int × Int × List Int
  | 0 => (1, 1, zeros 256)
  | k + 1 => let s := boxSt k; (powA s.1, powB s.2.1, s.2.2.set (powA s.1).toNat (boxOf (powB s.2.1)))

/-- The table. -/
def boxT : List Int := (boxSt 255).2.2.set 0 99

theorem boxSt_zero : boxSt 0 = (1, 1, zeros 256) := rfl
theorem boxSt_succ (k : Nat) : boxSt (k + 1) = (powA (boxSt k).1, powB (boxSt k).2.1, (boxSt k).2.2.set (powA (boxSt k).1).toNat (boxOf (powB (boxSt k).2.1))) := rfl

/-- The powers from a start on. -/
def pA : Nat → Int
  | 0 => 1
  | k + 1 => powA (pA k)
theorem pA_is (k : Nat) : (boxSt k).1 = pA k := by
  induction k with
  | zero => rfl
  | succ k ih => rw [boxSt_succ, ih]; rfl
/-- n powers from a on: none of the first is 1, all are bytes, the last one is 1. -/
def okFrom : Nat → Int → Bool
  | 0, a => a == 1
  | n + 1, a => (n == 0 || powA a != 1) && (decide (0 ≤ powA a) && (decide (powA a < 256) && okFrom n (powA a)))
theorem okFrom_all : okFrom 255 1 = true := by decide +kernel
theorem okFrom_at (n : Nat) : ∀ k a, okFrom (n + k) a = true → ∀ m, m = n → okFrom m (Nat.rec a (fun _ x => powA x) k) = true := by
  intro k
  induction k with
  | zero => intro a h m hm; subst hm; exact h
  | succ k ih =>
    intro a h m hm
    rw [← Nat.add_assoc] at h
    unfold okFrom at h
    rw [Bool.and_eq_true, Bool.and_eq_true, Bool.and_eq_true] at h
    have := ih _ h.2.2.2 m hm
    have e : ∀ k, (Nat.rec (powA a) (fun _ x => powA x) k : Int) = powA (Nat.rec a (fun _ x => powA x) k) := by
      intro k
      induction k with
      | zero => rfl
      | succ k ih => exact congrArg powA ih
    rw [e] at this
    exact this
theorem pA_rec (k : Nat) : pA k = Nat.rec 1 (fun _ x => powA x) k := by
  induction k with
  | zero => rfl
  | succ k ih => exact congrArg powA ih
theorem okA (k : Nat) (h : k < 255) : (254 - k = 0 ∨ powA (pA k) ≠ 1) ∧ 0 ≤ powA (pA k) ∧ powA (pA k) < 256 := by
  have := okFrom_at ((254 - k) + 1) k 1 (by rw [show 254 - k + 1 + k = 255 from by omega]; exact okFrom_all) _ rfl
  rw [← pA_rec] at this
  unfold okFrom at this
  rw [Bool.and_eq_true, Bool.and_eq_true, Bool.and_eq_true, Bool.or_eq_true] at this
  obtain ⟨h1, h2, h3, _⟩ := this
  refine ⟨?_, of_decide_eq_true h2, of_decide_eq_true h3⟩
  rcases h1 with h1 | h1
  · exact .inl (eq_of_beq h1)
  · exact .inr (bne_iff_ne.1 h1)
theorem boxA_ne (k : Nat) (h : k + 1 < 255) : (powA (boxSt k).1) ≠ 1 := by
  rw [pA_is]
  exact ((okA k (by omega)).1).resolve_left (by omega)
theorem boxA_end : (powA (boxSt 254).1) = 1 := by
  rw [pA_is]
  have := okFrom_at 0 255 1 okFrom_all 0 rfl
  rw [← pA_rec] at this
  exact eq_of_beq this
theorem boxA_in (k : Nat) (h : k < 255) : 0 ≤ powA (boxSt k).1 ∧ powA (boxSt k).1 < 256 := by
  rw [pA_is]
  exact (okA k h).2
theorem boxLen (k : Nat) : (boxSt k).2.2.length = 256 := by
  induction k with
  | zero => exact List.length_replicate
  | succ k ih => rw [boxSt_succ]; exact (List.length_set ..).trans ih
theorem boxT_len : boxT.length = 256 := (List.length_set ..).trans (boxLen 255)
attribute [irreducible] boxT
end Go.Proofs.Ytgpjbfedbncniaa
