/- The document's reading of one frame, plain: numbers parsed one behind the other; the frame that they make. -/
import Derived.Test.YtphpmallnlajjaaF26
namespace Go.Proofs.Ytphpmallnlajjaa
open Go.RowKit Go.Vc
set_option linter.unusedVariables false
set_option linter.unusedSimpArgs false

/-- Numbers one behind the other, at most k: each with the place behind it. -/
def ps : Nat → List Int → Nat → List (Int × Nat)
  | 0, _, _ => []
  | k + 1, b, o => match gt (b.drop o) with
    | none => []
    | some (n, s) => (n, o + s) :: ps k b (o + s)
theorem ps_stop {k : Nat} {b : List Int} {o : Nat} (h : gt (b.drop o) = none) : ps k b o = [] := by
  cases k with
  | zero => rfl
  | succ k => unfold ps; rw [h]
theorem ps_go {k : Nat} {b : List Int} {o : Nat} {n : Int} {s : Nat} (h : gt (b.drop o) = some (n, s)) : ps (k + 1) b o = (n, o + s) :: ps k b (o + s) := by
  show (match gt (b.drop o) with | none => [] | some (n, s) => (n, o + s) :: ps k b (o + s)) = _
  rw [h]
def offs : Nat → List Int → List (Int × Nat)
  | _, [] => []
  | o, n :: ns => (n, o + vsize n) :: offs (o + vsize n) ns
theorem ps_vb : ∀ (ns : List Int) (p t : List Int) (k : Nat), (∀ n ∈ ns, 0 ≤ n ∧ n < 4611686018427387904) → ns.length ≤ k →
    ∃ rest, ps k (p ++ (ns.flatMap vb ++ t)) p.length = offs p.length ns ++ rest
  | [], p, t, k, _, _ => ⟨_, rfl⟩
  | n :: ns, p, t, 0, _, hk => by simp at hk
  | n :: ns, p, t, k + 1, h, hk => by
    obtain ⟨h0, h1⟩ := h n (.head _)
    have hg : gt ((p ++ ((n :: ns).flatMap vb ++ t)).drop p.length) = some (n, vsize n) := by
      rw [List.drop_left, List.flatMap_cons, List.append_assoc]
      exact gt_vb n _ h0 h1
    rw [ps_go hg]
    obtain ⟨rest, hr⟩ := ps_vb ns (p ++ vb n) t k (fun x hx => h x (.tail _ hx)) (by simpa using hk)
    refine ⟨rest, ?_⟩
    rw [List.length_append, vb_len] at hr
    rw [show p ++ ((n :: ns).flatMap vb ++ t) = p ++ vb n ++ (ns.flatMap vb ++ t) by rw [List.flatMap_cons]; simp [List.append_assoc], hr]
    rfl
theorem offs_len : ∀ (ns : List Int) (o : Nat), (offs o ns).length = ns.length
  | [], _ => rfl
  | n :: ns, o => by show (offs _ ns).length + 1 = _; rw [offs_len ns]; rfl
theorem offs_fst : ∀ (ns : List Int) (o : Nat), (offs o ns).map Prod.fst = ns
  | [], _ => rfl
  | n :: ns, o => by show n :: (offs _ ns).map Prod.fst = _; rw [offs_fst ns]
theorem offs_last : ∀ (ns : List Int) (o : Nat), (o :: (offs o ns).map Prod.snd).getD ns.length 0 = o + (ns.flatMap vb).length
  | [], o => by simp [offs]
  | n :: ns, o => by
    have := offs_last ns (o + vsize n)
    rw [List.flatMap_cons, List.length_append, vb_len]
    show ((o + vsize n) :: (offs (o + vsize n) ns).map Prod.snd).getD ns.length 0 = _
    rw [this]
    omega
/-- The i-th number, and the place ahead of the i-th. -/
def pN (P : List (Int × Nat)) (i : Nat) : Int := (P.map Prod.fst).getD i 0
def pA (P : List (Int × Nat)) (i : Nat) : Nat := (0 :: P.map Prod.snd).getD i 0
def cnt (P : List (Int × Nat)) : Nat := if pN P 0 = 2 then (min (pN P 2) 16).toNat else 0
/-- The frame that numbers make, but for its data. -/
def mk0 (P : List (Int × Nat)) : Fr := ⟨pN P 0, if pN P 0 = 1 then 0 else pN P 1, if pN P 0 = 3 ∨ pN P 0 = 5 then pN P 2 else 0, (List.range (cnt P)).map fun i => (pN P (3 + 2 * i), pN P (4 + 2 * i)), []⟩
def used0 (P : List (Int × Nat)) : Nat := if pN P 0 = 2 then 3 + 2 * cnt P else if pN P 0 = 3 ∨ pN P 0 = 5 then 3 else if pN P 0 = 1 then 1 else 2
def hasD (P : List (Int × Nat)) : Bool := pN P 0 == 3 || pN P 0 == 4
def datN (P : List (Int × Nat)) : Int := if hasD P = true then pN P (used0 P) else 0
def used1 (P : List (Int × Nat)) : Nat := if hasD P = true then used0 P + 1 else used0 P
def lost1 (P : List (Int × Nat)) (b : List Int) : Bool := decide (P.length < used1 P) || decide ((b.length : Int) - pA P (used1 P) < datN P)
def mkF (P : List (Int × Nat)) (b : List Int) : Fr := { mk0 P with data := if 0 < datN P then (b.drop (pA P (used1 P))).take (datN P).toNat else [] }
theorem getD_app_left {α : Type} (a b : List α) (i : Nat) (d : α) (h : i < a.length) : (a ++ b).getD i d = a.getD i d := by
  rw [List.getD_eq_getElem?_getD, List.getD_eq_getElem?_getD, List.getElem?_append_left h]
theorem pN_of {ns : List Int} {rest : List (Int × Nat)} {i : Nat} (h : i < ns.length) : pN (offs 0 ns ++ rest) i = ns.getD i 0 := by
  unfold pN
  rw [List.map_append, offs_fst, getD_app_left _ _ _ _ h]
theorem pA_of {ns : List Int} {rest : List (Int × Nat)} : pA (offs 0 ns ++ rest) ns.length = (ns.flatMap vb).length := by
  unfold pA
  rw [List.map_append, ← List.cons_append, getD_app_left _ _ _ _ (by simp [offs_len])]
  have := offs_last ns 0
  omega
theorem nuR_get (rs : List (Int × Int)) (i : Nat) (h : i < rs.length) : (nuR rs).getD (2 * i) 0 = (rs.getD i (0, 0)).1 ∧ (nuR rs).getD (2 * i + 1) 0 = (rs.getD i (0, 0)).2 := by
  induction rs generalizing i with
  | nil => simp at h
  | cons r rs ih =>
    cases i with
    | zero => exact ⟨rfl, rfl⟩
    | succ i =>
      have := ih i (by simpa using h)
      show (r.1 :: r.2 :: nuR rs).getD (2 * i + 2) 0 = _ ∧ (r.1 :: r.2 :: nuR rs).getD (2 * i + 2 + 1) 0 = _
      exact this
theorem range_rs (rs : List (Int × Int)) (g : Nat → Int × Int) (h : ∀ i, i < rs.length → g i = rs.getD i (0, 0)) : (List.range rs.length).map g = rs := by
  refine List.ext_getElem (by simp) fun i h1 h2 => ?_
  simp at h1
  rw [List.getElem_map, List.getElem_range, h i h1, List.getD_eq_getElem?_getD, List.getElem?_eq_getElem h1]
  rfl
/-- Of bytes that a frame begins, the numbers make that frame. -/
theorem mkF_of {f : Fr} {r : List Int} (h : fok f = true) : lost1 (ps 40 (fbytes f ++ r) 0) (fbytes f ++ r) = false ∧ mkF (ps 40 (fbytes f ++ r) 0) (fbytes f ++ r) = f := by
  have hin := nums_in h
  obtain ⟨k0, k7, ha0, ha1, hb0, hb1, hr16, hd2, hp0, hrs⟩ := fok_in h
  obtain ⟨w1, w2, w3, w4⟩ := fok_want h
  have hlen := fnums_len f
  have hb : fbytes f ++ r = (fnums f).flatMap vb ++ (f.data ++ (pad f ++ r)) := by
    unfold fbytes pad
    simp [List.append_assoc]
  obtain ⟨rest, hP⟩ := ps_vb (fnums f) [] (f.data ++ (pad f ++ r)) 40 hin (by omega)
  rw [List.nil_append, ← hb] at hP
  change ps 40 (fbytes f ++ r) 0 = offs 0 (fnums f) ++ rest at hP
  have hN : ∀ i, i < (fnums f).length → pN (ps 40 (fbytes f ++ r) 0) i = (fnums f).getD i 0 := fun i hi => by rw [hP]; exact pN_of hi
  have hA : pA (ps 40 (fbytes f ++ r) 0) (fnums f).length = ((fnums f).flatMap vb).length := by rw [hP]; exact pA_of
  have hPl : (fnums f).length ≤ (ps 40 (fbytes f ++ r) 0).length := by rw [hP, List.length_append, offs_len]; omega
  have hbl : (fbytes f ++ r).length = ((fnums f).flatMap vb).length + f.data.length + (pad f ++ r).length := by rw [hb]; simp [Nat.add_assoc]
  have hdr : ((fbytes f ++ r).drop ((fnums f).flatMap vb).length).take f.data.length = f.data := by rw [hb, List.drop_left, List.take_left]
  generalize ps 40 (fbytes f ++ r) 0 = P at *
  generalize fbytes f ++ r = b at *
  -- from here: what the numbers are, kind by kind
  have hkk : f.kind = 1 ∨ f.kind = 2 ∨ f.kind = 3 ∨ f.kind = 4 ∨ f.kind = 5 ∨ (f.kind = 0 ∨ f.kind = 6 ∨ f.kind = 7) := by omega
  have fin : ∀ (hu : used1 P = (fnums f).length) (hd : datN P = (f.data.length : Int)) (hm : mk0 P = { f with data := [] }), lost1 P b = false ∧ mkF P b = f := by
    intro hu hd hm
    constructor
    · unfold lost1
      rw [hu, hd, hA, hbl, decide_eq_false (by omega), decide_eq_false (by omega)]
      rfl
    · unfold mkF
      rw [hm, hu, hd, hA]
      cases hz : f.data with
      | nil =>
        simp
        cases f
        simp_all
      | cons x l =>
        rw [if_pos (by simp only [List.length_cons]; omega), show (((x :: l).length : Nat) : Int).toNat = f.data.length by rw [hz, Int.toNat_natCast], hdr]
  rcases hkk with hk | hk | hk | hk | hk | hk
  · have hf : fnums f = [1] := by unfold fnums nu4 nu3 nu2 nu1; simp [hk, wantB, wantR, wantD] at w3 ⊢; simp [w3, nuR]
    rw [hf] at hN fin
    have n0 := hN 0 (by decide)
    simp at n0
    simp [hk, wantB, wantR, wantD] at w1 w2 w3 w4
    refine fin (by simp [used1, hasD, used0, n0]) (by simp [datN, hasD, n0, w4]) ?_
    unfold mk0 cnt
    cases f
    simp_all
  · have hf : fnums f = 2 :: f.a :: (f.rs.length : Int) :: nuR f.rs := by unfold fnums nu4 nu3 nu2 nu1; simp [hk, wantB, wantR, wantD]
    have hrl : 1 ≤ f.rs.length := by
      have h2 := ((fok2 hk).1 h).2.2.2.1
      unfold rgOk inB at h2
      simp at h2
      omega
    have hl := nuR_len f.rs
    rw [hf] at hN fin
    have n0 := hN 0 (by simp)
    have n1 := hN 1 (by simp)
    have n2 := hN 2 (by simp)
    simp at n0 n1 n2
    have hc : cnt P = f.rs.length := by unfold cnt; rw [if_pos n0, n2]; omega
    simp [hk, wantB, wantR, wantD] at w2 w4
    refine fin (by simp [used1, hasD, used0, n0, hc, hl]; omega) (by simp [datN, hasD, n0, w4]) ?_
    unfold mk0
    rw [hc, range_rs f.rs _ (fun i hi => by
      have h3 := hN (3 + 2 * i) (by simp [hl]; omega)
      have h4 := hN (4 + 2 * i) (by simp [hl]; omega)
      have h5 := nuR_get f.rs i hi
      rw [show 3 + 2 * i = (2 * i) + 1 + 1 + 1 by omega] at h3
      rw [show 4 + 2 * i = (2 * i + 1) + 1 + 1 + 1 by omega] at h4
      simp only [List.getD_cons_succ] at h3 h4
      rw [show 3 + 2 * i = (2 * i) + 1 + 1 + 1 by omega, show 4 + 2 * i = (2 * i + 1) + 1 + 1 + 1 by omega, h3, h4, h5.1, h5.2])]
    cases f
    simp_all
  · have hf : fnums f = [3, f.a, f.b, (f.data.length : Int)] := by unfold fnums nu4 nu3 nu2 nu1; simp [hk, wantB, wantR, wantD] at w3 ⊢; simp [w3, nuR]
    rw [hf] at hN fin
    have n0 := hN 0 (by simp)
    have n1 := hN 1 (by simp)
    have n2 := hN 2 (by simp)
    have n3 := hN 3 (by simp)
    simp at n0 n1 n2 n3
    simp [hk, wantB, wantR, wantD] at w3
    refine fin (by simp [used1, hasD, used0, n0]) (by simp [datN, hasD, used0, n0, n3]) ?_
    unfold mk0 cnt
    cases f
    simp_all
  · have hf : fnums f = [4, f.a, (f.data.length : Int)] := by unfold fnums nu4 nu3 nu2 nu1; simp [hk, wantB, wantR, wantD] at w3 ⊢; simp [w3, nuR]
    rw [hf] at hN fin
    have n0 := hN 0 (by simp)
    have n1 := hN 1 (by simp)
    have n2 := hN 2 (by simp)
    simp at n0 n1 n2
    simp [hk, wantB, wantR, wantD] at w2 w3
    refine fin (by simp [used1, hasD, used0, n0]) (by simp [datN, hasD, used0, n0, n2]) ?_
    unfold mk0 cnt
    cases f
    simp_all
  · have hf : fnums f = [5, f.a, f.b] := by unfold fnums nu4 nu3 nu2 nu1; simp [hk, wantB, wantR, wantD] at w3 ⊢; simp [w3, nuR]
    rw [hf] at hN fin
    have n0 := hN 0 (by simp)
    have n1 := hN 1 (by simp)
    have n2 := hN 2 (by simp)
    simp at n0 n1 n2
    simp [hk, wantB, wantR, wantD] at w3 w4
    refine fin (by simp [used1, hasD, used0, n0]) (by simp [datN, hasD, used0, n0, w4]) ?_
    unfold mk0 cnt
    cases f
    simp_all
  · have hf : fnums f = [f.kind, f.a] := by
      unfold fnums nu4 nu3 nu2 nu1
      rcases hk with hk | hk | hk <;> simp [hk, wantB, wantR, wantD] at w3 ⊢ <;> simp [w3, nuR]
    rw [hf] at hN fin
    have n0 := hN 0 (by simp)
    have n1 := hN 1 (by simp)
    simp at n0 n1
    rcases hk with hk | hk | hk <;> simp [hk, wantB, wantR, wantD] at w2 w3 w4 <;> rw [hk] at n0 <;> refine fin (by simp [used1, hasD, used0, n0]) (by simp [datN, hasD, used0, n0, w4]) ?_ <;> unfold mk0 cnt <;> cases f <;> simp_all
/-- The frame that bytes begin with. -/
def oneP (b : List Int) : Option Fr := if (rdZ (b, false)).2 = false ∧ fok (rdFrame (b, false)) = true then some (rdFrame (b, false)) else none
theorem oneP_of {f : Fr} {r : List Int} (h : fok f = true) : oneP (fbytes f ++ r) = some f := by
  have h1 := read_write f h r
  unfold oneP
  rw [h1.1, h1.2]
  simp [h]
theorem oneP_in {b : List Int} {f : Fr} (hb : Bytes b) (h : oneP b = some f) : fok f = true ∧ b = fbytes f ++ (rdZ (b, false)).1 := by
  unfold oneP at h
  split at h
  · rename_i h1
    cases h
    exact ⟨h1.2, write_read hb h1.1 h1.2⟩
  · cases h
end Go.Proofs.Ytphpmallnlajjaa
