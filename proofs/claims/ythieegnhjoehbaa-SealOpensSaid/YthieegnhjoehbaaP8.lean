/- Packets that came in, opened; the laws PacketTells, PacketReads, PacketPads, PacketEliciting: walked. -/
import Derived.Test.YthieegnhjoehbaaPB
namespace Go.Proofs.Ythieegnhjoehbaa
open Go.RowKit Go.Vc Go.ChangeShapes Go.WideShapes
set_option linter.unusedVariables false
def PkW : Rep Pk := fun C p cs => PkC C p cs ∧ (∀ f ∈ p.fs, Bytes f.data ∧ f.data.length ≤ maxLen ∧ f.rs.length ≤ maxLen) ∧ p.fs.length ≤ maxLen
theorem opens_pk : Opens Try.prog 25 3 PkW :=
 (opens_struct Try.underlying25 (by kernel_rfl) (fs_cons opens_i64 rfl (fs_cons opens_i64 rfl (fs_cons opens_frs rfl fs_nil)))).map (S := PkW)
  (fun a => ⟨a.1, a.2.1, a.2.2.1⟩) (by
   rintro C ⟨k, a, l, u⟩ cs ⟨_, c1, rfl, _, ⟨rfl, _⟩, _, c2, rfl, _, ⟨rfl, _⟩, _, c3, rfl, _, hr, rfl⟩
   obtain ⟨v, rfl, h1, h2, h3⟩ := rsl_frs hr
   exact ⟨⟨v, rfl, h1⟩, h2, h3⟩)
set_option maxRecDepth 100000 in
/-- A parameter Packet. -/
theorem open_packet {H : Type} {enc : TypeId × Value → H} {W : World} {base : Nat} {sp : Nat → Bool} {hd : Bool} {r : Reach} {b0 : Nat} {v : Value} {d : DataW H} {ps : List MemPlace}
  (hv : Value.okWide Try.prog W r b0 25 v) (h : DataW.Trod enc Try.prog W base sp hd 25 v d ps) :
  ∃ (p : Pk) (cs : List Value), v = .agg cs.toArray ∧ PkC (fun p x => W.cell? p = some x) p cs ∧ (∀ f ∈ p.fs, Bytes f.data ∧ f.data.length ≤ maxLen ∧ f.rs.length ≤ maxLen) ∧ p.fs.length ≤ maxLen := by
 obtain ⟨cs, rfl, _⟩ := okWide_struct Try.underlying25 hv
 obtain ⟨_, p, h1, h2, h3⟩ := opens_pk.arg h
 exact ⟨p, cs.toList, by simp, h1, h2, h3⟩
def HdR (s n : Int) (u : Value) (C : Addr → Value → Prop) : Prop := ∃ v, u = .tuple #[v, .int .i64 (hdE s n)] ∧ SlC C 1 v (hdB s n).length (row (hdB s n))
theorem hdR_of {f : FuncId} {s n : Int} {w : World} {Z : Nat → Prop} {vs : List Value} (h : Makes tb f vs w (HdM s n)) (hZ : ∀ b, w.heap.size ≤ b → Z b) : GivesP tb f vs w Z (HdR s n) := by
 refine givesP_of_makes h hZ ?_ ?_
 ·rintro u C C' hC ⟨v, rfl, hs⟩
  exact ⟨v, rfl, hs.mono hC⟩
 ·rintro u m' C ⟨base, len, cap, e, rfl, rfl, hs⟩ hC
  obtain rfl := sl_len8 hs
  exact ⟨_, rfl, slis_cz hs (hC e (.head _))⟩
theorem pure_cz_cel_agg {Z : Nat → Prop} {E : Env} {p : Addr} {x : Value} (h : Cz Z E p x) : Cel E p x := h.1
theorem few_big {fs : List Fr} (h : fewB fs = true) : (∀ f ∈ fs, f.data.length ≤ maxLen) ∧ fs.length ≤ maxLen ∧ fs.length ≤ 30 ∧ (∀ f ∈ fs, f.rs.length ≤ 140737488355328) := by
 have h1 := few_in h
 have hm : 3000 ≤ maxLen := by decide
 exact ⟨fun f hf => Nat.le_trans (h1.2 f hf).1 hm, by omega, h1.1, fun f hf => by have := (h1.2 f hf).2; omega⟩
theorem pG_in {b : List Int} (hb : Bytes b) : (∀ f ∈ (pG b).fs, Bytes f.data) ∧ wrOk (pG b).fs = true := by
 unfold pG
 cases h : pRd b with
 | none => exact ⟨(by intro f hf; cases hf), rfl⟩
 | some p =>
  obtain ⟨h1, h2, h3⟩ := pRd_in hb h
  exact ⟨h3, (pOk_in h1).2.1⟩
theorem pPad_in {size : Int} {l : List Fr} (hb : ∀ f ∈ l, Bytes f.data) : (∀ f ∈ (pPad size l).getD [], Bytes f.data ∧ f.rs.length ≤ 16) ∧ ((pPad size l).getD []).length ≤ 17 := by
 unfold pPad
 split
 ·rename_i hok
  have h16 := (wrOk_in hok).1
  have hbg := wrOk_big hok
  split
  ·exact ⟨fun f hf => ⟨hb f hf, (hbg f hf).2⟩, by show l.length ≤ 17; omega⟩
  ·split
   ·exact ⟨(by intro f hf; cases hf), Nat.zero_le _⟩
   ·cases pFind (size - ((wBs l).length : Int)) with
    | none => exact ⟨(by intro f hf; cases hf), Nat.zero_le _⟩
    | some n =>
     refine ⟨fun f hf => ?_, by show (l ++ [padN n]).length ≤ 17; rw [List.length_append, List.length_singleton]; omega⟩
     replace hf : f ∈ l ++ [padN n] := hf
     rcases List.mem_append.1 hf with hf | hf
     ·exact ⟨hb f hf, (hbg f hf).2⟩
     ·rw [List.mem_singleton.1 hf]
      exact ⟨(by intro x hx; cases hx), Nat.zero_le _⟩
 ·exact ⟨(by intro f hf; cases hf), Nat.zero_le _⟩
end Go.Proofs.Ythieegnhjoehbaa
