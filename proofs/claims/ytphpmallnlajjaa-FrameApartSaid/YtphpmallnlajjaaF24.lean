/- Write and Read, as contracts of memory that nobody writes any more. -/
import Derived.Test.YtphpmallnlajjaaF23
import Derived.Test.YtphpmallnlajjaaVk
namespace Go.Proofs.Ytphpmallnlajjaa
open Go.RowKit Go.Vc
set_option linter.unusedVariables false

theorem frs_cz {C : Addr → Value → Prop} {L : List FrX} {e : Ent} {base : Option Addr} {cap : Nat} (hs : SlIs ty33 33 e base L.length cap (L.flatMap FrX.cells)) (hL : ∀ x ∈ L, x.Ok)
    (hC : ∀ e' ∈ e :: ents L, ∀ j x, e'.cells[j]? = some x → C ⟨e'.blk, j, none⟩ x) : FrsC C (.slice base L.length cap) (L.map FrX.f) := by
  refine ⟨L.map FrX.cells, by simp, fun i f cs hf hc => ?_, ?_⟩
  · rw [List.getElem?_map] at hf hc
    cases hx : L[i]? with
    | none => rw [hx] at hf; cases hf
    | some x =>
      rw [hx] at hf hc
      cases hf
      cases hc
      have hm := List.mem_of_getElem? hx
      exact ⟨_, _, rfl, slis_cz (hL x hm).rs (hC _ (.tail _ (ents_er hm))), slis_cz (hL x hm).data (hC _ (.tail _ (ents_ed hm)))⟩
  · rw [List.length_map, ← List.flatMap_def]
    exact slis_cz hs (hC _ (.head _))
def WrR (fs : List Fr) (u : Value) (C : Addr → Value → Prop) : Prop := ∃ v, u = .tuple #[v, .int .i64 (if wrOk fs = true then 0 else 20)] ∧ SlC C 1 v (wBs fs).length (row (wBs fs))
theorem write_P (fs : List Fr) (v : Value) (w : World) {Z : Nat → Prop} (hZ : ∀ b, w.heap.size ≤ b → Z b) (hv : FrsC (At w) v fs) (hbig : ∀ f ∈ fs, f.data.length ≤ maxLen) : GivesP tb 13 [v] w Z (WrR fs) := by
  refine givesP_of_makes (write_any fs v w hv hbig) hZ ?_ ?_
  · rintro u C C' hC ⟨v, rfl, hs⟩
    exact ⟨v, rfl, hs.mono hC⟩
  · rintro u m' C ⟨base, len, cap, e, rfl, rfl, hs⟩ hC
    obtain rfl := sl_len8 hs
    exact ⟨_, rfl, slis_cz hs (hC e (.head _))⟩
def RdR (b : List Int) (u : Value) (C : Addr → Value → Prop) : Prop := ∃ v, u = .tuple #[v, .int .i64 (if (rdAll b).isSome = true then 0 else 20)] ∧ FrsC C v ((rdAll b).getD [])
theorem read_P (b : List Int) (v : Value) (w : World) {Z : Nat → Prop} (hZ : ∀ b, w.heap.size ≤ b → Z b) (hv : SlC (At w) 1 v b.length (row b)) (hb : Bytes b) (hle : b.length ≤ 70368744177664) : GivesP tb 19 [v] w Z (RdR b) := by
  have hs := hv.slv
  obtain ⟨base, cap, rfl, -, -, -⟩ := hv
  refine givesP_of_makes (read_any b base cap w hs hb hle) hZ ?_ ?_
  · rintro u C C' hC ⟨v, rfl, hs⟩
    exact ⟨v, rfl, hs.mono hC⟩
  · rintro u m' C ⟨base', cap', es, L, rfl, rfl, hL, hok, hs⟩ hC
    refine ⟨_, rfl, ?_⟩
    rw [← hL]
    exact frs_cz hs hok hC
theorem wBs_bytes {fs : List Fr} (h : ∀ f ∈ fs, Bytes f.data) : Bytes (wBs fs) := by
  unfold wBs
  split
  · intro x hx
    obtain ⟨f, hf, hx⟩ := List.mem_flatMap.1 hx
    unfold fbytes at hx
    rcases List.mem_append.1 hx with hx | hx
    · rcases List.mem_append.1 hx with hx | hx
      · obtain ⟨n, _, hx⟩ := List.mem_flatMap.1 hx
        exact vb_bytes n x hx
      · exact h f hf x hx
    · split at hx
      · have := List.eq_of_mem_replicate hx
        omega
      · cases hx
  · intro x hx; cases hx
theorem wBs_ok {fs : List Fr} (h : wrOk fs = true) : wBs fs = fs.flatMap fbytes := if_pos h
theorem wBs_no {fs : List Fr} (h : wrOk fs = false) : wBs fs = [] := if_neg (by rw [h]; decide)
/-- What is read of what was written. -/
theorem rd_wBs {fs : List Fr} (h : wrOk fs = true) : rdAll (wBs fs) = some fs := by rw [wBs_ok h]; exact rdAll_write h
theorem rdGet_in {b : List Int} (hb : Bytes b) : wrOk ((rdAll b).getD []) = true ∧ (∀ f ∈ (rdAll b).getD [], Bytes f.data) := by
  cases h : rdAll b with
  | none => exact ⟨rfl, by intro f hf; cases hf⟩
  | some fs => exact ⟨(rdAll_read hb h).2.1, (rdAll_read hb h).2.2⟩
theorem wrOk_big {fs : List Fr} (h : wrOk fs = true) : ∀ f ∈ fs, f.data.length ≤ maxLen ∧ f.rs.length ≤ 16 := fun f hf => by
  have h1 := fok_in ((wrOk_in h).2 f hf)
  exact ⟨Nat.le_trans h1.2.2.2.2.2.2.2.1 (by decide), h1.2.2.2.2.2.2.1⟩
/-- A slice of bytes, as a string. -/
theorem slc_str {C : Addr → Value → Prop} {v : Value} {l : List Int} (h : SlC C 1 v l.length (row l)) : ∃ base cap, v = .slice base l.length cap ∧ l.length ≤ cap := by
  obtain ⟨base, cap, rfl, h1, _⟩ := h
  exact ⟨base, cap, rfl, h1⟩
theorem pure_cz_string {Z : Nat → Prop} {E : Env} {rs : Rs} {m : Mem} {dst : Option Tmp} {ty : TypeId} {pos : String} {aft : Array Edge} {gd : Option (Nat × Bool)} {x : Operand} {S T eT : TypeId} {d d2 u : Ty} {v : Value} {ns : List Int}
    (hx : ev rs x = some v) (hS : tb.ty S = some d) (hd : d.desc = .slice eT) (hu : tb.ty eT = some u) (hud : u.desc = .int .u8)
    (hT : tb.ty T = some d2) (hd2 : d2.desc = .string) (hs : SlC (Cz Z E) 1 v ns.length (row ns)) : Pure tb E rs m ⟨dst, .convert S T x, ty, pos, aft, gd⟩ (.string (str ns)) :=
  pure_sl_string hx hS hd hu hud hT hd2 (fun w hh kp => (hs.mono (Cz.now kp)).slv)
end Go.Proofs.Ytphpmallnlajjaa
