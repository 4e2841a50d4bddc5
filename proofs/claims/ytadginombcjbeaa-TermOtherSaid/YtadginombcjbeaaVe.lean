/- Slices and strings: what their operations do. -/
import Derived.Test.YtadginombcjbeaaVd
import Derived.Test.YtadginombcjbeaaVb
import Derived.Laws.AppendOwn
import Derived.Laws.MakeOwn
import Derived.Laws.BytesString
namespace Go.Vc
open Go.RowKit
set_option linter.unusedVariables false
section s
variable {B : Tb} {E : Env} {n : Nat} {all rest : List Oper} {rs : Rs} {m : Mem} {K : Act → World → Prop}
variable {dst : Option Tmp} {ty : TypeId} {pos : String} {aft : Array Edge} {gd : Option (Nat × Bool)}
/-- All of an array, as a slice. -/
theorem pure_slice_all {x : Operand} {T eT : TypeId} {b off len : Nat} {d u : Ty} (hx : ev rs x = some (.pointer (some ⟨b, off, none⟩)))
    (hT : B.ty T = some d) (hd : d.desc = .array len eT) (hu : B.ty eT = some u) :
    Pure B E rs m ⟨dst, .slice T x none none none, ty, pos, aft, gd⟩ (.slice (some ⟨b, off, none⟩) len len) := by
  refine ⟨fun a w hr hh hk => ?_⟩
  have h1 := ty_under hT (by rw [hd]; rfl) w
  rw [hd] at h1
  simp [execOp, ev_ok hr hx, Instr.sliceAt, h1, Instr.sureAddr, Instr.sliceBounds, ty_size hu, add_none]
/-- An element of a slice, wherever it lies. -/
theorem pure_indexAddr_at {x y : Operand} {T eT : TypeId} {len cap : Nat} {p : Addr} {k : IntKind} {i : Int} {d u : Ty}
    (hx : ev rs x = some (.slice (some p) len cap)) (hy : ev rs y = some (.int k i)) (hT : B.ty T = some d) (hd : d.desc = .slice eT)
    (hu : B.ty eT = some u) (h0 : 0 ≤ i) (h1 : i < len) :
    Pure B E rs m ⟨dst, .indexAddr T x y, ty, pos, aft, gd⟩ (.pointer (some (p.add (i.toNat * u.size)))) := by
  refine ⟨fun a w hr hh hk => ?_⟩
  simp [execOp, ev_ok hr hx, ev_ok hr hy, Instr.indexAt, asIntOf, hd ▸ ty_under hT (by rw [hd]; rfl), h0, h1, ty_size hu]
/-- A cell that lay there when all began, wherever. -/
theorem pure_view_at {x : Operand} {T : TypeId} {p : Addr} {d : Ty} {v : Value} (hx : ev rs x = some (.pointer (some p)))
    (hT : B.ty T = some d) (hd : d.agg = false) (hc : E.w0.cell? p = some v) (hb : p.block ∉ E.ws) :
    Pure B E rs m ⟨dst, .load T x, ty, pos, aft, gd⟩ v := by
  refine ⟨fun a w hr hh hk => ?_⟩
  have hlt : p.block < E.w0.heap.size := World.block_lt_of_cell? _ _ hc
  have hc' : w.cell? p = some v := by
    unfold World.cell? at hc ⊢
    rw [hk.block p.block hlt hb]
    exact hc
  simp [execOp, ev_ok hr hx, Instr.loadAt, Instr.sureAddr, loadVar, ty_agg hT, hd, hc']
/-- A struct or an array that lay there when all began. -/
theorem pure_view_agg {x : Operand} {T t : TypeId} {b off : Nat} {d : Ty} {cs vs : List Value} (hx : ev rs x = some (.pointer (some ⟨b, off, none⟩)))
    (hT : B.ty T = some d) (hd : d.agg = true) (hc : E.w0.heap[b]? = some (.cells cs.toArray t (0, 0))) (hb : b ∉ E.ws) (hl : off + d.size ≤ cs.length)
    (hv : (cs.drop off).take d.size = vs) : Pure B E rs m ⟨dst, .load T x, ty, pos, aft, gd⟩ (.agg vs.toArray) := by
  refine ⟨fun a w hr hh hk => ?_⟩
  have hc' : w.heap[b]? = some (.cells cs.toArray t (0, 0)) := (hk.block b (lt_of_heap hc) hb).trans hc
  subst hv
  simp [execOp, ev_ok hr hx, Instr.loadAt, Instr.sureAddr, loadVar, ty_agg hT, hd, ty_size hT, run_loadCells hc' _ hl]
/-- What is asked of a type whose values stand in a row: its size, its bytes, its zero value. -/
def ElemIs (B : Tb) (T : TypeId) (u : Ty) (bytes : Nat) (z : List Value) : Prop :=
  ∃ (i : TypeInfo) (zv : Value), B.P.info? T = some i ∧ i.size = u.size ∧ i.bytes = bytes ∧ i.zero = some zv ∧ zv.cells = z.toArray
theorem under_of {T : TypeId} {d : Ty} {eT : TypeId} (hT : B.ty T = some d) (hd : d.desc = .slice eT) : B.P.underlying T = some (.slice eT) := by
  have := Tb.tyOf hT
  unfold Vc.tyOf at this
  cases hu : B.P.underlying T with
  | none => simp [hu] at this
  | some u =>
    cases hi : B.P.info? T with
    | none => simp [hu, hi] at this
    | some i =>
      simp [hu, hi] at this
      subst this
      cases u <;> simp_all [slim]
/-- What a new row holds. -/
def rowOf (z : List Value) (k : Nat) : List Value := (madeCells z.toArray k).toList
theorem eff_make {x y : Operand} {T eT : TypeId} {l c : Nat} {d u : Ty} {z : List Value} {bytes : Nat} (hx : ev rs x = some (.int .i64 l)) (hy : ev rs y = some (.int .i64 c))
    (hT : B.ty T = some d) (hd : d.desc = .slice eT) (hz : ElemIs B eT u bytes z) (hlc : l ≤ c) (hb : bytes * c ≤ 281474976710656) (h63 : c ≤ 9223372036854775807) :
    Eff B E rs m ⟨dst, .makeSlice T x y, ty, pos, aft, gd⟩ (fun v m' => ∃ b, v = .slice (some ⟨b, 0, none⟩) l c ∧ m' = ⟨b, rowOf z (c * u.size), eT⟩ :: m) := by
  refine ⟨fun a w hr hh ho hk => ?_⟩
  obtain ⟨i, zv, h1, h2, h3, h4, h5⟩ := hz
  have hr1 := run_make (P := B.P) w T eT i zv (under_of hT hd) h1 h4 .i64 .i64 l c (by omega) (by omega) (by rw [h3]; have : ((bytes * c : Nat) : Int) ≤ 281474976710656 := by omega
                                                                                                             rwa [Int.natCast_mul] at this) (by omega)
  simp only [Int.toNat_natCast, h2, h5] at hr1
  refine ⟨.value (.slice (some ⟨w.heap.size, 0, none⟩) l c), w.alloc (.cells (madeCells z.toArray (c * u.size)) eT), .slice (some ⟨w.heap.size, 0, none⟩) l c, ⟨w.heap.size, rowOf z (c * u.size), eT⟩ :: m, ?_, .inl rfl, ?_, ⟨fun _ => .inl hk.size, ho⟩, ?_, _, rfl, rfl⟩
  · simp [execOp, ev_ok hr hx, ev_ok hr hy, hr1]
  · have := hh.alloc (rowOf z (c * u.size)) eT
    simpa [rowOf] using this
  · exact hk.alloc _
theorem step_make {x y : Operand} {T eT : TypeId} {l c : Nat} {d u : Ty} {z : List Value} {bytes e : Nat} (hc : chk all n rs ⟨dst, .makeSlice T x y, ty, pos, aft, gd⟩ = some e)
    (hx : ev rs x = some (.int .i64 l)) (hy : ev rs y = some (.int .i64 c))
    (hT : B.ty T = some d) (hd : d.desc = .slice eT) (hz : ElemIs B eT u bytes z) (hlc : l ≤ c) (hb : bytes * c ≤ 281474976710656) (h63 : c ≤ 9223372036854775807)
    (h : ∀ b, WPl B E n all rest ((e, .slice (some ⟨b, 0, none⟩) l c) :: rs) (⟨b, rowOf z (c * u.size), eT⟩ :: m) K) :
    WPl B E n all (⟨dst, .makeSlice T x y, ty, pos, aft, gd⟩ :: rest) rs m K := by
  obtain ⟨h1, h2, h3⟩ := chk_ok hc
  refine step_eff h1 (by rw [h2]; exact h3) (eff_make hx hy hT hd hz hlc hb h63) ?_
  rintro v m' ⟨b, rfl, rfl⟩
  rw [h2]
  exact h b
/-- A slice literal. -/
theorem eff_buildSlice {T eT : TypeId} {len : Nat} {ps : List (Nat × Operand)} {vs : List (Nat × Value)} {d u : Ty} {z cs : List Value} {bytes : Nat} (hv : evp rs ps = some vs)
    (hT : B.ty T = some d) (hd : d.desc = .slice eT) (hz : ElemIs B eT u bytes z) (hpos : len * u.size ≠ 0) (hle : len * u.size ≤ 16777216)
    (hf : fillL (fun i => some (i * u.size, u.size)) (rowOf z (len * u.size)) vs = some cs) :
    Eff B E rs m ⟨dst, .buildSlice T len ps.toArray, ty, pos, aft, gd⟩ (fun v m' => ∃ b, v = .slice (some ⟨b, 0, none⟩) len len ∧ m' = ⟨b, cs, eT⟩ :: m) := by
  refine ⟨fun a w hr hh ho hk => ?_⟩
  obtain ⟨i, zv, h1, h2, h3, h4, h5⟩ := hz
  have e1 : (ps.toArray.map fun (i, x) => (i, a.eval x)).toList = vs := by
    rw [List.map_toArray]
    exact evp_ok hr hv
  have hfill := fill_ok hf
  have e2 : (rowOf z (len * u.size)).toArray = (Array.range (len * i.size)).map (zv.cells[· % zv.cells.size]!) := by
    rw [h2, h5]
    exact Array.toArray_toList
  rw [e2, ← e1, ← h2] at hfill
  refine ⟨_, w.alloc (.cells cs.toArray eT), .slice (some ⟨w.heap.size, 0, none⟩) len len, ⟨w.heap.size, cs, eT⟩ :: m, ?_, .inl rfl, hh.alloc cs eT, ⟨fun _ => .inl hk.size, ho⟩, hk.alloc _, _, rfl, rfl⟩
  have hu := under_of hT hd
  have n1 : ¬ len * i.size > 2 ^ 24 := by rw [h2]; omega
  have n2 : ¬ len * i.size = 0 := by rw [h2]; exact hpos
  have key : (Instr.buildSlice T len (ps.toArray.map fun (i, x) => (i, a.eval x))).run B.P w = .ok (.slice (some ⟨w.heap.size, 0, none⟩) len len) (w.alloc (.cells cs.toArray eT)) := by
    generalize hg : (ps.toArray.map fun (i, x) => (i, a.eval x)) = parts at hfill ⊢
    simp [Instr.buildSlice, run_underlying hu, sizeOf, typeInfo, zeroValue, h1, h4, n1, n2, hfill, newRow]
  simp only [execOp, Sem.run_bind, key, Result.andThen_ok, Sem.run_pure]
/-- A slice whose cells stand in a block of one's own, from its start; of a slice without room nothing is said. -/
structure SlIs (u : Ty) (eT : TypeId) (e : Ent) (base : Option Addr) (len cap : Nat) (xs : List Value) : Prop where
  size : e.cells.length = cap * u.size
  le : len ≤ cap
  at_ : e.cells ≠ [] → base = some ⟨e.blk, 0, none⟩ ∧ e.elem = eT
  xs : e.cells.take (len * u.size) = xs
theorem SlIs.len {u : Ty} {eT : TypeId} {e : Ent} {base : Option Addr} {len cap : Nat} {xs : List Value} (h : SlIs u eT e base len cap xs) : xs.length = len * u.size := by
  rw [← h.xs, List.length_take, h.size]
  exact Nat.min_eq_left (Nat.mul_le_mul_right _ h.le)
def hole : Ent := ⟨0, [], 0⟩
theorem sl_nil (u : Ty) (eT : TypeId) (h : 0 < u.size) : SlIs u eT hole none 0 0 [] := ⟨by simp [hole], Nat.le_refl _, fun h => absurd rfl h, by simp [hole]⟩
theorem has_hole {w : World} {m : Mem} : Has w (hole :: m) ↔ Has w m := ⟨fun h => h.2.2, fun h => ⟨fun h => absurd rfl h, fun h => absurd rfl h, h⟩⟩
theorem own_hole {m : Mem} : Own E (hole :: m) ↔ Own E m := ⟨fun h => h.2, fun h => ⟨fun h => absurd rfl h, h⟩⟩
/-- A place for a slice that is nil yet. -/
theorem step_hole (h : WPl B E n all rest rs (hole :: m) K) : WPl B E n all rest rs m K :=
  ⟨fun Q hQ a w ok => h.run Q hQ a w ⟨ok.size, ok.defers, ok.regs, has_hole.2 ok.has, own_hole.2 ok.own, ok.keep⟩⟩
def isRow : TypeDesc → Bool
  | .slice _ => true
  | .string => true
  | _ => false
def lenV : Value → Option Nat
  | .slice _ n _ => some n
  | .string s => some s.size
  | _ => none
section run
variable {P : Program} {T T2 eT ty : TypeId} {u2 : TypeDesc} {ti : TypeInfo} {zv v2 : Value} {len k cap : Nat} {news olds : List Value} {w : World}
theorem run_append_still (hu : P.underlying T = some (.slice eT)) (hr2 : ∀ w, (underlying T2).run P w = .ok u2 w) (hD : (∃ e2, u2 = .slice e2) ∨ u2 = .string) (g1 : P.info? eT = some ti)
    (hlv : ∀ w, (Builtin.lenOf v2).run P w = .ok 0 w) (base : Option Addr) (hf : (Builtin.firstCells ti.size 0 v2).run P w = .ok #[] w) :
    (Builtin.append_ #[T, T2] ty #[.slice base 0 0, v2]).run P w = .ok (.slice base 0 0) w := by
  cases base <;> rcases hD with ⟨e2, rfl⟩ | rfl <;> simp [Builtin.append_, run_underlying hu, hr2, sizeOf, typeInfo, g1, hlv, hf, storeCells]
theorem run_append_in (hu : P.underlying T = some (.slice eT)) (hr2 : ∀ w, (underlying T2).run P w = .ok u2 w) (hD : (∃ e2, u2 = .slice e2) ∨ u2 = .string) (g1 : P.info? eT = some ti)
    (hlv : ∀ w, (Builtin.lenOf v2).run P w = .ok k w) {p : Addr} {w' : World} (hroom : len + k ≤ cap) (hf : (Builtin.firstCells ti.size k v2).run P w = .ok news.toArray w)
    (hs : (storeCells (p.add (len * ti.size)) news).run P w = .ok () w') :
    (Builtin.append_ #[T, T2] ty #[.slice (some p) len cap, v2]).run P w = .ok (.slice (some p) (len + k) cap) w' := by
  rcases hD with ⟨e2, rfl⟩ | rfl <;> simp [Builtin.append_, run_underlying hu, hr2, sizeOf, typeInfo, g1, hlv, hroom, hf, hs]
theorem run_append_new (hu : P.underlying T = some (.slice eT)) (hr2 : ∀ w, (underlying T2).run P w = .ok u2 w) (hD : (∃ e2, u2 = .slice e2) ∨ u2 = .string) (g1 : P.info? eT = some ti)
    (g4 : ti.zero = some zv) (hlv : ∀ w, (Builtin.lenOf v2).run P w = .ok k w) (base : Option Addr) (hroom : ¬ len + k ≤ cap) (h63' : ¬ (9223372036854775807 < ((len : Int) + (k : Int))))
    (h48' : ¬ (281474976710656 < Builtin.nextslicecap (len + k) cap * ti.bytes)) (hf : (Builtin.firstCells ti.size k v2).run P w.drew = .ok news.toArray w.drew)
    (hfo : (Builtin.firstCells ti.size len (.slice base len cap)).run P w.drew = .ok olds.toArray w.drew) :
    (Builtin.append_ #[T, T2] ty #[.slice base len cap, v2]).run P w = .ok (.slice (some ⟨w.heap.size, 0, none⟩) (len + k) (grownCap w (len + k) cap eT))
      (w.drew.alloc (.cells (olds.toArray ++ news.toArray ++ Builtin.zeroCells zv.cells (grownCap w (len + k) cap eT - (len + k))) eT)) := by
  rcases hD with ⟨e2, rfl⟩ | rfl <;>
    simp [Builtin.append_, run_underlying hu, hr2, sizeOf, typeInfo, zeroValue, g1, g4, hlv, hroom, h63', h48', Question.forced, hf, hfo, newRow, grownCap] <;>
    (congr 2; apply Array.ext'; simp)
end run
/-- Onto a slice of one's own. -/
theorem eff_append {x y : Operand} {T T2 eT : TypeId} {base : Option Addr} {len cap : Nat} {d d2 u : Ty} {z olds news : List Value} {bytes i k : Nat} {e : Ent} {v2 : Value}
    (hx : ev rs x = some (.slice base len cap)) (hs : SlIs u eT e base len cap olds) (hy : ev rs y = some v2)
    (hT : B.ty T = some d) (hd : d.desc = .slice eT) (hT2 : B.ty T2 = some d2) (hd2 : isRow d2.desc = true) (hz : ElemIs B eT u bytes z) (hzl : z.length = u.size) (hu0 : 0 < u.size)
    (he : nth m i = some e) (hk : lenV v2 = some k) (hnl : news.length = k * u.size)
    (hsrc : ∀ w, Has w m → Keep E.w0 w E.ws → (Builtin.firstCells u.size k v2).run B.P w = .ok news.toArray w) (h1 : ∀ v ∈ news, v.oneCell' = true)
    (h63 : len + k ≤ 9223372036854775807) (hby : (len + k) * bytes ≤ 140737488355328) :
    Eff B E rs m ⟨dst, .call ⟨.builtin .append, #[x, y], #[T, T2]⟩, ty, pos, aft, gd⟩
      (fun v m' => ∃ base' cap' e', v = .slice base' (len + k) cap' ∧ SlIs u eT e' base' (len + k) cap' (olds ++ news) ∧ m' = repl m i e') := by
  refine ⟨fun a w hr hh ho hkp => ?_⟩
  obtain ⟨ti, zv, g1, g2, g3, g4, g5⟩ := hz
  have hu := under_of hT hd
  obtain ⟨u2, hu2, hr2⟩ := ty_slim hT2
  have hD : (∃ e2, u2 = .slice e2) ∨ u2 = .string := by
    rw [← hu2] at hd2
    cases u2 <;> first | exact .inl ⟨_, rfl⟩ | exact .inr rfl | cases hd2
  have hlv : ∀ w : World, (Builtin.lenOf v2).run B.P w = .ok k w := by
    intro w
    cases v2 <;> simp only [lenV, Option.some.injEq, reduceCtorEq] at hk <;> subst hk <;> simp [Builtin.lenOf]
  have hnn : olds.length + news.length = (len + k) * u.size := by rw [hs.len, hnl, Nat.add_mul]
  by_cases hroom : len + k ≤ cap
  · by_cases hlive : e.cells = []
    · have hc0 : cap = 0 := by
        have := hs.size
        rw [hlive] at this
        rcases Nat.eq_zero_or_pos cap with h | h
        · exact h
        · have := Nat.mul_pos h hu0
          simp_all
      have hk0 : k = 0 := by omega
      have hl0 : len = 0 := by omega
      subst hk0 hl0 hc0
      have hnews : news = [] := List.eq_nil_of_length_eq_zero (by simpa using hnl)
      have holds : olds = [] := List.eq_nil_of_length_eq_zero (by simpa using hs.len)
      subst hnews holds
      have hf := hsrc w hh hkp
      refine ⟨.value (.slice base 0 0), w, .slice base 0 0, repl m i e, ?_, .inl rfl, ?_, ?_, hkp, base, 0, e, rfl, hs, rfl⟩
      · have key := run_append_still (ty := ty) hu hr2 hD g1 hlv base (by rw [g2]; exact hf)
        simp [execOp, resolve, invoke, builtin, ev_ok hr hx, ev_ok hr hy, key]
      · have : repl m i e = m := (setAt_repl he).symm.trans (setAt_self he)
        rw [this]; exact hh
      · have : repl m i e = m := (setAt_repl he).symm.trans (setAt_self he)
        rw [this]; exact ho
    · obtain ⟨hb, hel⟩ := hs.at_ hlive
      subst hb
      have hc := hh.cell (nth_mem he) hlive
      rw [hel] at hc
      have hfit : len * u.size + news.length ≤ e.cells.length := by rw [hnl, hs.size, ← Nat.add_mul]; exact Nat.mul_le_mul_right _ hroom
      obtain ⟨w', s1, s2, s3, s4, s5, s6, s7⟩ := run_storeCells (P := B.P) (off := len * u.size) news 0 w e.cells h1 hc (by omega)
      have hf := hsrc w hh hkp
      have ha : (Addr.add ⟨e.blk, 0, none⟩ (len * u.size)) = ⟨e.blk, len * u.size, none⟩ := by rw [add_none, Nat.zero_add]
      have hlen' : (splice e.cells (len * u.size) news).length = cap * u.size := by
        rw [← hs.size]
        unfold splice
        simp only [List.length_append, List.length_take, List.length_drop]
        omega
      have hrep : setAt m i (splice e.cells (len * u.size) news) = repl m i ⟨e.blk, splice e.cells (len * u.size) news, eT⟩ := by rw [setAt_repl he, hel]
      refine ⟨.value (.slice (some ⟨e.blk, 0, none⟩) (len + k) cap), w', .slice (some ⟨e.blk, 0, none⟩) (len + k) cap, repl m i ⟨e.blk, splice e.cells (len * u.size) news, eT⟩, ?_, .inl rfl, ?_, ?_,
        hkp.write (ho.at (nth_mem he) hlive) s3 s4 s5 s6 s7, _, cap, ⟨e.blk, splice e.cells (len * u.size) news, eT⟩, rfl, ⟨hlen', hroom, fun _ => ⟨rfl, rfl⟩, ?_⟩, rfl⟩
      · have key := run_append_in (ty := ty) hu hr2 hD g1 hlv (p := ⟨e.blk, 0, none⟩) hroom (by rw [g2]; exact hf) (by rw [g2, ha]; exact s1)
        simp [execOp, resolve, invoke, builtin, ev_ok hr hx, ev_ok hr hy, key]
      · rw [← hrep]
        refine hh.setAt hlive he s3 ?_
        rw [hel, s2]
        simp only [Nat.add_zero]
      · rw [← hrep]; exact ho.setAt hlive he
      · unfold splice
        rw [← hs.xs, List.take_append_of_le_length (by simp only [List.length_append, List.length_take]; rw [Nat.add_mul, ← hnl]; omega), List.take_of_length_le]
        simp only [List.length_append, List.length_take]
        rw [Nat.add_mul, ← hnl]
        omega
  · have hge := grownCap_ge w (len + k) cap eT
    have hfit := growslice_fits (need := len + k) (old := cap) (by omega) hby
    rw [← g3] at hfit
    have h63' : ¬ (9223372036854775807 < ((len : Int) + (k : Int))) := by omega
    have h48' : ¬ (281474976710656 < Builtin.nextslicecap (len + k) cap * ti.bytes) := by omega
    have hf := hsrc w.drew (hh.of_same (fun _ _ _ => rfl)) hkp.drew
    have hfo : (Builtin.firstCells u.size len (.slice base len cap)).run B.P w.drew = .ok olds.toArray w.drew := by
      by_cases hlive : e.cells = []
      · have ho0 : olds = [] := by rw [← hs.xs, hlive]; simp
        have hl0 : len * u.size = 0 := by have := hs.len; rw [ho0] at this; simpa using this.symm
        cases base <;> simp [Builtin.firstCells, hl0, ho0, loadCells, loadCellsFrom]
      · obtain ⟨hb, hel⟩ := hs.at_ hlive
        subst hb
        have hc := hh.cell (nth_mem he) hlive
        simp only [Builtin.firstCells]
        rw [run_loadCells (w := w.drew) (c := e.cells) (t := e.elem) hc (len * u.size) (by rw [hs.size]; have := Nat.mul_le_mul_right u.size hs.le; omega)]
        rw [List.drop_zero, hs.xs]
    obtain ⟨cells', hcells'⟩ : ∃ c : List Value, c = olds ++ news ++ (Builtin.zeroCells zv.cells (grownCap w (len + k) cap eT - (len + k))).toList := ⟨_, rfl⟩
    have hrow : (olds.toArray ++ news.toArray ++ Builtin.zeroCells zv.cells (grownCap w (len + k) cap eT - (len + k))) = cells'.toArray := by
      rw [hcells']; apply Array.ext'; simp
    refine ⟨.value (.slice (some ⟨w.heap.size, 0, none⟩) (len + k) (grownCap w (len + k) cap eT)), w.drew.alloc (.cells cells'.toArray eT), .slice (some ⟨w.heap.size, 0, none⟩) (len + k) (grownCap w (len + k) cap eT),
      repl m i ⟨w.heap.size, cells', eT⟩, ?_, .inl rfl, ?_, ho.repl (fun _ => .inl hkp.size), hkp.drew.alloc _, _, _, ⟨w.heap.size, cells', eT⟩, rfl, ⟨?_, hge, fun _ => ⟨rfl, rfl⟩, ?_⟩, rfl⟩
    · have key := run_append_new (ty := ty) hu hr2 hD g1 g4 hlv base hroom h63' h48' (by rw [g2]; exact hf) (by rw [g2]; exact hfo)
      rw [hrow] at key
      simp [execOp, resolve, invoke, builtin, ev_ok hr hx, ev_ok hr hy, key]
    · exact Has.repl (w := w) (Nat.le_refl _) (heap_alloc_new w.drew _) hh (fun b hb => heap_alloc_old (w := w.drew) hb)
    · rw [hcells']
      simp only [List.length_append, Array.length_toList, size_zeroCells, g5, List.size_toArray, hzl]
      rw [hnn, ← Nat.add_mul]
      congr 1
      omega
    · rw [hcells']
      show (olds ++ news ++ _).take ((len + k) * u.size) = olds ++ news
      rw [← hnn, ← List.length_append]
      exact List.take_left
/-- What is appended: another slice of one's own (or of one that lay there), or a string. -/
theorem src_own {k cap2 j : Nat} {p : Option Addr} {eT : TypeId} {u : Ty} {e2 : Ent} {xs : List Value} (hs : SlIs u eT e2 p k cap2 xs) (he : nth m j = some e2) :
    ∀ w, Has w m → Keep E.w0 w E.ws → (Builtin.firstCells u.size k (.slice p k cap2)).run B.P w = .ok xs.toArray w := by
  intro w hh _
  by_cases hlive : e2.cells = []
  · have ho0 : xs = [] := by rw [← hs.xs, hlive]; simp
    have hl0 : k * u.size = 0 := by have := hs.len; rw [ho0] at this; simpa using this.symm
    cases p <;> simp [Builtin.firstCells, hl0, ho0, loadCells, loadCellsFrom]
  · obtain ⟨hb, hel⟩ := hs.at_ hlive
    subst hb
    have hc := hh.cell (nth_mem he) hlive
    simp only [Builtin.firstCells]
    rw [run_loadCells hc (k * u.size) (by rw [hs.size]; have := Nat.mul_le_mul_right u.size hs.le; omega)]
    rw [List.drop_zero, hs.xs]
theorem sl_built (u : Ty) (eT : TypeId) (b : Nat) (cs : List Value) (k : Nat) (h : cs.length = k * u.size) : SlIs u eT ⟨b, cs, eT⟩ (some ⟨b, 0, none⟩) k k cs :=
  ⟨h, Nat.le_refl _, fun _ => ⟨rfl, rfl⟩, List.take_of_length_le (by show cs.length ≤ _; omega)⟩
theorem step_buildSlice {T eT : TypeId} {len f : Nat} {ps : List (Nat × Operand)} {vs : List (Nat × Value)} {d u : Ty} {z cs : List Value} {bytes : Nat}
    (hc : chk all n rs ⟨dst, .buildSlice T len ps.toArray, ty, pos, aft, gd⟩ = some f) (hv : evp rs ps = some vs)
    (hT : B.ty T = some d) (hd : d.desc = .slice eT) (hz : ElemIs B eT u bytes z) (hpos : len * u.size ≠ 0) (hle : len * u.size ≤ 16777216)
    (hf : fillL (fun i => some (i * u.size, u.size)) (rowOf z (len * u.size)) vs = some cs)
    (h : ∀ b, WPl B E n all rest ((f, .slice (some ⟨b, 0, none⟩) len len) :: rs) (⟨b, cs, eT⟩ :: m) K) :
    WPl B E n all (⟨dst, .buildSlice T len ps.toArray, ty, pos, aft, gd⟩ :: rest) rs m K := by
  obtain ⟨h1, h2, h3⟩ := chk_ok hc
  refine step_eff h1 (by rw [h2]; exact h3) (eff_buildSlice hv hT hd hz hpos hle hf) ?_
  rintro v m' ⟨b, rfl, rfl⟩
  rw [h2]
  exact h b
theorem step_append {x y : Operand} {T T2 eT : TypeId} {base : Option Addr} {len cap f : Nat} {d d2 u : Ty} {z olds news : List Value} {bytes k : Nat} {e : Ent} {v2 : Value} (i : Nat)
    (hc : chk all n rs ⟨dst, .call ⟨.builtin .append, #[x, y], #[T, T2]⟩, ty, pos, aft, gd⟩ = some f)
    (hx : ev rs x = some (.slice base len cap)) (hs : SlIs u eT e base len cap olds) (hy : ev rs y = some v2)
    (hT : B.ty T = some d) (hd : d.desc = .slice eT) (hT2 : B.ty T2 = some d2) (hd2 : isRow d2.desc = true) (hz : ElemIs B eT u bytes z) (hzl : z.length = u.size) (hu0 : 0 < u.size)
    (he : nth m i = some e) (hk : lenV v2 = some k) (hnl : news.length = k * u.size)
    (hsrc : ∀ w, Has w m → Keep E.w0 w E.ws → (Builtin.firstCells u.size k v2).run B.P w = .ok news.toArray w) (h1 : ∀ v ∈ news, v.oneCell' = true)
    (h63 : len + k ≤ 9223372036854775807) (hby : (len + k) * bytes ≤ 140737488355328)
    (h : ∀ base' cap' e', SlIs u eT e' base' (len + k) cap' (olds ++ news) → WPl B E n all rest ((f, .slice base' (len + k) cap') :: rs) (repl m i e') K) :
    WPl B E n all (⟨dst, .call ⟨.builtin .append, #[x, y], #[T, T2]⟩, ty, pos, aft, gd⟩ :: rest) rs m K := by
  obtain ⟨g1, g2, g3⟩ := chk_ok hc
  refine step_eff g1 (by rw [g2]; exact g3) (eff_append hx hs hy hT hd hT2 hd2 hz hzl hu0 he hk hnl hsrc h1 h63 hby) ?_
  rintro v m' ⟨base', cap', e', rfl, hs', rfl⟩
  rw [g2]
  exact h base' cap' e' hs'
section d
variable {mS : Mem} {codes : List Nat} {c : Nat} {left : List Nat}
theorem d_buildSlice {T eT : TypeId} {len f : Nat} {ps : List (Nat × Operand)} {vs : List (Nat × Value)} {d u : Ty} {z cs : List Value} {bytes : Nat}
    (ho : opOf all c = some ⟨dst, .buildSlice T len ps.toArray, ty, pos, aft, gd⟩) (hk : cKd c = 2)
    (hc : chk all n rs ⟨dst, .buildSlice T len ps.toArray, ty, pos, aft, gd⟩ = some f) (hv : evp rs ps = some vs)
    (hT : B.ty T = some d) (hd : d.desc = .slice eT) (hz : ElemIs B eT u bytes z) (hpos : len * u.size ≠ 0) (hle : len * u.size ≤ 16777216)
    (hf : fillL (fun i => some (i * u.size, u.size)) (rowOf z (len * u.size)) vs = some cs) (hs : SubMem m mS) (hn : needsOf codes (cIx c) = cNd c)
    (h : ∀ b, WPd B E n all mS codes left ((f, .slice (some ⟨b, 0, none⟩) len len) :: rs) (⟨b, cs, eT⟩ :: m) K) :
    WPd B E n all mS codes (c :: left) rs m K := by
  obtain ⟨h1, h2, h3⟩ := chk_ok hc
  refine d_only ho hk h1 (by rw [h2]; exact h3) (eff_buildSlice hv hT hd hz hpos hle hf) ?_ hn
  rintro v m' ⟨b, rfl, rfl⟩
  rw [h2]
  exact ⟨fun _ => hs.cons, h b⟩
theorem d_append {x y : Operand} {T T2 eT : TypeId} {base : Option Addr} {len cap f : Nat} {d d2 u : Ty} {z olds news : List Value} {bytes k : Nat} {e : Ent} {v2 : Value} (i : Nat)
    (ho : opOf all c = some ⟨dst, .call ⟨.builtin .append, #[x, y], #[T, T2]⟩, ty, pos, aft, gd⟩) (hk2 : cKd c = 2) (hnd : cNd c = false)
    (hc : chk all n rs ⟨dst, .call ⟨.builtin .append, #[x, y], #[T, T2]⟩, ty, pos, aft, gd⟩ = some f)
    (hx : ev rs x = some (.slice base len cap)) (hs : SlIs u eT e base len cap olds) (hy : ev rs y = some v2)
    (hT : B.ty T = some d) (hd : d.desc = .slice eT) (hT2 : B.ty T2 = some d2) (hd2 : isRow d2.desc = true) (hz : ElemIs B eT u bytes z) (hzl : z.length = u.size) (hu0 : 0 < u.size)
    (he : nth m i = some e) (hk : lenV v2 = some k) (hnl : news.length = k * u.size)
    (hsrc : ∀ w, Has w m → Keep E.w0 w E.ws → (Builtin.firstCells u.size k v2).run B.P w = .ok news.toArray w) (h1 : ∀ v ∈ news, v.oneCell' = true)
    (h63 : len + k ≤ 9223372036854775807) (hby : (len + k) * bytes ≤ 140737488355328) (hn : needsOf codes (cIx c) = cNd c)
    (h : ∀ base' cap' e', SlIs u eT e' base' (len + k) cap' (olds ++ news) → WPd B E n all mS codes left ((f, .slice base' (len + k) cap') :: rs) (repl m i e') K) :
    WPd B E n all mS codes (c :: left) rs m K := by
  obtain ⟨g1, g2, g3⟩ := chk_ok hc
  refine d_only ho hk2 g1 (by rw [g2]; exact g3) (eff_append hx hs hy hT hd hT2 hd2 hz hzl hu0 he hk hnl hsrc h1 h63 hby) ?_ hn
  rintro v m' ⟨base', cap', e', rfl, hs', rfl⟩
  rw [g2]
  exact ⟨fun h => (by rw [hnd] at h; cases h), h base' cap' e' hs'⟩
end d
/-- Copied: over cells of one's own. -/
theorem eff_copy {x y : Operand} {T T2 eT : TypeId} {b off len cap : Nat} {d u : Ty} {news : List Value} {k i q : Nat} {e : Ent} {v2 : Value}
    (hx : ev rs x = some (.slice (some ⟨b, off, none⟩) len cap)) (hy : ev rs y = some v2) (hT : B.ty T = some d) (hd : d.desc = .slice eT) (hu : B.ty eT = some u)
    (he : nth m i = some e) (hb : e.blk = b) (hk : lenV v2 = some k) (hq : Nat.min k len = q) (hnl : news.length = q * u.size)
    (hsrc : ∀ w, Has w m → Keep E.w0 w E.ws → (Builtin.firstCells u.size q v2).run B.P w = .ok news.toArray w) (h1 : ∀ v ∈ news, v.oneCell' = true)
    (hfit : off + news.length ≤ e.cells.length) (hlive : e.cells ≠ []) :
    Eff B E rs m ⟨dst, .call ⟨.builtin .copy, #[x, y], #[T, T2]⟩, ty, pos, aft, gd⟩ (fun v m' => v = .int .i64 q ∧ m' = setAt m i (splice e.cells off news)) := by
  refine ⟨fun a w hr hh ho hkp => ?_⟩
  have hc := hh.cell (nth_mem he) hlive
  rw [hb] at hc
  obtain ⟨w', s1, s2, s3, s4, s5, s6, s7⟩ := run_storeCells (P := B.P) (off := off) news 0 w e.cells h1 hc (by omega)
  have hlv : (Builtin.lenOf v2).run B.P w = .ok k w := by
    cases v2 <;> simp only [lenV, Option.some.injEq, reduceCtorEq] at hk <;> subst hk <;> simp [Builtin.lenOf]
  have hun := under_of hT hd
  refine ⟨.value (.int .i64 q), w', .int .i64 q, setAt m i (splice e.cells off news), ?_, .inl rfl, ?_, ho.setAt hlive he, hkp.write (hb ▸ ho.at (nth_mem he) hlive) s3 s4 s5 s6 s7, rfl, rfl⟩
  · have hsz := ty_size hu w
    simp [execOp, resolve, invoke, builtin, ev_ok hr hx, ev_ok hr hy, Builtin.copy_, run_underlying hun, hlv, hq, hsz, hsrc w hh hkp, s1, goInt]
  · refine hh.setAt hlive he (by rw [hb]; exact s3) ?_
    rw [hb, s2]
    simp only [Nat.add_zero]
theorem pure_makeFunc {f : Fn} {caps : List Operand} {vs : List Value} (hv : evs rs caps = some vs) :
    Pure B E rs m ⟨dst, .makeFunc f #[] caps.toArray, ty, pos, aft, gd⟩ (.func f #[] vs.toArray) := by
  refine ⟨fun a w hr hh hk => ?_⟩
  have e1 : caps.toArray.map a.eval = vs.toArray := by rw [List.map_toArray, evs_ok hr hv]
  simp [execOp, Instr.makeFunc, ← e1]
/-- Onto a slice of one's own, where there is room. -/
theorem eff_append_room {x y : Operand} {T T2 eT : TypeId} {b len cap : Nat} {d d2 u : Ty} {news : List Value} {i k : Nat} {e : Ent} {v2 : Value} {cs : List Value} {bytes : Nat} {z : List Value}
    (hx : ev rs x = some (.slice (some ⟨b, 0, none⟩) len cap)) (hy : ev rs y = some v2)
    (hT : B.ty T = some d) (hd : d.desc = .slice eT) (hT2 : B.ty T2 = some d2) (hd2 : isRow d2.desc = true) (hz : ElemIs B eT u bytes z)
    (he : nth m i = some e) (hb : e.blk = b) (hlive : e.cells ≠ []) (hk : lenV v2 = some k) (hnl : news.length = k * u.size) (hroom : len + k ≤ cap) (hfit : (len + k) * u.size ≤ e.cells.length)
    (hsrc : ∀ w, Has w m → Keep E.w0 w E.ws → (Builtin.firstCells u.size k v2).run B.P w = .ok news.toArray w) (h1 : ∀ v ∈ news, v.oneCell' = true)
    (hcs : splice e.cells (len * u.size) news = cs) :
    Eff B E rs m ⟨dst, .call ⟨.builtin .append, #[x, y], #[T, T2]⟩, ty, pos, aft, gd⟩ (fun v m' => v = .slice (some ⟨b, 0, none⟩) (len + k) cap ∧ m' = setAt m i cs) := by
  refine ⟨fun a w hr hh ho hkp => ?_⟩
  obtain ⟨ti, zv, g1, g2, g3, g4, g5⟩ := hz
  have hu := under_of hT hd
  obtain ⟨u2, hu2, hr2⟩ := ty_slim hT2
  have hD : (∃ e2, u2 = .slice e2) ∨ u2 = .string := by
    rw [← hu2] at hd2
    cases u2 <;> first | exact .inl ⟨_, rfl⟩ | exact .inr rfl | cases hd2
  have hlv : ∀ w : World, (Builtin.lenOf v2).run B.P w = .ok k w := by
    intro w
    cases v2 <;> simp only [lenV, Option.some.injEq, reduceCtorEq] at hk <;> subst hk <;> simp [Builtin.lenOf]
  subst hb
  have hc := hh.cell (nth_mem he) hlive
  rw [Nat.add_mul, ← hnl] at hfit
  obtain ⟨w', s1, s2, s3, s4, s5, s6, s7⟩ := run_storeCells (P := B.P) (off := len * u.size) news 0 w e.cells h1 hc (by omega)
  have hf := hsrc w hh hkp
  have ha : (Addr.add ⟨e.blk, 0, none⟩ (len * u.size)) = ⟨e.blk, len * u.size, none⟩ := by rw [add_none, Nat.zero_add]
  refine ⟨.value (.slice (some ⟨e.blk, 0, none⟩) (len + k) cap), w', .slice (some ⟨e.blk, 0, none⟩) (len + k) cap, setAt m i cs, ?_, .inl rfl, ?_, ho.setAt hlive he,
    hkp.write (ho.at (nth_mem he) hlive) s3 s4 s5 s6 s7, rfl, rfl⟩
  · have key := run_append_in (ty := ty) hu hr2 hD g1 hlv (p := ⟨e.blk, 0, none⟩) hroom (by rw [g2]; exact hf) (by rw [g2, ha]; exact s1)
    simp [execOp, resolve, invoke, builtin, ev_ok hr hx, ev_ok hr hy, key]
  · refine hh.setAt hlive he s3 ?_
    rw [s2]
    simp only [Nat.add_zero, hcs]
theorem elem_of {T : TypeId} {u : Ty} {bytes : Nat} {z : List Value} (zv : Value) (h : (B.P.info? T).map (fun i => (i.zero, i.size, i.bytes)) = some (some zv, u.size, bytes)) (hz : zv.cells = z.toArray) :
    ElemIs B T u bytes z := by
  cases hi : B.P.info? T with
  | none => rw [hi] at h; cases h
  | some i =>
    rw [hi] at h
    simp only [Option.map_some, Option.some.injEq, Prod.mk.injEq] at h
    exact ⟨i, zv, hi, h.2.1, h.2.2, h.1, hz⟩
/-- A slice that lies there: its cells. -/
structure SlV (w : World) (v : Value) (xs : List Value) : Prop where
  is : ∃ base cap, v = .slice base xs.length cap ∧ (xs ≠ [] → ∃ p, base = some p ∧ ∀ j x, xs[j]? = some x → w.cell? (p.add j) = some x)
  room : ∀ base len cap, v = .slice base len cap → len ≤ cap
end s
end Go.Vc
