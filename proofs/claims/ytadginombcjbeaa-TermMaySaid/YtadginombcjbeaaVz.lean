/- An append of so many zero values; slices cut with three indexes. -/
import Derived.Test.YtadginombcjbeaaVw
import Derived.Laws.Cover3
namespace Go.Vc
open Go.RowKit
set_option linter.unusedVariables false
def zrow (z : List Value) (k : Nat) : List Value := (Builtin.zeroCells z.toArray k).toList
theorem zrow_len (z : List Value) (k : Nat) : (zrow z k).length = k * z.length := by simp [zrow, size_zeroCells]
theorem zrow_u8 (k : Nat) : zrow [.int .u8 0] k = row (zeros k) := by
 unfold zrow Builtin.zeroCells row ints zeros
 simp [Nat.mod_one]
 rw [List.map_const', List.length_range]
theorem rowOf_int (kk : IntKind) (k : Nat) : rowOf [.int kk 0] k = ints kk (zeros k) := by
 unfold rowOf madeCells ints zeros
 simp [Nat.mod_one]
 rw [List.map_const', List.length_range]
theorem fill_one {u : Ty} (kk : IntKind) (x : Int) (hu : u.size = 1) : fillL (fun i => some (i * u.size, u.size)) (rowOf [.int kk 0] (1 * u.size)) [(0, .int kk x)] = some [.int kk x] := by
 rw [hu, show 1 * 1 = 1 from rfl, rowOf_int]
 rfl
/-- A slice of one's own, and its block. -/
structure SlS where
 base : Option Addr
 len : Nat
 cap : Nat
 e : Ent
/-- Ways that meet: one of a family of states. -/
theorem c_meetx {B : Tb} {E : Env} {n : Nat} {rs : Rs} {m : Mem} {Q : Post} {α : Type} {x : Code} (F : α → Rs) (G : α → Mem) (p : α → Prop)
  (hx : WP B E n x rs m (thenQ (fun rs' m' => ∃ z, p z ∧ Less rs' m' (F z) (G z)) Q)) (hy : ∀ z, p z → Q .normal (F z) (G z)) : WP B E n x rs m Q := by
 refine ⟨fun a w hok => Go.wpIn_mono (hx.run a w hok) ?_⟩
 rintro e a' w' ⟨rs', m', hok', hq⟩
 cases e with
 | normal =>
  obtain ⟨z, hp, hl⟩ := hq
  exact ⟨F z, G z, hl.ok hok', hy z hp⟩
 | exit id => exact ⟨rs', m', hok', hq⟩
 | goto l => exact ⟨rs', m', hok', hq⟩
 | ret => exact ⟨rs', m', hok', hq⟩
 | panic c => exact ⟨rs', m', hok', hq⟩
 | outgrown => exact ⟨rs', m', hok', hq⟩
theorem ints_app (k : IntKind) (a b : List Int) : ints k a ++ ints k b = ints k (a ++ b) := (List.map_append ..).symm
theorem fill_two {u : Ty} (kk : IntKind) (x y : Int) (hu : u.size = 1) : fillL (fun i => some (i * u.size, u.size)) (rowOf [.int kk 0] (2 * u.size)) [(0, .int kk x), (1, .int kk y)] = some [.int kk x, .int kk y] := by
 rw [hu, show 2 * 1 = 2 from rfl, rowOf_int]
 rfl
section z
variable {B : Tb} {E : Env} {n : Nat} {all rest : List Oper} {rs : Rs} {m : Mem} {K : Act → World → Prop}
variable {dst : Option Tmp} {ty : TypeId} {pos : String} {aft : Array Edge} {gd : Option (Nat × Bool)}
section run
variable {P : Program} {T T2 eT ty : TypeId} {kk k2 : IntKind} {ti : TypeInfo} {zv : Value} {len k cap : Nat} {olds : List Value} {w : World}
theorem run_append_in_z (hu : P.underlying T = some (.slice eT)) (hr2 : ∀ w, (underlying T2).run P w = .ok (.int k2) w) (g1 : P.info? eT = some ti) (g4 : ti.zero = some zv)
  (hk : k ≤ 9223372036854775807) (h48 : k * ti.bytes ≤ 281474976710656) (hn0 : ¬ k * ti.size = 0)
  {p : Addr} {w' : World} (hroom : len + k ≤ cap)
  (hs : (storeCells (p.add (len * ti.size)) (Builtin.zeroCells zv.cells k).toList).run P w = .ok () w') :
  (Builtin.append_ #[T, T2] ty #[.slice (some p) len cap, .int kk k]).run P w = .ok (.slice (some p) (len + k) cap) w' := by
 have hw : IntKind.i64.wrap (k : Int) = k := wrap_i64 (by omega) (by omega)
 have h1 : ¬ ((k : Int) < 0) := by omega
 have h2 : ¬ (281474976710656 < (k : Int) * (ti.bytes : Int)) := by
  have : ((k * ti.bytes : Nat) : Int) ≤ 281474976710656 := by omega
  rw [Int.natCast_mul] at this
  omega
 simp [Builtin.append_, run_underlying hu, hr2, sizeOf, typeInfo, zeroValue, g1, g4, asInt, asIntOf, hw, h1, h2, hroom, hn0, hs]
theorem run_append_new_z (hu : P.underlying T = some (.slice eT)) (hr2 : ∀ w, (underlying T2).run P w = .ok (.int k2) w) (g1 : P.info? eT = some ti) (g4 : ti.zero = some zv)
  (hk : k ≤ 9223372036854775807) (h48 : k * ti.bytes ≤ 281474976710656) (hn0 : ¬ k * ti.size = 0)
  (base : Option Addr) (hroom : ¬ len + k ≤ cap) (h63' : ¬ (9223372036854775807 < ((len : Int) + (k : Int))))
  (h48' : ¬ (281474976710656 < Builtin.nextslicecap (len + k) cap * ti.bytes))
  (hfo : (Builtin.firstCells ti.size len (.slice base len cap)).run P w.drew = .ok olds.toArray w.drew) :
  (Builtin.append_ #[T, T2] ty #[.slice base len cap, .int kk k]).run P w = .ok (.slice (some ⟨w.heap.size, 0, none⟩) (len + k) (grownCap w (len + k) cap eT))
   (w.drew.alloc (.cells (olds.toArray ++ Builtin.zeroCells zv.cells k ++ Builtin.zeroCells zv.cells (grownCap w (len + k) cap eT - (len + k))) eT)) := by
 have hw : IntKind.i64.wrap (k : Int) = k := wrap_i64 (by omega) (by omega)
 have h1 : ¬ ((k : Int) < 0) := by omega
 have h2 : ¬ (281474976710656 < (k : Int) * (ti.bytes : Int)) := by
  have : ((k * ti.bytes : Nat) : Int) ≤ 281474976710656 := by omega
  rw [Int.natCast_mul] at this
  omega
 simp [Builtin.append_, run_underlying hu, hr2, sizeOf, typeInfo, zeroValue, g1, g4, asInt, asIntOf, hw, h1, h2, hroom, hn0, h63', h48', Question.forced, hfo, newRow, grownCap]
end run
theorem eff_append_z {x y : Operand} {T T2 eT : TypeId} {base : Option Addr} {len cap : Nat} {d d2 u : Ty} {z olds : List Value} {bytes i k : Nat} {e : Ent} {kk k2 : IntKind}
  (hx : ev rs x = some (.slice base len cap)) (hs : SlIs u eT e base len cap olds) (hy : ev rs y = some (.int kk k))
  (hT : B.ty T = some d) (hd : d.desc = .slice eT) (hT2 : B.ty T2 = some d2) (hd2 : d2.desc = .int k2) (hz : ElemIs B eT u bytes z) (hzl : z.length = u.size) (hu0 : 0 < u.size)
  (he : nth m i = some e) (hk0 : 0 < k) (h1 : ∀ v ∈ z, v.oneCell' = true)
  (h63 : len + k ≤ 9223372036854775807) (hby : (len + k) * bytes ≤ 140737488355328) :
  Eff B E rs m ⟨dst, .call ⟨.builtin .append, #[x, y], #[T, T2]⟩, ty, pos, aft, gd⟩
   (fun v m' => ∃ base' cap' e', v = .slice base' (len + k) cap' ∧ SlIs u eT e' base' (len + k) cap' (olds ++ zrow z k) ∧ m' = repl m i e') := by
 refine ⟨fun a w hr hh ho hkp => ?_⟩
 obtain ⟨ti, zv, g1, g2, g3, g4, g5⟩ := hz
 have hu := under_of hT hd
 have hr2 : ∀ w, (underlying T2).run B.P w = .ok (.int k2) w := fun w => by
  have := ty_under hT2 (by rw [hd2]; rfl) w
  rw [hd2] at this
  exact this
 have hnl : (zrow z k).length = k * u.size := by rw [zrow_len, hzl]
 have hzr : (Builtin.zeroCells zv.cells k).toList = zrow z k := by rw [g5]; rfl
 have h1' : ∀ v ∈ zrow z k, v.oneCell' = true := by
  intro v hv
  unfold zrow Builtin.zeroCells at hv
  simp only [Array.toList_map, List.mem_map] at hv
  obtain ⟨j, hj, rfl⟩ := hv
  simp only [List.size_toArray] at hj ⊢
  have hlt : j % z.length < z.length := Nat.mod_lt _ (by omega)
  rw [getElem!_pos _ _ (by simpa using hlt)]
  exact h1 _ (by simp)
 have hn0 : ¬ k * ti.size = 0 := by
  rw [g2]
  have := Nat.mul_pos hk0 hu0
  omega
 have hkb : k * ti.bytes ≤ 281474976710656 := by
  rw [g3]
  have : k * bytes ≤ (len + k) * bytes := Nat.mul_le_mul_right _ (by omega)
  omega
 have hnn : olds.length + (zrow z k).length = (len + k) * u.size := by rw [hs.len, hnl, Nat.add_mul]
 generalize hnews : zrow z k = news at *
 by_cases hroom : len + k ≤ cap
 ·have hlive : e.cells ≠ [] := by
   intro h
   have := hs.size
   rw [h] at this
   have h2 : 0 < cap * u.size := Nat.mul_pos (by omega) hu0
   simp at this
   omega
  obtain ⟨hb, hel⟩ := hs.at_ hlive
  subst hb
  have hc := hh.cell (nth_mem he) hlive
  rw [hel] at hc
  have hfit : len * u.size + news.length ≤ e.cells.length := by rw [hnl, hs.size, ← Nat.add_mul]; exact Nat.mul_le_mul_right _ hroom
  obtain ⟨w', s1, s2, s3, s4, s5, s6, s7⟩ := run_storeCells (P := B.P) (off := len * u.size) news 0 w e.cells h1' hc (by omega)
  have ha : (Addr.add ⟨e.blk, 0, none⟩ (len * u.size)) = ⟨e.blk, len * u.size, none⟩ := by rw [add_none, Nat.zero_add]
  have hlen' : (splice e.cells (len * u.size) news).length = cap * u.size := by
   rw [← hs.size]
   unfold splice
   simp only [List.length_append, List.length_take, List.length_drop]
   omega
  have hrep : setAt m i (splice e.cells (len * u.size) news) = repl m i ⟨e.blk, splice e.cells (len * u.size) news, eT⟩ := by rw [setAt_repl he, hel]
  refine ⟨.value (.slice (some ⟨e.blk, 0, none⟩) (len + k) cap), w', .slice (some ⟨e.blk, 0, none⟩) (len + k) cap, repl m i ⟨e.blk, splice e.cells (len * u.size) news, eT⟩, ?_, .inl rfl, ?_, ?_,
   hkp.write (ho.at (nth_mem he) hlive) s3 s4 s5 s6 s7, _, cap, ⟨e.blk, splice e.cells (len * u.size) news, eT⟩, rfl, ⟨hlen', hroom, fun _ => ⟨rfl, rfl⟩, ?_⟩, rfl⟩
  ·have key := run_append_in_z (ty := ty) (kk := kk) hu hr2 g1 g4 (by omega) hkb hn0 (p := ⟨e.blk, 0, none⟩) hroom (by rw [hzr, g2, ha]; exact s1)
   simp [execOp, resolve, invoke, builtin, ev_ok hr hx, ev_ok hr hy, key]
  ·rw [← hrep]
   refine hh.setAt hlive he s3 ?_
   rw [hel, s2]
   simp only [Nat.add_zero]
  ·rw [← hrep]; exact ho.setAt hlive he
  ·unfold splice
   rw [← hs.xs, List.take_append_of_le_length (by simp only [List.length_append, List.length_take]; rw [Nat.add_mul, ← hnl]; omega), List.take_of_length_le]
   simp only [List.length_append, List.length_take]
   rw [Nat.add_mul, ← hnl]
   omega
 ·have hge := grownCap_ge w (len + k) cap eT
  have hfit := growslice_fits (need := len + k) (old := cap) (by omega) hby
  rw [← g3] at hfit
  have h63' : ¬ (9223372036854775807 < ((len : Int) + (k : Int))) := by omega
  have h48' : ¬ (281474976710656 < Builtin.nextslicecap (len + k) cap * ti.bytes) := by omega
  have hfo : (Builtin.firstCells u.size len (.slice base len cap)).run B.P w.drew = .ok olds.toArray w.drew := by
   by_cases hlive : e.cells = []
   ·have ho0 : olds = [] := by rw [← hs.xs, hlive]; simp
    have hl0 : len * u.size = 0 := by have := hs.len; rw [ho0] at this; simpa using this.symm
    cases base <;> simp [Builtin.firstCells, hl0, ho0, loadCells, loadCellsFrom]
   ·obtain ⟨hb, hel⟩ := hs.at_ hlive
    subst hb
    have hc := hh.cell (nth_mem he) hlive
    simp only [Builtin.firstCells]
    rw [Go.Vc.run_loadCells (w := w.drew) (c := e.cells) (t := e.elem) hc (len * u.size) (by rw [hs.size]; have := Nat.mul_le_mul_right u.size hs.le; omega)]
    rw [List.drop_zero, hs.xs]
  obtain ⟨cells', hcells'⟩ : ∃ c : List Value, c = olds ++ news ++ (Builtin.zeroCells zv.cells (grownCap w (len + k) cap eT - (len + k))).toList := ⟨_, rfl⟩
  have hrow : (olds.toArray ++ Builtin.zeroCells zv.cells k ++ Builtin.zeroCells zv.cells (grownCap w (len + k) cap eT - (len + k))) = cells'.toArray := by
   rw [hcells', ← hzr]; apply Array.ext'; simp
  refine ⟨.value (.slice (some ⟨w.heap.size, 0, none⟩) (len + k) (grownCap w (len + k) cap eT)), w.drew.alloc (.cells cells'.toArray eT), .slice (some ⟨w.heap.size, 0, none⟩) (len + k) (grownCap w (len + k) cap eT),
   repl m i ⟨w.heap.size, cells', eT⟩, ?_, .inl rfl, ?_, ho.repl (fun _ => .inl hkp.size), hkp.drew.alloc _, _, _, ⟨w.heap.size, cells', eT⟩, rfl, ⟨?_, hge, fun _ => ⟨rfl, rfl⟩, ?_⟩, rfl⟩
  ·have key := run_append_new_z (ty := ty) (kk := kk) hu hr2 g1 g4 (by omega) hkb hn0 base hroom h63' h48' (by rw [g2]; exact hfo)
   rw [hrow] at key
   simp [execOp, resolve, invoke, builtin, ev_ok hr hx, ev_ok hr hy, key]
  ·exact Has.repl (w := w) (Nat.le_refl _) (heap_alloc_new w.drew _) hh (fun b hb => heap_alloc_old (w := w.drew) hb)
  ·rw [hcells']
   simp only [List.length_append, Array.length_toList, size_zeroCells, g5, List.size_toArray, hzl]
   rw [hnn, ← Nat.add_mul]
   congr 1
   omega
  ·rw [hcells']
   show (olds ++ news ++ _).take ((len + k) * u.size) = olds ++ news
   rw [← hnn, ← List.length_append]
   exact List.take_left
theorem step_append_z {x y : Operand} {T T2 eT : TypeId} {base : Option Addr} {len cap f : Nat} {d d2 u : Ty} {z olds : List Value} {bytes k : Nat} {e : Ent} {kk k2 : IntKind} (i : Nat)
  (hc : chk all n rs ⟨dst, .call ⟨.builtin .append, #[x, y], #[T, T2]⟩, ty, pos, aft, gd⟩ = some f)
  (hx : ev rs x = some (.slice base len cap)) (hs : SlIs u eT e base len cap olds) (hy : ev rs y = some (.int kk k))
  (hT : B.ty T = some d) (hd : d.desc = .slice eT) (hT2 : B.ty T2 = some d2) (hd2 : d2.desc = .int k2) (hz : ElemIs B eT u bytes z) (hzl : z.length = u.size) (hu0 : 0 < u.size)
  (he : nth m i = some e) (hk0 : 0 < k) (h1 : ∀ v ∈ z, v.oneCell' = true)
  (h63 : len + k ≤ 9223372036854775807) (hby : (len + k) * bytes ≤ 140737488355328)
  (h : ∀ base' cap' e', SlIs u eT e' base' (len + k) cap' (olds ++ zrow z k) → WPl B E n all rest ((f, .slice base' (len + k) cap') :: rs) (repl m i e') K) :
  WPl B E n all (⟨dst, .call ⟨.builtin .append, #[x, y], #[T, T2]⟩, ty, pos, aft, gd⟩ :: rest) rs m K := by
 obtain ⟨g1, g2, g3⟩ := chk_ok hc
 refine step_eff g1 (by rw [g2]; exact g3) (eff_append_z hx hs hy hT hd hT2 hd2 hz hzl hu0 he hk0 h1 h63 hby) ?_
 rintro v m' ⟨base', cap', e', rfl, hs', rfl⟩
 rw [g2]
 exact h base' cap' e' hs'
theorem pure_fieldAddr_at {x : Operand} {S : TypeId} {f ft fo : Nat} {p : Addr} {d u : Ty} {fs : Array Field}
  (hx : ev rs x = some (.pointer (some p))) (hS : B.ty S = some d) (hd : d.desc = .struct fs) (hf : fs[f]? = some (fd ft fo))
  (hu : B.ty ft = some u) (h0 : u.size ≠ 0) :
  Pure B E rs m ⟨dst, .fieldAddr S x f, ty, pos, aft, gd⟩ (.pointer (some (p.add fo))) := by
 refine ⟨fun a w hr hh hk => ?_⟩
 obtain ⟨gs, hg, hs⟩ := ty_struct hS hd
 obtain ⟨g, hg1, hg2, hg3⟩ := field_of hg hf
 rw [← hg2] at hu
 simp [execOp, ev_ok hr hx, Instr.fieldAt, hs, hg1, Instr.sureAddr, fieldPlace, ty_size hu, h0, hg3]
theorem pure_nil_eql {x y : Operand} {T U eT : TypeId} {a : Option Addr} {l c : Nat} {d : Ty} (hx : ev rs x = some (.slice a l c)) (hy : ev rs y = some (.slice none 0 0)) (hT : B.ty T = some d) (hd : d.desc = .slice eT) :
  Pure B E rs m ⟨dst, .binOp .eql T x y U, ty, pos, aft, gd⟩ (.bool a.isNone) := by
 refine ⟨fun a' w hr hh hk => ?_⟩
 have h := run_equal_slice_nil (P := B.P) w T eT a l c (under_of hT hd)
 simp [execOp, ev_ok hr hx, ev_ok hr hy, eqGuard, binOp, h]
theorem pure_nil_neq {x y : Operand} {T U eT : TypeId} {a : Option Addr} {l c : Nat} {d : Ty} (hx : ev rs x = some (.slice a l c)) (hy : ev rs y = some (.slice none 0 0)) (hT : B.ty T = some d) (hd : d.desc = .slice eT) :
  Pure B E rs m ⟨dst, .binOp .neq T x y U, ty, pos, aft, gd⟩ (.bool (!a.isNone)) := by
 refine ⟨fun a' w hr hh hk => ?_⟩
 have h := run_equal_slice_nil (P := B.P) w T eT a l c (under_of hT hd)
 simp [execOp, ev_ok hr hx, ev_ok hr hy, eqGuard, binOp, h]
/-- An empty slice literal. -/
theorem eff_buildSlice0 {T eT : TypeId} {d u : Ty} (hT : B.ty T = some d) (hd : d.desc = .slice eT) (hu : B.ty eT = some u) :
  Eff B E rs m ⟨dst, .buildSlice T 0 #[], ty, pos, aft, gd⟩ (fun v m' => ∃ b, v = .slice (some ⟨b, 0, none⟩) 0 0 ∧ m' = ⟨b, [], eT⟩ :: m) := by
 refine ⟨fun a w hr hh ho hk => ?_⟩
 refine ⟨_, w.alloc (.cells ([] : List Value).toArray eT), .slice (some ⟨w.heap.size, 0, none⟩) 0 0, ⟨w.heap.size, [], eT⟩ :: m, ?_, .inl rfl, hh.alloc [] eT, ⟨fun h => absurd rfl h, ho⟩, hk.alloc _, _, rfl, rfl⟩
 have h1 := under_of hT hd
 simp [execOp, Instr.buildSlice, run_underlying h1, ty_size hu, newRow, Instr.fill]
 congr 2
 apply Array.ext'
 simp
theorem step_buildSlice0 {T eT : TypeId} {d u : Ty} {f : Nat} (hc : chk all n rs ⟨dst, .buildSlice T 0 #[], ty, pos, aft, gd⟩ = some f) (hT : B.ty T = some d) (hd : d.desc = .slice eT) (hu : B.ty eT = some u)
  (h : ∀ b, WPl B E n all rest ((f, .slice (some ⟨b, 0, none⟩) 0 0) :: rs) (⟨b, [], eT⟩ :: m) K) :
  WPl B E n all (⟨dst, .buildSlice T 0 #[], ty, pos, aft, gd⟩ :: rest) rs m K := by
 obtain ⟨h1, h2, h3⟩ := chk_ok hc
 refine step_eff h1 (by rw [h2]; exact h3) (eff_buildSlice0 hT hd hu) ?_
 rintro v m' ⟨b, rfl, rfl⟩
 rw [h2]
 exact h b
theorem sl_empty (u : Ty) (eT : TypeId) (b : Nat) : SlIs u eT ⟨b, [], eT⟩ (some ⟨b, 0, none⟩) 0 0 [] := ⟨by simp, Nat.le_refl _, fun h => absurd rfl h, by simp⟩
/-- What is appended: cells that are known. -/
theorem src_slc {v : Value} {sz k : Nat} {xs : List Value} (h : ∀ w, Has w m → Keep E.w0 w E.ws → SlC (fun p x => w.cell? p = some x) sz v k xs) :
  ∀ w, Has w m → Keep E.w0 w E.ws → (Builtin.firstCells sz k v).run B.P w = .ok xs.toArray w := by
 intro w hh hk
 obtain ⟨base, cap, rfl, h2, h3, h4⟩ := h w hh hk
 by_cases hne : xs = []
 ·subst hne
  have h0 : k * sz = 0 := by simpa using h3.symm
  cases base <;> simp [Builtin.firstCells, h0, loadCells, loadCellsFrom]
 ·obtain ⟨p, rfl, hp⟩ := h4 hne
  simp only [Builtin.firstCells, ← h3]
  exact run_loadCells_list w p xs hp
theorem slc_now {v : Value} {sz k : Nat} {xs : List Value} (h : SlC (Cel E) sz v k xs) : ∀ w, Has w m → Keep E.w0 w E.ws → SlC (fun p x => w.cell? p = some x) sz v k xs :=
 fun w _ hk => h.mono fun p x hp => hp.now hk
theorem slc_keep {w w' : World} {v : Value} {sz k : Nat} {xs : List Value} (h : SlC (fun p x => w.cell? p = some x) sz v k xs) (kp : Keep w w' []) : SlC (fun p x => w'.cell? p = some x) sz v k xs :=
 h.mono fun p x hp => cell_keep hp kp List.not_mem_nil
theorem slis_now {u : Ty} {eT : TypeId} {e : Ent} {base : Option Addr} {len cap j : Nat} {xs : List Value} (hs : SlIs u eT e base len cap xs) (he : nth m j = some e) :
  ∀ w, Has w m → Keep E.w0 w E.ws → SlC (fun p x => w.cell? p = some x) u.size (.slice base len cap) len xs := by
 intro w hh _
 refine ⟨base, cap, rfl, hs.le, hs.len, fun hne => ?_⟩
 have hlive : e.cells ≠ [] := fun h => hne (by rw [← hs.xs, h]; simp)
 obtain ⟨hb, hel⟩ := hs.at_ hlive
 refine ⟨_, hb, fun i x hx => ?_⟩
 rw [add_none, Nat.zero_add]
 refine cell_of (hh.cell (nth_mem he) hlive) ?_
 rw [← hs.xs, List.getElem?_take] at hx
 split at hx
 ·exact hx
 ·cases hx
theorem SlV.slc {w : World} {v : Value} {xs : List Value} (h : SlV w v xs) : SlC (fun p x => w.cell? p = some x) 1 v xs.length xs := by
 obtain ⟨base, cap, rfl, h4⟩ := h.is
 exact ⟨base, cap, rfl, h.room _ _ _ rfl, by rw [Nat.mul_one], h4⟩
theorem row_app (a b : List Int) : row a ++ row b = row (a ++ b) := (List.map_append ..).symm
/-- A slice of bytes of one's own: its block, and what is behind. -/
theorem slis_form {u : Ty} {eT : TypeId} {e : Ent} {base : Option Addr} {len cap : Nat} {l : List Int} (hu : u.size = 1) (hs : SlIs u eT e base len cap (row l)) (h0 : 0 < len) :
  len = l.length ∧ len ≤ cap ∧ ∃ b R, base = some ⟨b, 0, none⟩ ∧ e = ⟨b, row l ++ R, eT⟩ ∧ R.length = cap - len := by
 have hl := hs.len
 have hsz := hs.size
 have hxs := hs.xs
 rw [hu, Nat.mul_one] at hl hsz hxs
 rw [row_len] at hl
 have hlive : e.cells ≠ [] := by
  intro h
  have := hs.le
  rw [h] at hsz
  simp at hsz
  omega
 obtain ⟨hb, hel⟩ := hs.at_ hlive
 refine ⟨hl.symm, hs.le, e.blk, e.cells.drop len, hb, ?_, by rw [List.length_drop, hsz]⟩
 obtain ⟨b, c, t⟩ := e
 dsimp only at *
 rw [← hxs, List.take_append_drop, hel]
theorem slis_back {u : Ty} {eT : TypeId} {b cap : Nat} {l : List Int} {R : List Value} (hu : u.size = 1) (hR : R.length = cap - l.length) (hc : l.length ≤ cap) : SlIs u eT ⟨b, row l ++ R, eT⟩ (some ⟨b, 0, none⟩) l.length cap (row l) := by
 refine ⟨?_, hc, fun _ => ⟨rfl, rfl⟩, ?_⟩
 ·show (row l ++ R).length = cap * u.size
  rw [List.length_append, row_len, hR, hu]; omega
 ·show (row l ++ R).take _ = row l
  rw [hu, Nat.mul_one]
  exact List.take_left' (row_len l)
theorem slc_slv {v : Value} {k : Nat} {xs : List Value} (h : ∀ w, Has w m → Keep E.w0 w E.ws → SlC (fun p x => w.cell? p = some x) 1 v k xs) : ∀ w, Has w m → Keep E.w0 w E.ws → SlV w v xs := fun w hh hk => (h w hh hk).slv
/-- A slice of one's own that is let go. -/
theorem slc_let {E' : Env} {u : Ty} {eT : TypeId} {e : Ent} {base : Option Addr} {len cap : Nat} {xs : List Value} (hs : SlIs u eT e base len cap xs) (l : Let E E' e) : SlC (Cel E') u.size (.slice base len cap) len xs := by
 refine ⟨base, cap, rfl, hs.le, hs.len, fun hne => ?_⟩
 have hlive : e.cells ≠ [] := fun h => hne (by rw [← hs.xs, h]; simp)
 obtain ⟨hb, hel⟩ := hs.at_ hlive
 refine ⟨_, hb, fun i x hx => ?_⟩
 rw [add_none, Nat.zero_add]
 refine l.cell i x ?_
 rw [← hs.xs, List.getElem?_take] at hx
 split at hx
 ·exact hx
 ·cases hx
/-- Elements of a slice of which the cells are known. -/
theorem SlC.at {C : Addr → Value → Prop} {sz k : Nat} {v : Value} {xs : List Value} (h : SlC C sz v k xs) (hsz : 0 < sz) {i : Nat} (hi : i < k) :
  ∃ p cap, v = .slice (some p) k cap ∧ ∀ j x, xs[i * sz + j]? = some x → C ((p.add (i * sz)).add j) x := by
 obtain ⟨base, cap, rfl, h2, h3, h4⟩ := h
 have hne : xs ≠ [] := by
  intro h0
  rw [h0] at h3
  have := Nat.mul_pos (show 0 < k by omega) hsz
  simp at h3
  omega
 obtain ⟨p, rfl, hp⟩ := h4 hne
 exact ⟨p, cap, rfl, fun j x hj => by rw [Addr.add_add]; exact hp _ _ hj⟩
end z
end Go.Vc
