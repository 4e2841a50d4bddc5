/- More plain operations: pointers compared with nil; parts of arrays. No program is named here. -/
import Derived.Test.YtadginombcjbeaaVs
import Derived.Test.YtadginombcjbeaaVg
import Derived.Lib.ConvBytes
namespace Go.Vc
open Go.RowKit
set_option linter.unusedVariables false
section
variable {B : Tb} {E : Env} {n : Nat} {all rest : List Oper} {rs : Rs} {m : Mem} {K : Act → World → Prop}
variable {dst : Option Tmp} {ty : TypeId} {pos : String} {aft : Array Edge} {gd : Option (Nat × Bool)}
theorem run_ptr_nil {T eT : TypeId} {a : Addr} {d : Ty} (hT : B.ty T = some d) (hd : d.desc = .pointer eT) (k : Nat) (w : World) : (Op.equalIn (k + 1) T (.pointer (some a)) (.pointer none)).run B.P w = .ok false w := by
 have h2 := ty_under hT (by rw [hd]; rfl) w
 rw [hd] at h2
 simp [Op.equalIn, h2]
theorem pure_ptr_eql {x y : Operand} {T U eT : TypeId} {a : Addr} {d : Ty} (hx : ev rs x = some (.pointer (some a))) (hy : ev rs y = some (.pointer none)) (hT : B.ty T = some d) (hd : d.desc = .pointer eT) :
  Pure B E rs m ⟨dst, .binOp .eql T x y U, ty, pos, aft, gd⟩ (.bool false) := by
 refine ⟨fun a' w hr hh hk => ?_⟩
 have h : (Op.equal T (.pointer (some a)) (.pointer none)).run B.P w = .ok false w := run_ptr_nil hT hd 9999 w
 simp [execOp, ev_ok hr hx, ev_ok hr hy, eqGuard, binOp, h]
theorem pure_ptr_neq {x y : Operand} {T U eT : TypeId} {a : Addr} {d : Ty} (hx : ev rs x = some (.pointer (some a))) (hy : ev rs y = some (.pointer none)) (hT : B.ty T = some d) (hd : d.desc = .pointer eT) :
  Pure B E rs m ⟨dst, .binOp .neq T x y U, ty, pos, aft, gd⟩ (.bool true) := by
 refine ⟨fun a' w hr hh hk => ?_⟩
 have h : (Op.equal T (.pointer (some a)) (.pointer none)).run B.P w = .ok false w := run_ptr_nil hT hd 9999 w
 simp [execOp, ev_ok hr hx, ev_ok hr hy, eqGuard, binOp, h]
theorem pure_concat {x y : Operand} {T U : TypeId} {s t : ByteArray} (hx : ev rs x = some (.string s)) (hy : ev rs y = some (.string t)) (h : s.size + t.size ≤ 9223372036854775807) :
  Pure B E rs m ⟨dst, .binOp .add T x y U, ty, pos, aft, gd⟩ (.string (s ++ t)) := by
 refine ⟨fun a w hr hh hk => ?_⟩
 have h2 : ¬ (((s.size + t.size : Nat) : Int) > IntKind.i64.max) := by
  show ¬ (((s.size + t.size : Nat) : Int) > 9223372036854775807)
  omega
 simp only [execOp, ev_ok hr hx, ev_ok hr hy, eqGuard, binOp, Op.stringOp, if_neg h2, Sem.run_bind, Sem.run_pure]
 rfl
/-- The beginning of an array, as a slice. -/
theorem pure_arr_hi {x y : Operand} {T eT : TypeId} {b off len : Nat} {k : IntKind} {i : Int} {d u : Ty} (hx : ev rs x = some (.pointer (some ⟨b, off, none⟩))) (hy : ev rs y = some (.int k i))
  (hT : B.ty T = some d) (hd : d.desc = .array len eT) (hu : B.ty eT = some u) (h0 : 0 ≤ i) (h1 : i ≤ len) :
  Pure B E rs m ⟨dst, .slice T x none (some y) none, ty, pos, aft, gd⟩ (.slice (some ⟨b, off, none⟩) i.toNat len) := by
 refine ⟨fun a w hr hh hk => ?_⟩
 have h2 := ty_under hT (by rw [hd]; rfl) w
 rw [hd] at h2
 simp [execOp, ev_ok hr hx, ev_ok hr hy, Instr.sliceAt, h2, Instr.sureAddr, Instr.sliceBounds, Instr.sliceBound, asIntOf, h0, h1, ty_size hu, add_none]
/-- A slice with cells enough, as an array. -/
theorem pure_toArr {x : Operand} {T eT : TypeId} {a : Option Addr} {len cap n : Nat} {d : Ty} (hx : ev rs x = some (.slice a len cap)) (hT : B.ty T = some d) (hd : d.desc = .array n eT) (h : n ≤ len) :
  Pure B E rs m ⟨dst, .sliceToArrayPointer T x, ty, pos, aft, gd⟩ (.pointer a) := by
 refine ⟨fun a' w hr hh hk => ?_⟩
 have h2 := ty_under hT (by rw [hd]; rfl) w
 rw [hd] at h2
 simp [execOp, ev_ok hr hx, Instr.arrayAt, h2, show ¬ len < n by omega]
/-! closures that give a value -/
theorem step_givesc {f : FuncId} {fx : Operand} {args : List Operand} {ats : Array TypeId} {vs caps us : List Value} {v : Value} {d : Nat}
  (hc : chk all n rs ⟨dst, .call ⟨.value fx, args.toArray, ats⟩, ty, pos, aft, gd⟩ = some d)
  (hfx : ev rs fx = some (.func (.func f) #[] caps.toArray)) (hf : Fun B f) (hv : evs rs args = some vs) (hu : vs ++ caps = us) (hg : ∀ w, Has w m → Keep E.w0 w E.ws → Gives B f us w v)
  (h : WPl B E n all rest ((d, v) :: rs) m K) :
  WPl B E n all (⟨dst, .call ⟨.value fx, args.toArray, ats⟩, ty, pos, aft, gd⟩ :: rest) rs m K := by
 subst hu
 refine ⟨fun Q hQ a w ok => ?_⟩
 refine (step_callee (m := m) (K := K) hc hfx hf hv (fun w hh hk => (hg w hh hk).calls.mono ?_)).run Q hQ a w ok
 rintro e w' ⟨rfl, hkeep⟩
 exact ⟨v, m, rfl, hkeep.has hh, ok.own, hk.trans hkeep (by simp), h⟩
theorem d_givesc {mS : Mem} {codes left : List Nat} {c : Nat} {f : FuncId} {fx : Operand} {args : List Operand} {ats : Array TypeId} {vs caps us : List Value} {v : Value} {d : Nat}
  (ho : opOf all c = some ⟨dst, .call ⟨.value fx, args.toArray, ats⟩, ty, pos, aft, gd⟩) (hk : cKd c = 1)
  (hc : chk all n rs ⟨dst, .call ⟨.value fx, args.toArray, ats⟩, ty, pos, aft, gd⟩ = some d)
  (hfx : ev rs fx = some (.func (.func f) #[] caps.toArray)) (hf : Fun B f) (hv : evs rs args = some vs) (hu : vs ++ caps = us) (hg : ∀ w, Has w mS → Keep E.w0 w E.ws → Gives B f us w v) (hs : SubMem m mS)
  (h : WPd B E n all mS codes left ((d, v) :: rs) m K) : WPd B E n all mS codes (c :: left) rs m K := by
 subst hu
 obtain ⟨hw, hd, hdn⟩ := chk_ok hc
 exact d_quiet (C := fun _ => True) ho hk rfl (fun a hr _ => .inl ⟨wants_ok hr hw, fun w hC => .inr ⟨f, (vs ++ caps).toArray, run_enterc hfx hf hr hv, (hg w (hC.2 rfl) hC.1).calls⟩⟩) (fun _ => hs) hd hdn h
/-! a string's bytes, as a slice: its block is of a form of its own; nobody writes it -/
def bytesOf (s : ByteArray) : List Int := s.data.toList.map fun b => (b.toNat : Int)
theorem bytesOf_len (s : ByteArray) : (bytesOf s).length = s.size := by
 unfold bytesOf
 rw [List.length_map]
 rfl
theorem bytesOf_app (s t : ByteArray) : bytesOf (s ++ t) = bytesOf s ++ bytesOf t := by
 unfold bytesOf
 rw [ByteArray.data_append, Array.toList_append, List.map_append]
theorem bytesOf_bytes (s : ByteArray) : Bytes (bytesOf s) := by
 intro x hx
 obtain ⟨b, _, rfl⟩ := List.mem_map.1 hx
 have := b.toNat_lt
 omega
theorem step_strbytes {x : Operand} {S T eT : TypeId} {dS dT u : Ty} {s : ByteArray} {d : Nat} (hc : chk all n rs ⟨dst, .convert S T x, ty, pos, aft, gd⟩ = some d) (hx : ev rs x = some (.string s))
  (hS : B.ty S = some dS) (hdS : dS.desc = .string) (hT : B.ty T = some dT) (hdT : dT.desc = .slice eT) (hu : B.ty eT = some u) (hud : u.desc = .int .u8)
  (h : ∀ v E', Gt E E' → (∀ Z, Sc Z E → SlC (Cz Z E') 1 v (bytesOf s).length (row (bytesOf s))) → WPl B E' n all rest ((d, v) :: rs) m K) :
  WPl B E n all (⟨dst, .convert S T x, ty, pos, aft, gd⟩ :: rest) rs m K := by
 refine ⟨fun Q hQ a w ok => ?_⟩
 obtain ⟨hw, hd, hdn⟩ := chk_ok hc
 unfold wpList
 rw [if_pos (wants_ok ok.regs hw)]
 left
 unfold Oper.wp
 have h1 := under_plain hS (by rw [hdS]; rfl)
 have h2 := under_plain hT (by rw [hdT]; rfl)
 have h3 := under_plain hu (by rw [hud]; rfl)
 rw [hdS] at h1
 rw [hdT] at h2
 rw [hud] at h3
 have hrun := Lib.run_convert_string_bytes w S T eT s h1 h2 h3
 have hx' := ev_ok ok.regs hx
 have hex : (execOp a.eval ⟨dst, .convert S T x, ty, pos, aft, gd⟩).run B.P w = .ok (.value (.slice (some ⟨w.heap.size, 0, none⟩) s.size (grownCap w s.size 0 eT))) (Lib.bytesWorld w eT s) := by
  simp only [execOp, hx', Sem.run_bind, hrun, Result.andThen_ok, Sem.run_pure]
 rw [hex]
 have hsz := Lib.bytesWorld_size w eT s
 have hk : Keep w (Lib.bytesWorld w eT s) [] := ⟨rfl, rfl, rfl, by rw [hsz]; omega, fun k hk _ => Lib.bytesWorld_at_old w eT s k hk⟩
 have hd' : dst = some d := hd
 subst hd'
 generalize hw2 : Lib.bytesWorld w eT s = w2 at hk hsz
 have ok' : Ok E n ((d, .slice (some ⟨w.heap.size, 0, none⟩) s.size (grownCap w s.size 0 eT)) :: rs) m (a.put (some d) (.slice (some ⟨w.heap.size, 0, none⟩) s.size (grownCap w s.size 0 eT))) w2 :=
  ⟨(put_size ..).trans ok.size, (put_defers ..).trans ok.defers, put_regs (d := some d) ok.size hdn ok.regs, hk.has ok.has, ok.own, ok.keep.trans hk (by simp)⟩
 refine (h _ ⟨w2, blks m, E.defs⟩ (at_gt ok.own ok'.keep) (fun Z hz => ?_)).run Q hQ _ _ (at_ok ok' (List.Sublist.refl _))
 rw [bytesOf_len]
 refine ⟨_, _, rfl, grownCap_ge w s.size 0 eT, by rw [row_len, bytesOf_len, Nat.mul_one], fun _ => ⟨_, rfl, fun j y hj => ?_⟩⟩
 rw [add_none, Nat.zero_add]
 refine ⟨⟨?_, ?_⟩, hz _ (.inl ok.keep.size)⟩
 ·have hjl : j < s.size := by
   have := (List.getElem?_eq_some_iff.1 hj).1
   rw [row_len, bytesOf_len] at this
   exact this
  rw [row_get _ _ (by rw [bytesOf_len]; exact hjl)] at hj
  cases hj
  have hcell := Lib.bytesWorld_cell w eT s j hjl
  rw [hw2] at hcell
  show w2.cell? ⟨w.heap.size, j, none⟩ = _
  rw [hcell]
  congr 2
  unfold bytesOf
  rw [List.getD_eq_getElem?_getD, List.getD_eq_getElem?_getD, List.getElem?_map]
  have hjl2 : j < s.data.toList.length := hjl
  rw [List.getElem?_eq_getElem hjl2]
  rfl
 ·show w.heap.size ∉ blks m
  intro hb
  obtain ⟨e, he, hl, hbe⟩ := mem_blks.1 hb
  have := ok.has.lt e he hl
  omega
/-- A slice of bytes of one's own, told to be one that a string came from: its block is not written any more. -/
theorem run_mark {P : Program} {w : World} {S eT : TypeId} {b len cap : Nat} {c : List Value} {t : TypeId} (h1 : P.underlying S = some (.slice eT)) (h2 : P.underlying eT = some (.int .u8)) (hb : w.heap[b]? = some (.cells c.toArray t (0, 0))) :
  (convert S S (.slice (some ⟨b, 0, none⟩) len cap)).run P w = .ok (.slice (some ⟨b, 0, none⟩) len cap) (w.freeze ⟨b, c.length, none⟩ 1) := by
 have hsh : w.shape? b = some (t, c.length) := by simp [World.shape?, hb]
 simp [convert, run_underlying h1, run_underlying h2, markStringish, hsh]
theorem freeze_other {w : World} {b n k : Nat} (h : k ≠ b) : (w.freeze ⟨b, n, none⟩ 1).heap[k]? = w.heap[k]? := by
 simp [World.freeze, Array.getElem?_modify, Ne.symm h]
theorem freeze_same {w : World} {b n : Nat} {c : List Value} {t : TypeId} (hb : w.heap[b]? = some (.cells c.toArray t (0, 0))) : (w.freeze ⟨b, n, none⟩ 1).heap[b]? = some (.cells c.toArray t (n, n + 1)) := by
 simp [World.freeze, Array.getElem?_modify, hb]
theorem step_mark {x : Operand} {S eT : TypeId} {dS u : Ty} {b len cap d : Nat} {e : Ent} (i : Nat) (hc : chk all n rs ⟨dst, .convert S S x, ty, pos, aft, gd⟩ = some d) (hx : ev rs x = some (.slice (some ⟨b, 0, none⟩) len cap))
  (hS : B.ty S = some dS) (hdS : dS.desc = .slice eT) (hu : B.ty eT = some u) (hud : u.desc = .int .u8) (he : nth m i = some e) (hb : e.blk = b) (hl : e.cells ≠ [])
  (h : ∀ E', Gt E E' → (∀ Z, Sc Z E → ∀ j y, e.cells[j]? = some y → Cz Z E' ⟨e.blk, j, none⟩ y) → WPl B E' n all rest ((d, .slice (some ⟨b, 0, none⟩) len cap) :: rs) (m.eraseIdx i) K) :
  WPl B E n all (⟨dst, .convert S S x, ty, pos, aft, gd⟩ :: rest) rs m K := by
 refine ⟨fun Q hQ a w ok => ?_⟩
 obtain ⟨hw, hd, hdn⟩ := chk_ok hc
 unfold wpList
 rw [if_pos (wants_ok ok.regs hw)]
 left
 unfold Oper.wp
 have h1 := under_plain hS (by rw [hdS]; rfl)
 have h2 := under_plain hu (by rw [hud]; rfl)
 rw [hdS] at h1
 rw [hud] at h2
 subst hb
 have hcell := ok.has.cell (nth_mem he) hl
 have hrun := run_mark (len := len) (cap := cap) h1 h2 hcell
 have hx' := ev_ok ok.regs hx
 have hex : (execOp a.eval ⟨dst, .convert S S x, ty, pos, aft, gd⟩).run B.P w = .ok (.value (.slice (some ⟨e.blk, 0, none⟩) len cap)) (w.freeze ⟨e.blk, e.cells.length, none⟩ 1) := by
  simp only [execOp, hx', Sem.run_bind, hrun, Result.andThen_ok, Sem.run_pure]
 rw [hex]
 have hd' : dst = some d := hd
 subst hd'
 have hperm := nth_perm he
 have hh := ok.has.perm hperm
 have ho := ok.own.perm hperm
 have hown := ok.own.at (nth_mem he) hl
 have hsz : (w.freeze ⟨e.blk, e.cells.length, none⟩ 1).heap.size = w.heap.size := by simp [World.freeze]
 have hkeep : Keep E.w0 (w.freeze ⟨e.blk, e.cells.length, none⟩ 1) E.ws := ok.keep.write hown (fun k hk => freeze_other hk) rfl rfl rfl hsz
 have hne : ∀ y ∈ m.eraseIdx i, y.cells ≠ [] → y.blk ≠ e.blk := fun y hy hyl hb => has_apart2 hh e (.head _) hl (mem_blks.2 ⟨y, hy, hyl, hb⟩)
 have hm' : Has (w.freeze ⟨e.blk, e.cells.length, none⟩ 1) (m.eraseIdx i) := (hh.sublist (List.sublist_append_right [e] _)).of_same fun y hy hyl => freeze_other (hne y hy hyl)
 have ho' : Own E (m.eraseIdx i) := ho.sublist (List.sublist_append_right [e] _)
 have ok' : Ok E n ((d, .slice (some ⟨e.blk, 0, none⟩) len cap) :: rs) (m.eraseIdx i) (a.put (some d) (.slice (some ⟨e.blk, 0, none⟩) len cap)) (w.freeze ⟨e.blk, e.cells.length, none⟩ 1) :=
  ⟨(put_size ..).trans ok.size, (put_defers ..).trans ok.defers, put_regs (d := some d) ok.size hdn ok.regs, hm', ho', hkeep⟩
 refine (h ⟨_, blks (m.eraseIdx i), E.defs⟩ (at_gt ho' hkeep) (fun Z hz j y hj => ⟨⟨?_, ?_⟩, hz _ hown⟩)).run Q hQ _ _ (at_ok ok' (List.Sublist.refl _))
 ·show World.cell? _ _ = _
  unfold World.cell?
  rw [freeze_same hcell]
  simpa using hj
 ·show e.blk ∉ blks (m.eraseIdx i)
  intro hb
  obtain ⟨y, hy, hyl, hyb⟩ := mem_blks.1 hb
  exact hne y hy hyl hyb
end
end Go.Vc
