/- Slices that came in, and parts of them; arrays of arrays; bools; strings. -/
import Derived.Test.YtadginombcjbeaaVq
import Derived.DataElems
namespace Go.Vc
open Go.RowKit
set_option linter.unusedVariables false
/-- A part of a slice, as a value. -/
def subS (a : Option Addr) (cap sz lo hi : Nat) : Value := .slice (if cap = lo then a else a.map (·.add (lo * sz))) (hi - lo) (cap - lo)
theorem slv_sub {w : World} {a : Option Addr} {len cap : Nat} {xs : List Value} {lo hi : Nat} (h : SlV w (.slice a len cap) xs) (h1 : lo ≤ hi) (h2 : hi ≤ len) :
  SlV w (subS a cap 1 lo hi) ((xs.drop lo).take (hi - lo)) := by
 obtain ⟨base, cap', hv, hc⟩ := h.is
 obtain ⟨rfl, hlen, rfl⟩ : a = base ∧ len = xs.length ∧ cap = cap' := by cases hv; exact ⟨rfl, rfl, rfl⟩
 have hroom : len ≤ cap := h.room _ _ _ rfl
 have hl : ((xs.drop lo).take (hi - lo)).length = hi - lo := by rw [List.length_take, List.length_drop]; omega
 refine ⟨⟨if cap = lo then a else a.map (·.add (lo * 1)), cap - lo, by unfold subS; rw [hl], fun hne => ?_⟩, fun b n c hv => ?_⟩
 ·have hlt : lo < hi := by
   rcases Nat.lt_or_ge lo hi with h' | h'
   ·exact h'
   ·exact absurd (List.eq_nil_of_length_eq_zero (by omega)) hne
  obtain ⟨p, rfl, hp⟩ := hc (by intro h0; rw [h0] at hlen; simp at hlen; omega)
  refine ⟨p.add lo, by rw [if_neg (by omega), Nat.mul_one]; rfl, fun j x hx => ?_⟩
  rw [Addr.add_add]
  rw [List.getElem?_take] at hx
  split at hx
  ·rw [List.getElem?_drop] at hx
   exact hp _ _ hx
  ·cases hx
 ·unfold subS at hv
  cases hv
  omega
/-- The cells of a slice that came in, read later. -/
theorem slv_keep {w w' : World} {ws : List Nat} {v : Value} {xs : List Value} (h : SlV w v xs) (k : Keep w w' ws) (hn : ∀ a len cap, v = .slice (some a) len cap → a.block ∉ ws) : SlV w' v xs := by
 obtain ⟨base, cap, rfl, hc⟩ := h.is
 refine ⟨⟨base, cap, rfl, fun hne => ?_⟩, h.room⟩
 obtain ⟨p, rfl, hp⟩ := hc hne
 refine ⟨p, rfl, fun j x hx => ?_⟩
 have h1 := hp j x hx
 have hb : (p.add j).block = p.block := by unfold Addr.add; split <;> rfl
 unfold World.cell? at h1 ⊢
 rw [k.block _ (World.block_lt_of_cell? _ _ (hp j x hx)) (by rw [hb]; exact hn p _ _ rfl)]
 exact h1
theorem slv_keep0 {w w' : World} {v : Value} {xs : List Value} (h : SlV w v xs) (k : Keep w w' []) : SlV w' v xs := slv_keep h k (fun _ _ _ _ => by simp)
/-- An array of one's own, as a slice. -/
theorem slv_arr {w : World} {m : Mem} {b t j n : Nat} {l : List Int} (hh : Has w m) (he : nth m j = some ⟨b, row l, t⟩) (hl : l.length = n) : SlV w (.slice (some ⟨b, 0, none⟩) n n) (row l) := by
 subst hl
 refine ⟨⟨some ⟨b, 0, none⟩, l.length, by rw [row_len], fun hne => ⟨⟨b, 0, none⟩, rfl, fun i x hx => ?_⟩⟩, fun _ _ _ h => by cases h; exact Nat.le_refl _⟩
 rw [add_none, Nat.zero_add]
 exact cell_of (hh.cell (nth_mem he) hne) hx
section s
variable {B : Tb} {E : Env} {n : Nat} {all rest : List Oper} {rs : Rs} {m : Mem} {K : Act → World → Prop}
variable {dst : Option Tmp} {ty : TypeId} {pos : String} {aft : Array Edge} {gd : Option (Nat × Bool)}
theorem pure_sub_hi {x y : Operand} {T eT : TypeId} {a : Option Addr} {len cap : Nat} {k : IntKind} {i : Int} {d u : Ty} (hx : ev rs x = some (.slice a len cap)) (hy : ev rs y = some (.int k i))
  (hT : B.ty T = some d) (hd : d.desc = .slice eT) (hu : B.ty eT = some u) (h0 : 0 ≤ i) (h1 : i ≤ cap) :
  Pure B E rs m ⟨dst, .slice T x none (some y) none, ty, pos, aft, gd⟩ (subS a cap u.size 0 i.toNat) := by
 refine ⟨fun a' w hr hh hk => ?_⟩
 have h2 := ty_under hT (by rw [hd]; rfl) w
 rw [hd] at h2
 simp [execOp, ev_ok hr hx, ev_ok hr hy, Instr.sliceAt, Instr.slice, h2, Instr.sliceBounds, Instr.sliceBound, asIntOf, h0, h1, ty_size hu, subS]
theorem pure_sub_lo {x y : Operand} {T eT : TypeId} {a : Option Addr} {len cap : Nat} {k : IntKind} {i : Int} {d u : Ty} (hx : ev rs x = some (.slice a len cap)) (hy : ev rs y = some (.int k i))
  (hT : B.ty T = some d) (hd : d.desc = .slice eT) (hu : B.ty eT = some u) (h0 : 0 ≤ i) (h1 : i ≤ len) :
  Pure B E rs m ⟨dst, .slice T x (some y) none none, ty, pos, aft, gd⟩ (subS a cap u.size i.toNat len) := by
 refine ⟨fun a' w hr hh hk => ?_⟩
 have h2 := ty_under hT (by rw [hd]; rfl) w
 rw [hd] at h2
 simp [execOp, ev_ok hr hx, ev_ok hr hy, Instr.sliceAt, Instr.slice, h2, Instr.sliceBounds, Instr.sliceBound, asIntOf, h0, h1, ty_size hu, subS]
theorem pure_sub_both {x y z : Operand} {T eT : TypeId} {a : Option Addr} {len cap : Nat} {k k' : IntKind} {i j : Int} {d u : Ty} (hx : ev rs x = some (.slice a len cap)) (hy : ev rs y = some (.int k i))
  (hz : ev rs z = some (.int k' j)) (hT : B.ty T = some d) (hd : d.desc = .slice eT) (hu : B.ty eT = some u) (h0 : 0 ≤ i) (h1 : i ≤ j) (h3 : j ≤ cap) :
  Pure B E rs m ⟨dst, .slice T x (some y) (some z) none, ty, pos, aft, gd⟩ (subS a cap u.size i.toNat j.toNat) := by
 refine ⟨fun a' w hr hh hk => ?_⟩
 have h2 := ty_under hT (by rw [hd]; rfl) w
 rw [hd] at h2
 have h4 : 0 ≤ j := by omega
 simp [execOp, ev_ok hr hx, ev_ok hr hy, ev_ok hr hz, Instr.sliceAt, Instr.slice, h2, Instr.sliceBounds, Instr.sliceBound, asIntOf, h0, h3, h4, ty_size hu, subS]
 intro h5
 omega
/-- The bytes of a slice that came in, as a string. -/
theorem pure_slv_string {x : Operand} {S T eT : TypeId} {d d2 u : Ty} {v : Value} {ns : List Int}
  (hx : ev rs x = some v) (hS : B.ty S = some d) (hd : d.desc = .slice eT) (hu : B.ty eT = some u) (hud : u.desc = .int .u8)
  (hT : B.ty T = some d2) (hd2 : d2.desc = .string) (hs : SlV E.w0 v (row ns)) (hn : ∀ a len cap, v = .slice (some a) len cap → a.block ∉ E.ws) :
  Pure B E rs m ⟨dst, .convert S T x, ty, pos, aft, gd⟩ (.string (str ns)) := by
 refine ⟨fun a w hr hh hk => ?_⟩
 have k1 := under_of hS hd
 have k2 := under_plain hu (by rw [hud]; rfl)
 rw [hud] at k2
 have k3 := under_plain hT (by rw [hd2]; rfl)
 rw [hd2] at k3
 obtain ⟨base, cap, rfl, hc⟩ := (slv_keep hs hk hn).is
 have key : (Conv.bytesToString (.slice base (row ns).length cap)).run B.P w = .ok (.string (str ns)) w := by
  cases hn0 : ns with
  | nil =>
   cases base with
   | none => simp [Conv.bytesToString, str]
   | some p => exact run_bytesToString w p 0 cap [] (by simp [loadCells, loadCellsFrom])
  | cons y l =>
   rw [← hn0]
   obtain ⟨p, rfl, hp⟩ := hc (by rw [hn0]; simp [ints])
   exact run_bytesToString w p _ cap ns (run_loadCells_list w p (row ns) hp)
 simp [execOp, ev_ok hr hx, run_convert_bytes_string w S T eT base _ cap k1 k2 k3, key]
/-- The bytes of a slice, wherever they lie, as a string. -/
theorem pure_sl_string {x : Operand} {S T eT : TypeId} {d d2 u : Ty} {v : Value} {ns : List Int}
  (hx : ev rs x = some v) (hS : B.ty S = some d) (hd : d.desc = .slice eT) (hu : B.ty eT = some u) (hud : u.desc = .int .u8)
  (hT : B.ty T = some d2) (hd2 : d2.desc = .string) (hs : ∀ w, Has w m → Keep E.w0 w E.ws → SlV w v (row ns)) :
  Pure B E rs m ⟨dst, .convert S T x, ty, pos, aft, gd⟩ (.string (str ns)) := by
 refine ⟨fun a w hr hh hk => ?_⟩
 exact (pure_slv_string (E := ⟨w, [], []⟩) (m := m) hx hS hd hu hud hT hd2 (hs w hh hk) (fun _ _ _ _ => List.not_mem_nil)).run a w hr hh (Keep.refl w [])
/-! bools -/
theorem run_eq_bool {P : Program} {T : TypeId} (h : P.underlying T = some .bool) (d : Nat) (p q : Bool) (w : World) : (Op.equalIn (d + 1) T (.bool p) (.bool q)).run P w = .ok (p == q) w := by
 simp [Op.equalIn, run_underlying h]
theorem pure_beql {x y : Operand} {T U : TypeId} {p q : Bool} {d : Ty} (hx : ev rs x = some (.bool p)) (hy : ev rs y = some (.bool q)) (hT : B.ty T = some d) (hd : d.desc = .bool) :
  Pure B E rs m ⟨dst, .binOp .eql T x y U, ty, pos, aft, gd⟩ (.bool (p == q)) := by
 refine ⟨fun a w hr hh hk => ?_⟩
 have h := under_plain hT (by rw [hd]; rfl)
 rw [hd] at h
 have key : (Op.equal T (.bool p) (.bool q)).run B.P w = .ok (p == q) w := run_eq_bool h 9999 p q w
 simp [execOp, ev_ok hr hx, ev_ok hr hy, eqGuard, binOp, key]
theorem pure_bneq {x y : Operand} {T U : TypeId} {p q : Bool} {d : Ty} (hx : ev rs x = some (.bool p)) (hy : ev rs y = some (.bool q)) (hT : B.ty T = some d) (hd : d.desc = .bool) :
  Pure B E rs m ⟨dst, .binOp .neq T x y U, ty, pos, aft, gd⟩ (.bool (p != q)) := by
 refine ⟨fun a w hr hh hk => ?_⟩
 have h := under_plain hT (by rw [hd]; rfl)
 rw [hd] at h
 have key : (Op.equal T (.bool p) (.bool q)).run B.P w = .ok (p == q) w := run_eq_bool h 9999 p q w
 simp [execOp, ev_ok hr hx, ev_ok hr hy, eqGuard, binOp, key, bne]
theorem pure_str_neq {x y : Operand} {T U : TypeId} {s t : ByteArray} (hx : ev rs x = some (.string s)) (hy : ev rs y = some (.string t)) :
  Pure B E rs m ⟨dst, .binOp .neq T x y U, ty, pos, aft, gd⟩ (.bool (!(s.toList == t.toList))) := by
 refine ⟨fun a w hr hh hk => ?_⟩
 simp [execOp, ev_ok hr hx, ev_ok hr hy, eqGuard, binOp, Op.stringOp]
/-! arrays of arrays of integers -/
theorem run_items_arr {e f : TypeId} {u v : Ty} {k : IntKind} {sz : Nat} (hu : B.ty e = some u) (hd : u.desc = .array sz f) (ha : u.agg = true) (hs : u.size = sz) (hv : B.ty f = some v) (hk : v.desc = .int k)
  (hvs : v.size = 1) (hva : v.agg = false) (d : Nat) (l : List Int) (w : World) : ∀ is : List Nat, (∀ i ∈ is, (i + 1) * sz ≤ l.length) →
  (Op.eqItems (d + 2) e sz (ints k l).toArray (ints k l).toArray is).run B.P w = .ok true w := by
 intro is
 induction is with
 | nil => intro _; simp [Op.eqItems]
 | cons i is ih =>
  intro h
  have hi := h i (.head _)
  have e1 : (ints k l).toArray.extract (i * sz) (i * sz + u.size) = (ints k ((l.drop (i * sz)).take sz)).toArray := by
   rw [← ints_sub, hs]
   simp [List.extract_toArray, List.extract_eq_take_drop]
  have p1 := run_part_agg (B := B) hu ha (cs := (ints k l).toArray) (off := i * sz) w
  rw [e1] at p1
  have hlen : ((l.drop (i * sz)).take sz).length = sz := by
   rw [Nat.add_mul, Nat.one_mul] at hi
   rw [List.length_take, List.length_drop]; omega
  have q := run_eq_arr hu hd hv hk hvs hva d _ _ hlen hlen w
  simp only [Op.eqItems, Sem.run_bind, p1, q, Result.andThen_ok]
  simp [ih (fun j hj => h j (.tail _ hj))]
theorem pure_eql_arr2 {x y : Operand} {T U e f : TypeId} {dT u v : Ty} {k : IntKind} {n sz : Nat} {l : List Int} (hx : ev rs x = some (.agg (ints k l).toArray)) (hy : ev rs y = some (.agg (ints k l).toArray))
  (hg : B.P.eqGuardType B.P.depth T = false)
  (hT : B.ty T = some dT) (hd : dT.desc = .array n e) (hu : B.ty e = some u) (hud : u.desc = .array sz f) (ha : u.agg = true) (hs : u.size = sz) (hv : B.ty f = some v) (hk : v.desc = .int k) (hvs : v.size = 1) (hva : v.agg = false)
  (hl : l.length = n * sz) :
  Pure B E rs m ⟨dst, .binOp .eql T x y U, ty, pos, aft, gd⟩ (.bool true) := by
 refine ⟨fun a w hrg hh hkp => ?_⟩
 have h1 := under_plain hT (by rw [hd]; rfl)
 rw [hd] at h1
 obtain ⟨i, hi, _⟩ := info_of hu
 have key : (Op.equalIn 10000 T (.agg (ints k l).toArray) (.agg (ints k l).toArray)).run B.P w = .ok true w := by
  rw [run_equalIn_array w 9999 _ _ h1 hi, cells_of hu, hs]
  exact run_items_arr hu hud ha hs hv hk hvs hva 9997 l w _ (fun j hj => by
   have := List.mem_range.1 hj
   rw [hl]
   exact Nat.mul_le_mul_right sz this)
 simp [execOp, ev_ok hrg hx, ev_ok hrg hy, eqGuard, binOp, hg, Op.equal, Op.maxDepth, key]
/-! regions that draw their order: what is read may be less than what lies there -/
section d
variable {mS : Mem} {codes : List Nat} {c : Nat} {left : List Nat} {o : Oper}
theorem d_region2 {id : Nat} {Q : Post} (codes : List Nat) (mS : Mem) (hm : B.P.follows .mixedOrders = true) (hp : planB all codes = true)
  (h : WPd B E n all mS codes codes rs m (KK E n (fun rs m => Q .normal rs m))) (hd : noDef all = true := by rfl) : WP B E n (.region id all.toArray true) rs m Q := by
 refine ⟨fun a w ok => ?_⟩
 simp only [planB, Bool.and_eq_true] at hp
 obtain ⟨h1, h2, h3, h4⟩ := hp
 have hlen : codes.length = all.toArray.size := by rw [List.size_toArray]; exact Nat.eq_of_beq_eq_true h3
 refine Go.wpIn_mono (Q := nq (lift E n Q .normal)) (wpIn_region_any hm (any_in nq_in (fun o ho => noDef_ok hd o (by simpa using ho)) _ _ _ _ (anyN_sound (G := fun w => Keep E.w0 w E.ws) (S := fun w => Has w mS) (needs := needsOf codes) _ _ _ _ ?_))) ?_
 ·have hcl : Closed .any all.toArray (Array.replicate all.length false) := by
   intro j oj hj hl
   rw [getD_replicate] at hl
   cases hl
  have := h.run (lift E n Q .normal) (fun a w ⟨rs, m, ok, hk⟩ => ⟨rs, m, ok, hk⟩) h1 (maskB_ok h2) _ h4 hcl a { w with drawn := w.drawn + 1 }
   ⟨ok.size, ok.defers, ok.regs, ok.has.of_same (fun _ _ _ => rfl), ok.own, ok.keep.drew⟩
  rw [hlen] at this
  simpa using this
 ·intro e a w hq
  cases e <;> first | exact hq | exact hq.elim
/-- A callee that makes memory; it alone may come up. -/
theorem d_makes {f : FuncId} {args : List Operand} {ats : Array TypeId} {vs : List Value} {R : Value → Mem → Prop} {d : Nat}
  (ho : opOf all c = some ⟨dst, .call ⟨.value (.func f), args.toArray, ats⟩, ty, pos, aft, gd⟩) (hk : cKd c = 2)
  (hc : chk all n rs ⟨dst, .call ⟨.value (.func f), args.toArray, ats⟩, ty, pos, aft, gd⟩ = some d)
  (hf : Fun B f) (hv : evs rs args = some vs) (hg : ∀ w, Has w m → Keep E.w0 w E.ws → Makes B f vs w R)
  (hs : SubMem m mS) (hn : needsOf codes (cIx c) = cNd c)
  (h : ∀ v m', R v m' → WPd B E n all mS codes left ((d, v) :: rs) (m' ++ m) K) : WPd B E n all mS codes (c :: left) rs m K := by
 refine ⟨fun Q hQ hsel hbm listed hp hcl a w ok => ?_⟩
 obtain ⟨hw, hd, hdn⟩ := chk_ok hc
 have hi : all.toArray[cIx c]? = some ⟨dst, .call ⟨.value (.func f), args.toArray, ats⟩, ty, pos, aft, gd⟩ := by
  unfold opOf at ho
  rw [nth_eq] at ho
  simpa using ho
 simp only [planFrom, hk, Nat.beq_refl, cond_true, Bool.and_eq_true, decide_eq_true_eq] at hp
 obtain ⟨hr, hp'⟩ := hp
 refine anyN_only hr fun w2 hkp => ?_
 have ok2 := ok.grow hkp
 have hrun : (execOp a.eval ⟨dst, .call ⟨.value (.func f), args.toArray, ats⟩, ty, pos, aft, gd⟩).run B.P w2 = .ok (.enter f vs.toArray) w2 := by
  have e1 : args.toArray.map a.eval = vs.toArray := by rw [List.map_toArray, evs_ok ok.regs hv]
  simp only [execOp, resolve, e1, Act.eval, Deferred.ofValue, Sem.run_bind, Sem.run_pure, Result.andThen_ok, invoke]
  have := hf vs.toArray w2
  simpa using this
 unfold Go.wpOp
 simp only [hi]
 rw [if_pos (wants_ok ok2.regs hw)]
 left
 unfold Oper.wp
 rw [hrun]
 refine (hg w2 ok2.has ok2.keep).calls.mono ?_
 rintro e w' ⟨v, m', rfl, hR, h1, h2, hkeep⟩
 have hh := Has.join ok2.has hkeep h1 h2
 have ok3 : Ok E n ((d, v) :: rs) (m' ++ m) (a.put dst v) w' := by
  have hd' : dst = some d := hd
  rw [hd']
  exact ⟨(put_size ..).trans ok2.size, (put_defers ..).trans ok2.defers, put_regs (d := some d) ok2.size hdn ok2.regs, hh, Own.join ok2.keep.size ok2.own h2, ok2.keep.trans hkeep (by simp)⟩
 exact ⟨ok3.keep, fun _ hS => hkeep.has hS, (h v m' hR).run Q hQ hsel hbm _ hp' (hcl.set (by rw [hr]; simp)) _ _ ok3⟩
theorem d_make {x y : Operand} {T eT : TypeId} {l cp : Nat} {d u : Ty} {z : List Value} {bytes e : Nat} (ho : opOf all c = some ⟨dst, .makeSlice T x y, ty, pos, aft, gd⟩) (hk : cKd c = 2)
  (hc : chk all n rs ⟨dst, .makeSlice T x y, ty, pos, aft, gd⟩ = some e)
  (hx : ev rs x = some (.int .i64 l)) (hy : ev rs y = some (.int .i64 cp))
  (hT : B.ty T = some d) (hd : d.desc = .slice eT) (hz : ElemIs B eT u bytes z) (hlc : l ≤ cp) (hb : bytes * cp ≤ 281474976710656) (h63 : cp ≤ 9223372036854775807) (hs : SubMem m mS) (hn : needsOf codes (cIx c) = cNd c)
  (h : ∀ b, WPd B E n all mS codes left ((e, .slice (some ⟨b, 0, none⟩) l cp) :: rs) (⟨b, rowOf z (cp * u.size), eT⟩ :: m) K) :
  WPd B E n all mS codes (c :: left) rs m K := by
 obtain ⟨h1, h2, h3⟩ := chk_ok hc
 refine d_only ho hk h1 (by rw [h2]; exact h3) (eff_make hx hy hT hd hz hlc hb h63) ?_ hn
 rintro v m' ⟨b, rfl, rfl⟩
 rw [h2]
 exact ⟨fun _ => hs.cons, h b⟩
/-- An append that leaves what is read. -/
theorem d_append2 {x y : Operand} {T T2 eT : TypeId} {base : Option Addr} {len cap f : Nat} {d d2 u : Ty} {z olds news : List Value} {bytes k : Nat} {e : Ent} {v2 : Value} (i : Nat)
  (ho : opOf all c = some ⟨dst, .call ⟨.builtin .append, #[x, y], #[T, T2]⟩, ty, pos, aft, gd⟩) (hk2 : cKd c = 2)
  (hc : chk all n rs ⟨dst, .call ⟨.builtin .append, #[x, y], #[T, T2]⟩, ty, pos, aft, gd⟩ = some f)
  (hx : ev rs x = some (.slice base len cap)) (hs : SlIs u eT e base len cap olds) (hy : ev rs y = some v2)
  (hT : B.ty T = some d) (hd : d.desc = .slice eT) (hT2 : B.ty T2 = some d2) (hd2 : isRow d2.desc = true) (hz : ElemIs B eT u bytes z) (hzl : z.length = u.size) (hu0 : 0 < u.size)
  (he : nth m i = some e) (hk : lenV v2 = some k) (hnl : news.length = k * u.size)
  (hsrc : ∀ w, Has w m → Keep E.w0 w E.ws → (Builtin.firstCells u.size k v2).run B.P w = .ok news.toArray w) (h1 : ∀ v ∈ news, v.oneCell' = true)
  (h63 : len + k ≤ 9223372036854775807) (hby : (len + k) * bytes ≤ 140737488355328) (hn : needsOf codes (cIx c) = cNd c)
  (hsub : ∀ e', SubMem (repl m i e') mS)
  (h : ∀ base' cap' e', SlIs u eT e' base' (len + k) cap' (olds ++ news) → WPd B E n all mS codes left ((f, .slice base' (len + k) cap') :: rs) (repl m i e') K) :
  WPd B E n all mS codes (c :: left) rs m K := by
 obtain ⟨g1, g2, g3⟩ := chk_ok hc
 refine d_only ho hk2 g1 (by rw [g2]; exact g3) (eff_append hx hs hy hT hd hT2 hd2 hz hzl hu0 he hk hnl hsrc h1 h63 hby) ?_ hn
 rintro v m' ⟨base', cap', e', rfl, hs', rfl⟩
 rw [g2]
 exact ⟨fun _ => hsub e', h base' cap' e' hs'⟩
end d
end s
end Go.Vc
