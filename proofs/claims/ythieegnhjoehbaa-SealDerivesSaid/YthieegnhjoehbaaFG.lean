/- The law FrameBack, walked. -/
import Derived.Test.YthieegnhjoehbaaFE
namespace Go.Proofs.Ythieegnhjoehbaa
open Go.RowKit Go.Vc
set_option linter.unusedVariables false
end Go.Proofs.Ythieegnhjoehbaa
/- The law FrameCuts, walked. -/
namespace Go.Proofs.Ythieegnhjoehbaa
open Go.RowKit Go.Vc
set_option linter.unusedVariables false
theorem fb_inj {f g : Fr} {r s : List Int} (hf : fok f = true) (hg : fok g = true) (h : fbytes f ++ r = fbytes g ++ s) : f = g ∧ r = s := by
 have h1 := read_write f hf r
 have h2 := read_write g hg s
 rw [h] at h1
 exact ⟨h1.1.symm.trans h2.1, by have := h1.2.symm.trans h2.2; exact congrArg Prod.fst this⟩
theorem fb_prefix : ∀ {fs l : List Fr} {r : List Int}, (∀ f ∈ fs, fok f = true) → (∀ f ∈ l, fok f = true) → l.flatMap fbytes = fs.flatMap fbytes ++ r → ∃ l', l = fs ++ l' ∧ l'.flatMap fbytes = r
 | [], l, r, _, _, h => ⟨l, rfl, by simpa using h⟩
 | f :: fs, [], r, hf, _, h => by
  have := fbytes_ne f (hf f (.head _)) (fs.flatMap fbytes ++ r)
  rw [List.flatMap_cons, List.append_assoc] at h
  rw [← h] at this
  exact absurd rfl this
 | f :: fs, g :: l, r, hf, hl, h => by
  rw [List.flatMap_cons, List.flatMap_cons, List.append_assoc] at h
  obtain ⟨rfl, h2⟩ := fb_inj (hl g (.head _)) (hf f (.head _)) h
  obtain ⟨l', rfl, h3⟩ := fb_prefix (fun x hx => hf x (.tail _ hx)) (fun x hx => hl x (.tail _ hx)) h2
  exact ⟨l', rfl, h3⟩
theorem wBs_nil {l : List Fr} (h : wrOk l = true) (h0 : wBs l = []) : l = [] := by
 rw [wBs_ok h] at h0
 cases l with
 | nil => rfl
 | cons f l =>
  have := fbytes_ne f ((wrOk_in h).2 f (.head _)) (l.flatMap fbytes)
  rw [List.flatMap_cons] at h0
  rw [h0] at this
  exact absurd rfl this
/-- Bytes that are cut are fewer frames'. -/
theorem cut_less {l fs : List Fr} {k : Nat} (hl : wrOk l = true) (hb : Bytes (wBs l)) (hk : k < (wBs l).length) (h : rdAll ((wBs l).take k) = some fs) : wBs fs = (wBs l).take k ∧ fs.length < l.length ∧ wrOk fs = true := by
 obtain ⟨h1, h2, h3⟩ := rdAll_read (fun x hx => hb x (List.mem_of_mem_take hx)) h
 have h4 : l.flatMap fbytes = fs.flatMap fbytes ++ (wBs l).drop k := by
  rw [← h1, List.take_append_drop, wBs_ok hl]
 obtain ⟨l', rfl, h5⟩ := fb_prefix (wrOk_in h2).2 (wrOk_in hl).2 h4
 refine ⟨by rw [wBs_ok h2, h1], ?_, h2⟩
 cases l' with
 | nil =>
  simp only [List.append_nil] at *
  have := congrArg List.length h5
  rw [List.length_drop] at this
  simp at this
  omega
 | cons x l' => rw [List.length_append, List.length_cons]; omega
end Go.Proofs.Ythieegnhjoehbaa
/- The law FrameAsks, walked. -/
namespace Go.Proofs.Ythieegnhjoehbaa
open Go.RowKit Go.Vc
set_option linter.unusedVariables false
def JoR (ns : List Int) (u : Value) (C : Addr → Value → Prop) : Prop := ∃ v, u = .tuple #[v, .int .i64 (if joinOk ns = true then 0 else 10)] ∧ SlC C 1 v (if joinOk ns = true then ns.flatMap vb else []).length (row (if joinOk ns = true then ns.flatMap vb else []))
theorem join_P (ns : List Int) (v : Value) (w : World) {Z : Nat → Prop} (hZ : ∀ b, w.heap.size ≤ b → Z b) (hv : SlC (At w) 1 v ns.length (ints .i64 ns)) (hn : ns.length ≤ 100000) : GivesP tb 44 [v] w Z (JoR ns) := by
 refine givesP_of_makes (join_any ns v w hv hn) hZ ?_ ?_
 ·rintro u C C' hC ⟨v, rfl, hs⟩
  exact ⟨v, rfl, hs.mono hC⟩
 ·rintro u m' C ⟨base, len, cap, e, rfl, rfl, hs⟩ hC
  obtain rfl := sl_len8 hs
  exact ⟨_, rfl, slis_cz hs (hC e (.head _))⟩
def padN (n : Int) : Fr := ⟨0, n, 0, [], []⟩
def asks0 (k : Int) : Bool := k == 1 || (k == 3 || (k == 4 || k == 5))
theorem asks_eq (f : Fr) : asks f = (fok f && asks0 f.kind) := by
 cases h : fok f with
 | false => unfold asks; rw [h]; rfl
 | true =>
  unfold asks asks0
  rw [h, Bool.true_and, Bool.true_and]
  have := fok_in h
  obtain ⟨h1, h2, -⟩ := this
  have : f.kind = 0 ∨ f.kind = 1 ∨ f.kind = 2 ∨ f.kind = 3 ∨ f.kind = 4 ∨ f.kind = 5 ∨ f.kind = 6 ∨ f.kind = 7 := by omega
  rcases this with h | h | h | h | h | h | h | h <;> rw [h] <;> decide
theorem wrPad (n : Int) : wrOk [padN n] = (decide (1 ≤ n) && decide (n ≤ 2048)) := by
 have h := fok0 (f := padN n) rfl
 unfold wrOk
 rw [show decide ([padN n].length ≤ 16) = true from rfl, Bool.true_and, List.all_cons, List.all_nil, Bool.and_true]
 rw [Bool.eq_iff_iff, h]
 simp [padN]
theorem padNums (n : Int) : fnums (padN n) = [0, n] := rfl
theorem padBytes (n : Int) : fbytes (padN n) = ([0, n] : List Int).flatMap vb ++ zeros n.toNat := by
 unfold fbytes
 rw [padNums]
 simp [padN]
theorem joinTwo {n : Int} (h0 : 0 ≤ n) (h1 : n < 65536) : joinOk [0, n] = true := by
 unfold joinOk
 have h2 := vsize_ne (n := n) h0 (by omega)
 simp [h2]
 decide
theorem opens_pad (n : Int) : FrX.Ok ⟨padN n, none, 0, none, 0, hole, hole⟩ := ⟨sl_nil _ _ (by decide), sl_nil _ _ (by decide)⟩
end Go.Proofs.Ythieegnhjoehbaa
/- The document's bytes of frames: walked. -/
namespace Go.Proofs.Ythieegnhjoehbaa
open Go.RowKit Go.Vc
set_option linter.unusedVariables false
/-! bytes appended: what lies there and nobody writes, onto a slice of one's own -/
section
variable {E : Env} {n : Nat} {all rest : List Oper} {rs : Rs} {m : Mem} {K : Act → World → Prop} {dst : Option Tmp} {ty : TypeId} {pos : String} {aft : Array Edge} {gd : Option (Nat × Bool)}
theorem slc_len {C : Addr → Value → Prop} {sz k : Nat} {v : Value} {xs : List Value} (h : SlC C sz v k xs) : xs.length = k * sz := by
 obtain ⟨_, _, _, _, h, _⟩ := h
 exact h
theorem step_app8 {x y : Operand} {base : Option Addr} {len cap f : Nat} {L l : List Int} {e : Ent} {v2 : Value} (i : Nat)
  (hc : chk all n rs ⟨dst, .call ⟨.builtin .append, #[x, y], #[22, 22]⟩, ty, pos, aft, gd⟩ = some f)
  (hx : ev rs x = some (.slice base len cap)) (hs : SlIs ty5 5 e base len cap (row L)) (hy : ev rs y = some v2) (hb : SlC (Cel E) 1 v2 l.length (row l)) (he : nth m i = some e) (hsz : len + l.length ≤ 1000000000)
  (h : ∀ base' cap' e', SlIs ty5 5 e' base' (len + l.length) cap' (row (L ++ l)) → WPl tb E n all rest ((f, .slice base' (len + l.length) cap') :: rs) (repl m i e') K) :
  WPl tb E n all (⟨dst, .call ⟨.builtin .append, #[x, y], #[22, 22]⟩, ty, pos, aft, gd⟩ :: rest) rs m K := by
 have hln := slc_len hb
 have hsrc := src_slc (B := tb) (m := m) (slc_now hb)
 obtain ⟨b2, c2, rfl, _⟩ := hb
 refine step_append i hc hx hs hy rfl rfl rfl rfl elem5 rfl (by decide) he rfl hln hsrc (row_one _) (by omega) (by omega) (fun base' cap' e' hs' => ?_)
 rw [row_app] at hs'
 exact h base' cap' e' hs'
theorem d_app8 {mS : Mem} {codes left : List Nat} {c : Nat} {x y : Operand} {base : Option Addr} {len cap f : Nat} {L l : List Int} {e : Ent} {v2 : Value} (i : Nat)
  (ho : opOf all c = some ⟨dst, .call ⟨.builtin .append, #[x, y], #[22, 22]⟩, ty, pos, aft, gd⟩) (hk2 : cKd c = 2)
  (hc : chk all n rs ⟨dst, .call ⟨.builtin .append, #[x, y], #[22, 22]⟩, ty, pos, aft, gd⟩ = some f)
  (hx : ev rs x = some (.slice base len cap)) (hs : SlIs ty5 5 e base len cap (row L)) (hy : ev rs y = some v2) (hb : SlC (Cel E) 1 v2 l.length (row l)) (he : nth m i = some e) (hsz : len + l.length ≤ 1000000000)
  (hn : needsOf codes (cIx c) = cNd c) (hsub : ∀ e', SubMem (repl m i e') mS)
  (h : ∀ base' cap' e', SlIs ty5 5 e' base' (len + l.length) cap' (row (L ++ l)) → WPd tb E n all mS codes left ((f, .slice base' (len + l.length) cap') :: rs) (repl m i e') K) :
  WPd tb E n all mS codes (c :: left) rs m K := by
 have hln := slc_len hb
 have hsrc := src_slc (B := tb) (m := m) (slc_now hb)
 obtain ⟨b2, c2, rfl, _⟩ := hb
 refine d_append2 i ho hk2 hc hx hs hy rfl rfl rfl rfl elem5 rfl (by decide) he rfl hln hsrc (row_one _) (by omega) (by omega) hn hsub (fun base' cap' e' hs' => ?_)
 rw [row_app] at hs'
 exact h base' cap' e' hs'
end
def ByR (l : List Int) (u : Value) (C : Addr → Value → Prop) : Prop := SlC C 1 u l.length (row l)
theorem byR_mono (l : List Int) : ∀ v (C C' : Addr → Value → Prop), (∀ p x, C p x → C' p x) → ByR l v C → ByR l v C' := fun _ _ _ hC h => SlC.mono h hC
theorem rnum_P (k : Int) (w : World) {Z : Nat → Prop} (hZ : ∀ b, w.heap.size ≤ b → Z b) : GivesP tb 47 [.int .i64 k] w Z (ByR (vb k)) := by
 refine givesP_of_makes (rbytes_any k w) hZ (byR_mono _) ?_
 rintro u m' C ⟨base, cap, e, rfl, rfl, hs⟩ hC
 show SlC C 1 _ (vb k).length _
 rw [vb_len]
 exact slis_cz hs (hC e (.head _))
theorem vb_le (k : Int) : (vb k).length ≤ 8 := by
 rw [vb_len]
 rcases vsize_cases k with h | h | h | h | h <;> omega
/-! a frame's bytes, as the document orders them -/
def fb1 (f : Fr) : List Int := vb f.kind ++ (if f.kind = 1 then [] else vb f.a)
def fb2 (f : Fr) : List Int := if f.kind = 0 then zeros f.a.toNat else if f.kind = 2 then vb (f.rs.length : Int) ++ (nuR f.rs).flatMap vb else if f.kind = 3 ∨ f.kind = 5 then vb f.b else []
def fb3 (f : Fr) : List Int := if f.kind = 3 ∨ f.kind = 4 then vb (f.data.length : Int) ++ f.data else []
theorem fb_eq {f : Fr} (h : fok f = true) : fbytes f = fb1 f ++ fb2 f ++ fb3 f := by
 have hp := fb_parts f []
 rw [List.append_nil] at hp
 rw [hp]
 obtain ⟨h1, h2, h3, h4⟩ := fok_want h
 obtain ⟨k0, k7, -⟩ := fok_in h
 unfold fb1 fb2 fb3 pad
 have hk : f.kind = 0 ∨ f.kind = 1 ∨ f.kind = 2 ∨ f.kind = 3 ∨ f.kind = 4 ∨ f.kind = 5 ∨ f.kind = 6 ∨ f.kind = 7 := by omega
 rcases hk with hk | hk | hk | hk | hk | hk | hk | hk <;> rw [hk] at h1 h2 h3 h4 ⊢ <;> simp [wantB, wantR, wantD, nuR] at h1 h2 h3 h4 ⊢ <;> simp_all
set_option maxHeartbeats 8000000 in
theorem rfbytes_P (f : Fr) (cs : List Value) (w : World) {Z : Nat → Prop} (hZ : ∀ b, w.heap.size ≤ b → Z b) (hf : FrC (At w) f cs) (hk : fok f = true) : GivesP tb 52 [.agg cs.toArray] w Z (ByR (fbytes f)) := by
 obtain ⟨k0, k7, ha0, ha1, hb0, hb1, hr16, hd2, hp0, hrs⟩ := fok_in hk
 rw [fb_eq hk]
 have e1 : fb1 f = vb f.kind ++ (if f.kind = 1 then [] else vb f.a) := rfl
 have e2 : fb2 f = if f.kind = 0 then zeros f.a.toNat else if f.kind = 2 then vb (f.rs.length : Int) ++ (nuR f.rs).flatMap vb else if f.kind = 3 ∨ f.kind = 5 then vb f.b else [] := rfl
 have e3 : fb3 f = if f.kind = 3 ∨ f.kind = 4 then vb (f.data.length : Int) ++ f.data else [] := rfl
 obtain ⟨ka, hka⟩ : ∃ ka : Nat, f.a = ka := ⟨f.a.toNat, by omega⟩
 have l1 : (fb1 f).length ≤ 16 := by
  rw [e1, List.length_append]
  have := vb_le f.kind
  split
  ·simp; omega
  ·have := vb_le f.a
   omega
 have hnf := flat_le (nuR f.rs)
 rw [nuR_len] at hnf
 have l2 : (fb2 f).length ≤ 3000 := by
  rw [e2]
  split
  ·rw [zeros_len]
   have := hp0 (by assumption)
   omega
  ·split
   ·have := vb_le (f.rs.length : Int)
    rw [List.length_append]
    omega
   ·split
    ·have := vb_le f.b; omega
    ·simp
 have hf : FrC (Cel ⟨w, [], []⟩) f cs := hf.mono fun p x h => ⟨h, by simp⟩
 obtain ⟨rv, dv, rfl, hr0, hd0⟩ := id hf
 obtain ⟨rb, rc, rfl, -⟩ := id hr0
 obtain ⟨db, dc, rfl, -⟩ := id hd0
 clear hf
 refine givesP_of (fn := Try.f52) Try.func52 rfl Try.ntmps52 rfl hZ (byR_mono _) (fun on => ?_)
 repeat refine s_seqs ?_
 refine s_reg ?_
 refine step_box_agg rfl rfl (fun b1 => ?_)
 refine qa rfl rfl ?_
 refine Vc.step_end (fun a w ok => ?_)
 (refine WPs.run ?_ a w ok; clear ok w a)
 repeat refine s_seqs ?_
 refine s_reg ?_
 refine step_pure rfl (pure_fieldAddr rfl rfl rfl rfl rfl (by decide)) ?_
 refine step_pure rfl (pure_load (i := 0) rfl rfl rfl rfl rfl rfl) ?_
 refine step_makes rfl fun47 rfl (fun w' hh kp => rbytes_any f.kind w') ?_
 rintro u m' ⟨base3, cap3, e3', rfl, rfl, hs3⟩
 refine qa rfl rfl ?_
 refine Vc.step_end (fun a w ok => ?_)
 (refine WPs.run ?_ a w ok; clear ok w a)
 repeat refine s_seqs ?_
 refine s_reg ?_
 refine step_pure rfl (pure_fieldAddr rfl rfl rfl rfl rfl (by decide)) ?_
 refine step_pure rfl (pure_load (i := 1) rfl rfl rfl rfl rfl rfl) ?_
 refine step_pure rfl (pure_neq rfl rfl) ?_
 refine Vc.step_end (fun a w ok => ?_)
 (refine WPs.run ?_ a w ok; clear ok w a)
 repeat refine s_seqs ?_
 refine s_meetP (α := SlS) (fun z => [(1, .pointer (some ⟨b1, 0, none⟩)), (3, .slice z.base z.len z.cap)]) (fun z => [z.e, ⟨b1, [.int .i64 f.kind, .int .i64 f.a, .int .i64 f.b, .slice rb f.rs.length rc, .slice db f.data.length dc], 59⟩])
  (fun z _ => SlIs ty5 5 z.e z.base z.len z.cap (row (fb1 f))) ?_ ?_
 ·have h8 := vb_len f.kind
  have h88 := vb_le f.kind
  have h9 := vb_le f.a
  repeat refine s_seqs ?_
  refine s_cond rfl (fun h => ?_) (fun h => ?_)
  ·rw [if_neg (show ¬ f.kind = 1 by simpa using h)] at e1
   rw [e1]
   repeat refine s_seqs ?_
   refine s_reg ?_
   refine qm rfl rfl ?_
   refine step_pure rfl (pure_fieldAddr rfl rfl rfl rfl rfl (by decide)) ?_
   refine step_pure rfl (pure_load (i := 1) rfl rfl rfl rfl rfl rfl) ?_
   refine step_givesP on.sc rfl fun47 rfl (fun w' Z' hh kp hZ hC => rnum_P f.a w' hZ) ?_
   rintro u E1 g hu
   refine step_app8 0 rfl rfl hs3 rfl (hu.mono Cz.cel) rfl (by omega) (fun base4 cap4 e4 hs4 => ?_)
   refine qa rfl rfl ?_
   refine Vc.step_end (fun a w ok => ?_)
   refine ⟨⟨base4, _, cap4, e4⟩, E1, hs4, g, Less.ok ?_ ok⟩
   exact less_of ⟨rfl, rfl, trivial⟩ rfl
  ·rw [if_pos (show f.kind = 1 by simpa using h), List.append_nil] at e1
   rw [e1]
   refine s_skip fun a w ok => ⟨⟨base3, _, cap3, e3'⟩, _, hs3, Gt.refl _, Less.ok ?_ ok⟩
   exact less_of ⟨rfl, rfl, trivial⟩ rfl
 rintro ⟨base, len, cap, e⟩ E1 hs g a w ok
 dsimp only at hs
 refine WPs.run ?_ a w ok
 clear ok w a hs3
 dsimp only
 obtain rfl := sl_len8 hs
 replace on := on.next g
 replace hr0 := hr0.mono g.mono
 replace hd0 := hd0.mono g.mono
 clear g
 repeat refine s_seqs ?_
 refine s_reg ?_
 refine step_pure rfl (pure_fieldAddr rfl rfl rfl rfl rfl (by decide)) ?_
 refine step_pure rfl (pure_load (i := 1) rfl rfl rfl rfl rfl rfl) ?_
 refine Vc.step_end (fun a w ok => ?_)
 (refine WPs.run ?_ a w ok; clear ok w a)
 repeat refine s_seqs ?_
 refine s_meetP (α := SlS) (fun z => [(1, .pointer (some ⟨b1, 0, none⟩)), (3, .slice z.base z.len z.cap)]) (fun z => [z.e, ⟨b1, [.int .i64 f.kind, .int .i64 f.a, .int .i64 f.b, .slice rb f.rs.length rc, .slice db f.data.length dc], 59⟩])
  (fun z _ => SlIs ty5 5 z.e z.base z.len z.cap (row (fb1 f ++ fb2 f))) ?_ ?_
 ·repeat refine s_seqs ?_
  refine s_block ?_
  have hkk : f.kind = 0 ∨ f.kind = 2 ∨ f.kind = 3 ∨ f.kind = 5 ∨ (f.kind ≠ 0 ∧ f.kind ≠ 2 ∧ f.kind ≠ 3 ∧ f.kind ≠ 5) := by omega
  clear l2
  rcases hkk with h0 | h2 | h3 | h5 | ⟨n0, n2, n3, n5⟩
  ·have hpp := hp0 h0
   rw [if_pos h0] at e2
   rw [e2]
   repeat refine s_seqs ?_
   refine s_reg ?_
   refine step_pure rfl (pure_eql rfl rfl) ?_
   refine qa rfl rfl ?_
   refine Vc.step_end (fun a w ok => ?_)
   (refine WPs.run ?_ a w ok; clear ok w a)
   repeat refine s_seqs ?_
   refine s_cond_yes rfl (by rw [h0]; rfl) ?_
   repeat refine s_seqs ?_
   refine s_reg ?_
   refine qm rfl rfl ?_
   refine step_pure rfl (pure_fieldAddr rfl rfl rfl rfl rfl (by decide)) ?_
   refine step_as rfl (pure_load (i := 1) rfl rfl rfl rfl rfl rfl) (show _ = Value.int .i64 (ka : Int) from by rw [hka]) ?_
   refine step_append_z 0 rfl rfl hs rfl rfl rfl rfl rfl elem5 rfl (by decide) rfl (by omega) (by simp [Value.oneCell']) (by omega) (by omega) (fun base4 cap4 e4 hs4 => ?_)
   refine qa rfl rfl ?_
   refine Vc.step_end (fun a w ok => ?_)
   refine ⟨⟨base4, (fb1 f).length + ka, cap4, e4⟩, E1, ?_, Gt.refl _, Less.ok ?_ ok⟩
   ·rw [zrow_u8, row_app] at hs4
    rw [hka]
    exact hs4
   exact less_of ⟨rfl, rfl, trivial⟩ rfl
  ·rw [if_neg (by omega), if_pos h2] at e2
   rw [e2]
   repeat refine s_seqs ?_
   refine s_reg ?_
   refine step_pure rfl (pure_eql rfl rfl) ?_
   refine qa rfl rfl ?_
   refine Vc.step_end (fun a w ok => ?_)
   (refine WPs.run ?_ a w ok; clear ok w a)
   repeat refine s_seqs ?_
   refine s_cond_no rfl (by rw [h2]; rfl) ?_
   repeat refine s_seqs ?_
   refine s_reg ?_
   refine step_pure rfl (pure_eql rfl rfl) ?_
   refine qa rfl rfl ?_
   refine Vc.step_end (fun a w ok => ?_)
   (refine WPs.run ?_ a w ok; clear ok w a)
   repeat refine s_seqs ?_
   refine s_cond_yes rfl (by rw [h2]; rfl) ?_
   have h9 := vb_le (f.rs.length : Int)
   repeat refine s_seqs ?_
   refine s_reg ?_
   refine qm rfl rfl ?_
   refine step_pure rfl (pure_fieldAddr rfl rfl rfl rfl rfl (by decide)) ?_
   refine step_pure rfl (pure_load (i := 1) rfl rfl rfl rfl rfl rfl) ?_
   refine step_pure rfl (pure_len_slice rfl rfl rfl) ?_
   refine step_givesP on.sc rfl fun47 rfl (fun w' Z' hh kp hZ hC => rnum_P (f.rs.length : Int) w' hZ) ?_
   rintro u E2 g hu
   refine step_app8 0 rfl rfl hs rfl (hu.mono Cz.cel) rfl (by omega) (fun base4 cap4 e4 hs4 => ?_)
   refine qa rfl rfl ?_
   refine Vc.step_end (fun a w ok => ?_)
   (refine WPs.run ?_ a w ok; clear ok w a)
   repeat refine s_seqs ?_
   refine s_reg ?_
   refine qa rfl rfl ?_
   refine Vc.step_end (fun a w ok => ?_)
   (refine WPs.run ?_ a w ok; clear ok w a)
   repeat refine s_seqs ?_
   refine s_block ?_
   repeat refine s_seqs ?_
   refine s_loopP (α := Nat × SlS) (fun z => [(1, .pointer (some ⟨b1, 0, none⟩)), (3, .slice z.2.base z.2.len z.2.cap), (4, .int .i64 z.1)]) (fun z => [z.2.e, ⟨b1, [.int .i64 f.kind, .int .i64 f.a, .int .i64 f.b, .slice rb f.rs.length rc, .slice db f.data.length dc], 59⟩])
    (fun z _ => z.1 ≤ f.rs.length ∧ SlIs ty5 5 z.2.e z.2.base z.2.len z.2.cap (row (fb1 f ++ vb (f.rs.length : Int) ++ (nuR (f.rs.take z.1)).flatMap vb))) (fun z => f.rs.length - z.1) (0, ⟨base4, _, cap4, e4⟩)
    ⟨Nat.zero_le _, by dsimp only; rw [List.take_zero, show (nuR []).flatMap vb = [] from rfl, List.append_nil]; exact hs4⟩ (less_of ⟨rfl, rfl, rfl, trivial⟩ rfl) ?_
   rintro ⟨i, base5, len5, cap5, e5⟩ E3 ⟨hi, hs5⟩ g3
   dsimp only at hi hs5 ⊢
   obtain rfl := sl_len8 hs5
   have g13 := g.trans g3
   replace on := on.next g13
   have hr3 := hr0.mono g13.mono
   clear hu hs4
   repeat refine s_seqs ?_
   refine s_reg ?_
   refine qm rfl rfl ?_
   refine step_pure rfl (pure_fieldAddr rfl rfl rfl rfl rfl (by decide)) ?_
   refine step_pure rfl (pure_load (i := 1) rfl rfl rfl rfl rfl rfl) ?_
   refine step_pure rfl (pure_len_slice rfl rfl rfl) ?_
   refine step_pure rfl (pure_lss rfl rfl) ?_
   refine Vc.step_end (fun a w ok => ?_)
   (refine WPs.run ?_ a w ok; clear ok w a)
   repeat refine s_seqs ?_
   refine s_cond rfl (fun h => ?_) (fun h => ?_)
   ·have hlt : i < f.rs.length := by have := of_decide_eq_true h; omega
    clear h
    refine s_skip fun a w ok => WPs.run ?_ a w ok
    clear ok w a
    repeat refine s_seqs ?_
    refine s_block ?_
    have hrc := rgCells_at f.rs i hlt
    have hsn := nuR_snoc f.rs i hlt
    obtain ⟨p, cp, hq, hp⟩ := hr3.at (by decide) hlt
    cases hq
    have c1 := hp 0 _ hrc.1
    have c2 := hp 1 _ hrc.2
    have hnt := flat_le (nuR (f.rs.take i))
    rw [nuR_len, List.length_take] at hnt
    have v1 := vb_le (f.rs.getD i (0, 0)).1
    have v2 := vb_le (f.rs.getD i (0, 0)).2
    have hl5 : (fb1 f ++ vb (f.rs.length : Int) ++ (nuR (f.rs.take i)).flatMap vb).length ≤ 400 := by
     rw [List.length_append, List.length_append]
     omega
    generalize (f.rs.getD i (0, 0)).1 = lo at *
    generalize (f.rs.getD i (0, 0)).2 = hi2 at *
    repeat refine s_seqs ?_
    refine s_dreg [1, 9, 19, 25, 33, 41, 51, 73, 83, 89, 97, 105, 115, 61, 69, 125, 133, 137] ([⟨b1, [.int .i64 f.kind, .int .i64 f.a, .int .i64 f.b, .slice (some p) f.rs.length rc, .slice db f.data.length dc], 59⟩]) follows (by kernel_rfl) ?_
    refine qd rfl rfl rfl rfl ?_
    refine d_pure0 rfl rfl rfl (pure_fieldAddr rfl rfl rfl rfl rfl (by decide)) ?_
    refine d_pure1 rfl rfl rfl (pure_load (i := 0) rfl rfl rfl rfl rfl rfl) (by exact (SubMem.refl _).cons) ?_
    refine qd rfl rfl rfl rfl ?_
    refine d_as0 rfl rfl rfl (pure_indexAddr_at rfl rfl rfl rfl rfl (by omega) (by omega)) (show _ = Value.pointer (some (p.add (i * 2))) from by show Value.pointer (some (p.add ((i : Int).toNat * 2))) = _; rw [Int.toNat_natCast]) ?_
    refine d_pure0 rfl rfl rfl (pure_fieldAddr_at rfl rfl rfl rfl rfl (by decide)) ?_
    refine d_pure1 rfl rfl rfl (pure_cel rfl rfl rfl c1) (by exact (SubMem.refl _).cons) ?_
    refine d_pure0 rfl rfl rfl (pure_fieldAddr rfl rfl rfl rfl rfl (by decide)) ?_
    refine d_pure1 rfl rfl rfl (pure_load (i := 0) rfl rfl rfl rfl rfl rfl) (by exact (SubMem.refl _).cons) ?_
    refine qd rfl rfl rfl rfl ?_
    refine d_as0 rfl rfl rfl (pure_indexAddr_at rfl rfl rfl rfl rfl (by omega) (by omega)) (show _ = Value.pointer (some (p.add (i * 2))) from by show Value.pointer (some (p.add ((i : Int).toNat * 2))) = _; rw [Int.toNat_natCast]) ?_
    refine d_pure0 rfl rfl rfl (pure_fieldAddr_at rfl rfl rfl rfl rfl (by decide)) ?_
    refine d_pure1 rfl rfl rfl (pure_cel rfl rfl rfl c2) (by exact (SubMem.refl _).cons) ?_
    refine d_givesP on.sc rfl rfl rfl fun47 rfl (fun w' Z' hh kp hZ hC => rnum_P lo w' hZ) rfl ?_
    rintro u E4 g4 hu
    refine d_app8 0 rfl rfl rfl rfl hs5 rfl (hu.mono Cz.cel) rfl (by omega) rfl (fun _ => (by exact (SubMem.refl _).cons)) (fun base6 cap6 e6 hs6 => ?_)
    refine d_givesP (on.next g4).sc rfl rfl rfl fun47 rfl (fun w' Z' hh kp hZ hC => rnum_P hi2 w' hZ) rfl ?_
    rintro u E5 g5 hu
    refine d_app8 0 rfl rfl rfl rfl hs6 rfl (hu.mono Cz.cel) rfl (by omega) rfl (fun _ => (by exact (SubMem.refl _).cons)) (fun base7 cap7 e7 hs7 => ?_)
    refine d_pure0 rfl rfl rfl (pure_assign rfl) ?_
    refine d_end (fun a w ok => ?_)
    (refine WPs.run ?_ a w ok; clear ok w a)
    repeat refine s_seqs ?_
    refine s_reg ?_
    refine qm rfl rfl ?_
    refine step_pure rfl (pure_add64 rfl rfl (by omega) (by omega)) ?_
    refine qa rfl rfl ?_
    refine Vc.step_end (fun a w ok => ?_)
    refine ⟨(i + 1, ⟨base7, (fb1 f ++ vb (f.rs.length : Int) ++ (nuR (f.rs.take i)).flatMap vb).length + (vb lo).length + (vb hi2).length, cap7, e7⟩), E5, ⟨hlt, ?_⟩, by dsimp only; omega, g4.trans g5, Less.ok ?_ ok⟩
    ·dsimp only
     rw [hsn, List.flatMap_append]
     simpa [List.append_assoc] using hs7
    exact less_of ⟨rfl, rfl, rfl, trivial⟩ rfl
   ·have hie : i = f.rs.length := by have := of_decide_eq_false h; omega
    subst hie
    rw [List.take_length] at hs5 ⊢
    refine s_exit fun a w ok => ⟨⟨base5, (fb1 f ++ vb (f.rs.length : Int) ++ (nuR f.rs).flatMap vb).length, cap5, e5⟩, E3, ?_, g13, Less.ok ?_ ok⟩
    ·dsimp only
     rw [← List.append_assoc]
     exact hs5
    ·exact less_of ⟨rfl, rfl, trivial⟩ rfl
  ·rw [if_neg (by omega), if_neg (by omega), if_pos (.inl h3)] at e2
   rw [e2]
   have h9 := vb_le f.b
   repeat refine s_seqs ?_
   refine s_reg ?_
   refine step_pure rfl (pure_eql rfl rfl) ?_
   refine qa rfl rfl ?_
   refine Vc.step_end (fun a w ok => ?_)
   (refine WPs.run ?_ a w ok; clear ok w a)
   repeat refine s_seqs ?_
   refine s_cond_no rfl (by rw [h3]; rfl) ?_
   repeat refine s_seqs ?_
   refine s_reg ?_
   refine step_pure rfl (pure_eql rfl rfl) ?_
   refine qa rfl rfl ?_
   refine Vc.step_end (fun a w ok => ?_)
   (refine WPs.run ?_ a w ok; clear ok w a)
   repeat refine s_seqs ?_
   refine s_cond_no rfl (by rw [h3]; rfl) ?_
   repeat refine s_seqs ?_
   refine s_reg ?_
   refine step_pure rfl (pure_eql rfl rfl) ?_
   refine qa rfl rfl ?_
   refine Vc.step_end (fun a w ok => ?_)
   (refine WPs.run ?_ a w ok; clear ok w a)
   repeat refine s_seqs ?_
   refine s_cond_yes rfl (by rw [h3]; rfl) ?_
   refine s_skip fun a w ok => WPs.run ?_ a w ok
   clear ok w a
   repeat refine s_seqs ?_
   refine s_cond_yes rfl (by rw [h3]; rfl) ?_
   repeat refine s_seqs ?_
   refine s_reg ?_
   refine qm rfl rfl ?_
   refine step_pure rfl (pure_fieldAddr rfl rfl rfl rfl rfl (by decide)) ?_
   refine step_pure rfl (pure_load (i := 1) rfl rfl rfl rfl rfl rfl) ?_
   refine step_givesP on.sc rfl fun47 rfl (fun w' Z' hh kp hZ hC => rnum_P f.b w' hZ) ?_
   rintro u E2 g hu
   refine step_app8 0 rfl rfl hs rfl (hu.mono Cz.cel) rfl (by omega) (fun base4 cap4 e4 hs4 => ?_)
   refine qa rfl rfl ?_
   refine Vc.step_end (fun a w ok => ?_)
   refine ⟨⟨base4, _, cap4, e4⟩, E2, hs4, g, Less.ok ?_ ok⟩
   exact less_of ⟨rfl, rfl, trivial⟩ rfl
  ·rw [if_neg (by omega), if_neg (by omega), if_pos (.inr h5)] at e2
   rw [e2]
   have h9 := vb_le f.b
   repeat refine s_seqs ?_
   refine s_reg ?_
   refine step_pure rfl (pure_eql rfl rfl) ?_
   refine qa rfl rfl ?_
   refine Vc.step_end (fun a w ok => ?_)
   (refine WPs.run ?_ a w ok; clear ok w a)
   repeat refine s_seqs ?_
   refine s_cond_no rfl (by rw [h5]; rfl) ?_
   repeat refine s_seqs ?_
   refine s_reg ?_
   refine step_pure rfl (pure_eql rfl rfl) ?_
   refine qa rfl rfl ?_
   refine Vc.step_end (fun a w ok => ?_)
   (refine WPs.run ?_ a w ok; clear ok w a)
   repeat refine s_seqs ?_
   refine s_cond_no rfl (by rw [h5]; rfl) ?_
   repeat refine s_seqs ?_
   refine s_reg ?_
   refine step_pure rfl (pure_eql rfl rfl) ?_
   refine qa rfl rfl ?_
   refine Vc.step_end (fun a w ok => ?_)
   (refine WPs.run ?_ a w ok; clear ok w a)
   repeat refine s_seqs ?_
   refine s_cond_no rfl (by rw [h5]; rfl) ?_
   repeat refine s_seqs ?_
   refine s_reg ?_
   refine step_pure rfl (pure_eql rfl rfl) ?_
   refine qa rfl rfl ?_
   refine Vc.step_end (fun a w ok => ?_)
   (refine WPs.run ?_ a w ok; clear ok w a)
   repeat refine s_seqs ?_
   refine s_cond_yes rfl (by rw [h5]; rfl) ?_
   repeat refine s_seqs ?_
   refine s_reg ?_
   refine qm rfl rfl ?_
   refine step_pure rfl (pure_fieldAddr rfl rfl rfl rfl rfl (by decide)) ?_
   refine step_pure rfl (pure_load (i := 1) rfl rfl rfl rfl rfl rfl) ?_
   refine step_givesP on.sc rfl fun47 rfl (fun w' Z' hh kp hZ hC => rnum_P f.b w' hZ) ?_
   rintro u E2 g hu
   refine step_app8 0 rfl rfl hs rfl (hu.mono Cz.cel) rfl (by omega) (fun base4 cap4 e4 hs4 => ?_)
   refine qa rfl rfl ?_
   refine Vc.step_end (fun a w ok => ?_)
   refine ⟨⟨base4, _, cap4, e4⟩, E2, hs4, g, Less.ok ?_ ok⟩
   exact less_of ⟨rfl, rfl, trivial⟩ rfl
  ·rw [if_neg n0, if_neg n2, if_neg (by omega)] at e2
   rw [e2]
   repeat refine s_seqs ?_
   refine s_reg ?_
   refine step_pure rfl (pure_eql rfl rfl) ?_
   refine qa rfl rfl ?_
   refine Vc.step_end (fun a w ok => ?_)
   (refine WPs.run ?_ a w ok; clear ok w a)
   repeat refine s_seqs ?_
   refine s_cond_no rfl (by simpa using n0) ?_
   repeat refine s_seqs ?_
   refine s_reg ?_
   refine step_pure rfl (pure_eql rfl rfl) ?_
   refine qa rfl rfl ?_
   refine Vc.step_end (fun a w ok => ?_)
   (refine WPs.run ?_ a w ok; clear ok w a)
   repeat refine s_seqs ?_
   refine s_cond_no rfl (by simpa using n2) ?_
   repeat refine s_seqs ?_
   refine s_reg ?_
   refine step_pure rfl (pure_eql rfl rfl) ?_
   refine qa rfl rfl ?_
   refine Vc.step_end (fun a w ok => ?_)
   (refine WPs.run ?_ a w ok; clear ok w a)
   repeat refine s_seqs ?_
   refine s_cond_no rfl (by simpa using n3) ?_
   repeat refine s_seqs ?_
   refine s_reg ?_
   refine step_pure rfl (pure_eql rfl rfl) ?_
   refine qa rfl rfl ?_
   refine Vc.step_end (fun a w ok => ?_)
   (refine WPs.run ?_ a w ok; clear ok w a)
   repeat refine s_seqs ?_
   refine s_cond_no rfl (by simpa using n5) ?_
   refine s_skip fun a w ok => ⟨⟨base, (fb1 f).length, cap, e⟩, E1, ?_, Gt.refl _, Less.ok ?_ ok⟩
   ·dsimp only
    rw [List.append_nil]
    exact hs
   ·exact less_of ⟨rfl, rfl, trivial⟩ rfl
 rintro ⟨base6, len6, cap6, e6⟩ E2 hs2 g a w ok
 dsimp only at hs2
 refine WPs.run ?_ a w ok
 clear ok w a hs
 dsimp only
 obtain rfl := sl_len8 hs2
 replace on := on.next g
 replace hd0 := hd0.mono g.mono
 clear g e1 e2 hr0
 have l12 : (fb1 f ++ fb2 f).length ≤ 4000 := by rw [List.length_append]; omega
 generalize fb1 f ++ fb2 f = L at *
 repeat refine s_seqs ?_
 refine s_meet [(1, .pointer (some ⟨b1, 0, none⟩)), (3, .slice base6 L.length cap6), (71, .bool (f.kind == 3 || f.kind == 4))] [e6, ⟨b1, [.int .i64 f.kind, .int .i64 f.a, .int .i64 f.b, .slice rb f.rs.length rc, .slice db f.data.length dc], 59⟩] ?_ (fun a w ok => WPs.run ?_ a w ok)
 ·generalize f.kind = k at *
  repeat refine c_seq ?_
  refine c_region ?_
  refine step_pure rfl (pure_fieldAddr rfl rfl rfl rfl rfl (by decide)) ?_
  refine step_pure rfl (pure_load (i := 1) rfl rfl rfl rfl rfl rfl) ?_
  refine step_pure rfl (pure_eql rfl rfl) ?_
  refine qm rfl rfl ?_
  refine step_split (t := 67) rfl (fun h67 => ?_) (fun h67 => ?_)
  ·refine qp rfl rfl rfl ?_
   refine qp rfl rfl rfl ?_
   refine qp rfl rfl rfl ?_
   refine step_pure rfl (pure_pick_yes rfl rfl) ?_
   refine step_nil ?_
   refine less_of ⟨rfl, rfl, ?_, trivial⟩ rfl
   refine congrArg some (congrArg Value.bool ?_)
   rw [Bool.eq_iff_iff]
   simp_all
  ·refine step_pure rfl (pure_fieldAddr rfl rfl rfl rfl rfl (by decide)) ?_
   refine step_pure rfl (pure_load (i := 1) rfl rfl rfl rfl rfl rfl) ?_
   refine step_pure rfl (pure_eql rfl rfl) ?_
   refine step_pure rfl (pure_pick_no rfl rfl) ?_
   refine step_nil ?_
   refine less_of ⟨rfl, rfl, ?_, trivial⟩ rfl
   refine congrArg some (congrArg Value.bool ?_)
   rw [Bool.eq_iff_iff]
   simp_all
 repeat refine s_seqs ?_
 refine s_cond rfl (fun h => ?_) (fun h => ?_)
 ·rw [if_pos (by simpa using h)] at e3
  rw [e3]
  have h9 := vb_le (f.data.length : Int)
  repeat refine s_seqs ?_
  refine s_dreg [1, 9, 19, 25, 49, 59, 37, 45, 69, 73] ([⟨b1, [.int .i64 f.kind, .int .i64 f.a, .int .i64 f.b, .slice rb f.rs.length rc, .slice db f.data.length dc], 59⟩]) follows (by kernel_rfl) ?_
  refine qd rfl rfl rfl rfl ?_
  refine d_pure0 rfl rfl rfl (pure_fieldAddr rfl rfl rfl rfl rfl (by decide)) ?_
  refine d_pure1 rfl rfl rfl (pure_load (i := 0) rfl rfl rfl rfl rfl rfl) (by exact (SubMem.refl _).cons) ?_
  refine d_pure0 rfl rfl rfl (pure_len_slice rfl rfl rfl) ?_
  refine d_pure0 rfl rfl rfl (pure_fieldAddr rfl rfl rfl rfl rfl (by decide)) ?_
  refine d_pure1 rfl rfl rfl (pure_load (i := 0) rfl rfl rfl rfl rfl rfl) (by exact (SubMem.refl _).cons) ?_
  refine d_givesP on.sc rfl rfl rfl fun47 rfl (fun w' Z' hh kp hZ hC => rnum_P (f.data.length : Int) w' hZ) rfl ?_
  rintro u E4 g4 hu
  refine d_app8 0 rfl rfl rfl rfl hs2 rfl (hu.mono Cz.cel) rfl (by omega) rfl (fun _ => (by exact (SubMem.refl _).cons)) (fun base7 cap7 e7 hs7 => ?_)
  refine d_app8 0 rfl rfl rfl rfl hs7 rfl (hd0.mono g4.mono) rfl (by omega) rfl (fun _ => (by exact (SubMem.refl _).cons)) (fun base8 cap8 e8 hs8 => ?_)
  refine d_pure0 rfl rfl rfl (pure_assign rfl) ?_
  refine d_end (fun a w ok => ?_)
  (refine WPs.run ?_ a w ok; clear ok w a)
  repeat refine s_seqs ?_
  refine s_reg ?_
  refine qm rfl rfl ?_
  refine qa rfl rfl ?_
  refine Vc.step_end (fun a w ok => ?_)
  (refine WPs.run ?_ a w ok; clear ok w a)
  refine s_let 0 rfl (fun E5 g5 hc => ?_)
  refine s_ret fun a w ok => ends_givesP ((on.next g4).next g5) (.inr rfl) ok (res_tmp Try.results52 rfl) (byR_mono _) ?_
  have := slis_cz hs8 (hc _ (on.next g4).sc)
  rw [List.append_assoc] at this
  have hl := sl_len8 hs8
  rw [List.append_assoc] at hl
  rw [hl] at this
  rw [hl]
  exact this
 ·rw [if_neg (by simpa using h), ] at e3
  rw [e3, List.append_nil]
  refine s_skip fun a w ok => WPs.run ?_ a w ok
  clear ok w a
  repeat refine s_seqs ?_
  refine s_reg ?_
  refine qm rfl rfl ?_
  refine qa rfl rfl ?_
  refine Vc.step_end (fun a w ok => ?_)
  (refine WPs.run ?_ a w ok; clear ok w a)
  refine s_let 0 rfl (fun E5 g5 hc => ?_)
  refine s_ret fun a w ok => ends_givesP (on.next g5) (.inr rfl) ok (res_tmp Try.results52 rfl) (byR_mono _) ?_
  exact slis_cz hs2 (hc _ on.sc)
end Go.Proofs.Ythieegnhjoehbaa
/- The document's Write; the law FrameTells: walked. -/
namespace Go.Proofs.Ythieegnhjoehbaa
open Go.RowKit Go.Vc
set_option linter.unusedVariables false
theorem wrR_mono (fs : List Fr) : ∀ v (C C' : Addr → Value → Prop), (∀ p x, C p x → C' p x) → WrR fs v C → WrR fs v C' := by
 rintro u C C' hC ⟨v, rfl, hs⟩
 exact ⟨v, rfl, hs.mono hC⟩
theorem slc_nil {C : Addr → Value → Prop} {sz : Nat} : SlC C sz (.slice none 0 0) 0 [] := ⟨none, 0, rfl, Nat.le_refl _, by simp, fun h => absurd rfl h⟩
theorem wrR_no {fs : List Fr} {C : Addr → Value → Prop} (h : wrOk fs = false) : WrR fs (.tuple #[.slice none 0 0, .int .i64 20]) C := by
 refine ⟨_, by rw [if_neg (by rw [h]; decide)], ?_⟩
 rw [wBs_no h]
 exact slc_nil
theorem wrOk_long {fs : List Fr} (h : 16 < fs.length) : wrOk fs = false := by
 unfold wrOk
 rw [decide_eq_false (by omega), Bool.false_and]
theorem wrOk_all {fs : List Fr} (h : fs.length ≤ 16) (hall : ∀ (j : Nat) f, j < fs.length → fs[j]? = some f → fok f = true) : wrOk fs = true := by
 unfold wrOk
 rw [Bool.and_eq_true, List.all_eq_true]
 refine ⟨by simpa using h, fun f hf => ?_⟩
 obtain ⟨i, hi, rfl⟩ := List.getElem_of_mem hf
 exact hall i _ hi (List.getElem?_eq_getElem hi)
set_option maxHeartbeats 4000000 in
theorem rwrite_P (fs : List Fr) (v : Value) (w : World) {Z : Nat → Prop} (hZ : ∀ b, w.heap.size ≤ b → Z b) (hv : FrsC (At w) v fs) (hbig : ∀ f ∈ fs, f.data.length ≤ maxLen) : GivesP tb 31 [v] w Z (WrR fs) := by
 have hv : FrsC (Cel ⟨w, [], []⟩) v fs := hv.mono fun p x h => ⟨h, by simp⟩
 obtain ⟨base1, cap1, rfl, hcap1⟩ := hv.slice
 refine givesP_of (fn := Try.f31) Try.func31 rfl Try.ntmps31 rfl hZ (wrR_mono fs) (fun on => ?_)
 repeat refine s_seqs ?_
 refine s_reg ?_
 refine qa rfl rfl ?_
 refine qa rfl rfl ?_
 refine Vc.step_end (fun a w ok => ?_)
 (refine WPs.run ?_ a w ok; clear ok w a)
 repeat refine s_seqs ?_
 refine s_reg ?_
 refine qm rfl rfl ?_
 refine step_pure rfl (pure_len_slice rfl rfl rfl) ?_
 refine step_pure rfl (pure_gtr rfl rfl) ?_
 refine Vc.step_end (fun a w ok => ?_)
 (refine WPs.run ?_ a w ok; clear ok w a)
 repeat refine s_seqs ?_
 refine s_cond rfl (fun h => ?_) (fun h => ?_)
 ·have hno : wrOk fs = false := wrOk_long (by have := of_decide_eq_true h; omega)
  repeat refine s_seqs ?_
  refine s_reg ?_
  refine qa rfl rfl ?_
  refine qa rfl rfl ?_
  refine Vc.step_end (fun a w ok => ?_)
  (refine WPs.run ?_ a w ok; clear ok w a)
  exact s_ret fun a w ok => ends_givesP on (.inr rfl) ok (res_tmp2 Try.results31 rfl rfl) (wrR_mono fs) (wrR_no hno)
 have h16 : fs.length ≤ 16 := by have := of_decide_eq_false h; omega
 clear h
 refine s_skip fun a w ok => WPs.run ?_ a w ok
 clear ok w a
 repeat refine s_seqs ?_
 refine s_reg ?_
 refine qa rfl rfl ?_
 refine step_hole ?_
 refine Vc.step_end (fun a w ok => ?_)
 (refine WPs.run ?_ a w ok; clear ok w a)
 repeat refine s_seqs ?_
 refine s_reg ?_
 refine qa rfl rfl ?_
 refine Vc.step_end (fun a w ok => ?_)
 (refine WPs.run ?_ a w ok; clear ok w a)
 repeat refine s_seqs ?_
 refine s_block ?_
 repeat refine s_seqs ?_
 refine s_loopP (α := Nat × SlS) (fun z => [(0, .slice base1 fs.length cap1), (4, .slice z.2.base z.2.len z.2.cap), (5, .int .i64 z.1)]) (fun z => [z.2.e])
  (fun z _ => z.1 ≤ fs.length ∧ (∀ (j : Nat) f, j < z.1 → fs[j]? = some f → fok f = true) ∧ SlIs ty5 5 z.2.e z.2.base z.2.len z.2.cap (row ((fs.take z.1).flatMap fbytes))) (fun z => fs.length - z.1) (0, ⟨none, 0, 0, hole⟩)
  ⟨Nat.zero_le _, by dsimp only; omega, by dsimp only; rw [List.take_zero]; exact sl_nil _ _ (by decide)⟩ (less_of ⟨rfl, rfl, rfl, trivial⟩ rfl) ?_
 rintro ⟨i, base2, len2, cap2, e2⟩ E1 ⟨hi, hall, hs⟩ g
 dsimp only at hi hall hs ⊢
 obtain rfl := sl_len8 hs
 replace on := on.next g
 replace hv := hv.mono g.mono
 repeat refine s_seqs ?_
 refine s_reg ?_
 refine qm rfl rfl ?_
 refine qm rfl rfl ?_
 refine step_pure rfl (pure_len_slice rfl rfl rfl) ?_
 refine step_pure rfl (pure_lss rfl rfl) ?_
 refine Vc.step_end (fun a w ok => ?_)
 (refine WPs.run ?_ a w ok; clear ok w a)
 repeat refine s_seqs ?_
 refine s_cond rfl (fun h => ?_) (fun h => ?_)
 ·have hlt : i < fs.length := by have := of_decide_eq_true h; omega
  clear h
  refine s_skip fun a w ok => WPs.run ?_ a w ok
  clear ok w a
  repeat refine s_seqs ?_
  refine s_block ?_
  obtain ⟨p, cp, cs, hq, hfc, hp⟩ := hv.at hlt
  cases hq
  have hdb := hbig _ (List.getElem_mem hlt)
  have h5 := hfc.five
  have hck := fun w' kp => rcheck_any fs[i] cs w' (hfc.mono (fun p x h => h.now (w := w') kp)) hdb
  repeat refine s_seqs ?_
  refine s_reg ?_
  refine qm rfl rfl ?_
  refine qm rfl rfl ?_
  refine step_as rfl (pure_indexAddr_at rfl rfl rfl rfl rfl (by omega) (by omega)) (show _ = Value.pointer (some (p.add (i * 5))) from by show Value.pointer (some (p.add ((i : Int).toNat * 5))) = _; rw [Int.toNat_natCast]) ?_
  refine step_pure rfl (pure_cel_agg rfl rfl rfl h5 (fun j x hx => hp j x hx)) ?_
  refine step_gives rfl fun51 rfl (fun w' _ kp => hck w' kp) ?_
  refine step_pure rfl (pure_neq rfl rfl) ?_
  refine Vc.step_end (fun a w ok => ?_)
  (refine WPs.run ?_ a w ok; clear ok w a)
  by_cases hk : fok fs[i] = true
  ·rw [if_pos hk]
   repeat refine s_seqs ?_
   refine s_cond_no rfl rfl ?_
   refine s_skip fun a w ok => WPs.run ?_ a w ok
   clear ok w a
   have hsn := flatB_snoc fs i hlt
   have hfl := fbytes_le hk
   have hL := flatB_le (fs.take i) (fun f hf => by
    obtain ⟨j, hj, rfl⟩ := List.getElem_of_mem hf
    rw [List.length_take] at hj
    rw [List.getElem_take]
    exact hall j _ (by omega) (List.getElem?_eq_getElem _))
   rw [List.length_take] at hL
   generalize (fs.take i).flatMap fbytes = L at *
   repeat refine s_seqs ?_
   refine s_reg ?_
   refine qm rfl rfl ?_
   refine qm rfl rfl ?_
   refine qm rfl rfl ?_
   refine step_as rfl (pure_indexAddr_at rfl rfl rfl rfl rfl (by omega) (by omega)) (show _ = Value.pointer (some (p.add (i * 5))) from by show Value.pointer (some (p.add ((i : Int).toNat * 5))) = _; rw [Int.toNat_natCast]) ?_
   refine step_pure rfl (pure_cel_agg rfl rfl rfl h5 (fun j x hx => hp j x hx)) ?_
   refine step_givesP on.sc rfl fun52 rfl (fun w' Z' hh kp hZ hC => rfbytes_P fs[i] cs w' hZ (hfc.mono (fun p x h => h.now kp)) hk) ?_
   rintro u E2 g2 hu
   refine step_app8 0 rfl rfl hs rfl (SlC.mono hu Cz.cel) rfl (by omega) (fun base4 cap4 e4 hs4 => ?_)
   refine qa rfl rfl ?_
   refine Vc.step_end (fun a w ok => ?_)
   (refine WPs.run ?_ a w ok; clear ok w a)
   repeat refine s_seqs ?_
   refine s_reg ?_
   refine qm rfl rfl ?_
   refine step_pure rfl (pure_add64 rfl rfl (by omega) (by omega)) ?_
   refine qa rfl rfl ?_
   refine Vc.step_end (fun a w ok => ?_)
   refine ⟨(i + 1, ⟨base4, L.length + (fbytes fs[i]).length, cap4, e4⟩), E2, ⟨hlt, fun j f hj hf => ?_, ?_⟩, by dsimp only; omega, g2, Less.ok ?_ ok⟩
   ·dsimp only at hj
    by_cases hji : j = i
    ·subst hji
     rw [List.getElem?_eq_getElem hlt] at hf
     cases hf
     exact hk
    ·exact hall j f (by omega) hf
   ·dsimp only
    rw [hsn]
    exact hs4
   exact less_of ⟨rfl, rfl, rfl, trivial⟩ rfl
  ·have hno := wrOk_not hlt (by simpa using hk)
   rw [if_neg hk]
   repeat refine s_seqs ?_
   refine s_cond_yes rfl rfl ?_
   repeat refine s_seqs ?_
   refine s_reg ?_
   refine qa rfl rfl ?_
   refine qa rfl rfl ?_
   refine Vc.step_end (fun a w ok => ?_)
   (refine WPs.run ?_ a w ok; clear ok w a)
   exact s_ret fun a w ok => ends_givesP on (.inr rfl) ok (res_tmp2 Try.results31 rfl rfl) (wrR_mono fs) (wrR_no hno)
 ·have hie : i = fs.length := by have := of_decide_eq_false h; omega
  subst hie
  have hok := wrOk_all h16 hall
  rw [List.take_length] at hs
  refine s_exit fun a w ok => WPs.run ?_ a w ok
  clear ok w a
  rw [List.take_length]
  repeat refine s_seqs ?_
  refine s_reg ?_
  refine qm rfl rfl ?_
  refine qa rfl rfl ?_
  refine qa rfl rfl ?_
  refine Vc.step_end (fun a w ok => ?_)
  (refine WPs.run ?_ a w ok; clear ok w a)
  refine s_let 0 rfl (fun E5 g5 hc => ?_)
  refine s_ret fun a w ok => ends_givesP (on.next g5) (.inr rfl) ok (res_tmp2 Try.results31 rfl rfl) (wrR_mono fs) ⟨_, by rw [if_pos hok], ?_⟩
  rw [wBs_ok hok]
  exact slis_cz hs (hc _ on.sc)
end Go.Proofs.Ythieegnhjoehbaa
