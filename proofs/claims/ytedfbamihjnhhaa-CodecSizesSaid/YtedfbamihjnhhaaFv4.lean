/- A walk by reckoning: each operation's outcome is what the model says. -/
import Derived.Test.YtedfbamihjnhhaaFv3
import Derived.Laws.StructEq
namespace Go.Proofs.Ytedfbamihjnhhaa.Own
open Go Go.RowKit
set_option linter.unusedVariables false
set_option linter.unusedSimpArgs false
def GOK (c : Cfg) (e : Vl) (σ0 : List (Nat × Nat × Nat)) : Prop := ∀ (σ : List (Nat × Nat × Nat)), Ext σ0 σ → ∀ (o : Oper) (vs : List V) (us : List Value) (v : V), c.G o vs = some v → RelVs e σ vs us → ∃ u, RelV e σ v u ∧ ∀ (ρ : Operand → Value), o.op.operands.toList.map ρ = us → ∀ (w0 : World) (L : List Blk), QV c.P w0 o ρ L u
section
variable {c : Cfg} {e : Vl} {σ σ0 : List (Nat × Nat × Nat)} {w0 : World} {ρ' : Operand → Option V} {ρ : Operand → Value} {o : Oper}
theorem capsC_rel : ∀ {xs : List V} {vs : List Value} {cs : List C}, capsC xs = some cs → RelVs e σ xs vs → RelCs e σ cs vs
 | [], _, _, h, .nil => by cases h; exact .nil
 | .one c :: r, _, cs, h, .cons hv t => by
  simp only [capsC] at h
  split at h
  ·rename_i l hl; cases h; exact .cons (iv_one hv) (capsC_rel hl t)
  ·cases h
 | .agg _ :: r, _, cs, h, _ => by cases h
 | .tup _ :: r, _, cs, h, _ => by cases h
 | .any _ :: r, _, cs, h, _ => by cases h
theorem asB_sound (hd : DOK c e) {v : V} {b : Bool} {u : Value} (h : asB c v = some b) (hv : RelV e σ v u) : u = .bool b := by
 unfold asB at h
 split at h
 ·cases h; exact iv_bool hv
 ·cases iv_one hv; exact hd _ _ h
 ·cases h
theorem bytes_get {l : List (List Int)} {i : Nat} (h : i < l.length) : ∃ b, (bytesOf l)[i]? = some b ∧ ((b.toNat : Nat) : Int) = wrK (some .u8) ((l.getD i []).getD 0 0) := by
 have hd : (bytesOf l).data.toList[i]? = some (UInt8.ofNat (IntKind.u8.wrap ((l.getD i []).getD 0 0)).toNat) := by
  show ((l.map fun el => UInt8.ofNat (IntKind.u8.wrap (el.getD 0 0)).toNat).toArray.toList)[i]? = _
  rw [List.getElem?_map, List.getElem?_eq_getElem h, List.getD_eq_getElem?_getD (l := l), List.getElem?_eq_getElem h]; rfl
 have hs : i < (bytesOf l).size := by rw [bytes_size]; exact h
 refine ⟨UInt8.ofNat (IntKind.u8.wrap ((l.getD i []).getD 0 0)).toNat, ?_, ?_⟩
 ·have h2 : (bytesOf l).data[i]? = some (UInt8.ofNat (IntKind.u8.wrap ((l.getD i []).getD 0 0)).toNat) := by simpa using hd
  rw [getElem?_pos (bytesOf l) i hs]
  rw [getElem?_pos (bytesOf l).data i hs] at h2
  exact h2
 ·show (((UInt8.ofNat (IntKind.u8.wrap ((l.getD i []).getD 0 0)).toNat).toNat : Nat) : Int) = IntKind.u8.wrap _
  rw [IntKind.wrap_u8']
  simp only [UInt8.toNat_ofNat']
  omega
theorem ba_beq (a b : ByteArray) : (a.toList == b.toList) = decide (a = b) := by
 by_cases h : a = b
 ·subst h; simp
 ·rw [decide_eq_false h, Bool.eq_false_iff]
  intro q
  have q := beq_iff_eq.1 q
  rw [ByteArray.toList_eq, ByteArray.toList_eq] at q
  exact h (ByteArray.ext (Array.ext' q))
theorem q_str_add {P : Program} {L : List Blk} {t ty : TypeId} (hu : P.underlying t = some .string) {x y : Operand} {a b : ByteArray} (ho : o.op = .binOp .add t x y ty) (hx : ρ x = .string a) (hy : ρ y = .string b) (hl : a.size + b.size ≤ maxLen) : QV P w0 o ρ L (.string (a ++ b)) :=
 q_of fun w _ => by
  refine run_binv ho (by rw [hx, hy]; rfl) ?_
  rw [hx, hy]
  have hm : ¬ ((a.size + b.size : Nat) : Int) > IntKind.i64.max := by
   have : IntKind.i64.max = 9223372036854775807 := rfl
   unfold maxLen at hl
   rw [this]; omega
  simp only [binOp, Op.stringOp]
  rw [if_neg hm]; rfl
theorem q_str_eq {P : Program} {L : List Blk} {t ty : TypeId} (hu : P.underlying t = some .string) {x y : Operand} {a b : ByteArray} (ho : o.op = .binOp .eql t x y ty) (hx : ρ x = .string a) (hy : ρ y = .string b) : QV P w0 o ρ L (.bool (decide (a = b))) :=
 q_of fun w _ => by
  refine run_binv ho (by rw [hx, hy]; rfl) ?_
  rw [hx, hy]
  simp only [binOp, Op.stringOp]
  rw [ba_beq]; rfl
theorem q_str_ne {P : Program} {L : List Blk} {t ty : TypeId} (hu : P.underlying t = some .string) {x y : Operand} {a b : ByteArray} (ho : o.op = .binOp .neq t x y ty) (hx : ρ x = .string a) (hy : ρ y = .string b) : QV P w0 o ρ L (.bool (!decide (a = b))) :=
 q_of fun w _ => by
  refine run_binv ho (by rw [hx, hy]; rfl) ?_
  rw [hx, hy]
  simp only [binOp, Op.stringOp]
  rw [ba_beq]; rfl
theorem eS_seq (x y : SE) : eS e (.seq x y) = .bool (decide (bytesOf (x.lst e) = bytesOf (y.lst e))) := by
 simp only [eS, SE.ty, SE.val, b2i_ne, SE.lst]
 congr
theorem eS_nseq (x y : SE) : eS e (.not (.seq x y)) = .bool (!decide (bytesOf (x.lst e) = bytesOf (y.lst e))) := by
 have h := eS_seq (e := e) x y
 unfold eS at h ⊢
 simp only [SE.ty, Value.bool.injEq] at h ⊢
 rw [← h]
 show (b2i (!(_ != 0)) != 0) = _
 rw [b2i_ne]
theorem evQ0_sound (hρ : ∀ x v, ρ' x = some v → RelV e σ v (ρ x)) (hd : DOK c e) {m : List MB} (hm : FS c.P e σ m) {v : V} (h : evQ0 c ρ' m o = some v) :
  ∃ u, RelV e σ v u ∧ ∀ L, (∀ w, Own w0 L w → FR c.P e σ m w) → QV c.P w0 o ρ L u := by
 unfold evQ0 at h
 split at h
 ·rename_i x ho; exact ⟨_, hρ _ _ h, fun L _ => q_move ho⟩
 ·rename_i x ho; exact ⟨_, hρ _ _ h, fun L _ => q_assign ho⟩
 ·rename_i x a b ho
  split at h
  ·rename_i xv hx
   split at h
   ·rename_i t ht
    have hx := asB_sound hd ht (hρ _ _ hx)
    cases t with
    | true => exact ⟨_, hρ _ _ h, fun L _ => q_pick_t ho hx rfl rfl⟩
    | false => exact ⟨_, hρ _ _ h, fun L _ => q_pick_f ho hx rfl rfl⟩
   ·cases h
  ·cases h
 ·rename_i t x ho
  split at h
  ·rename_i k off hx
   obtain ⟨g, gb, gc, hg, hx⟩ := iv_ptr (hρ _ _ hx)
   split at h
   ·rename_i cs T op hl
    obtain ⟨g', gb', gc', vs, a1, a2, _⟩ := hm.n _ _ _ _ hl
    rw [hg] at a1; cases a1
    have rd : ∀ L, (∀ w, Own w0 L w → FR c.P e σ m w) → ∀ w, Own w0 L w → ∀ (j : Nat) (v : Value), vs[j]? = some v → w.cell? ⟨g, gb + j, none⟩ = some v := fun L hh w hw j v hj => by
     obtain ⟨g2, gb2, gc2, vs2, c1, c2, c3, c4, _⟩ := (hh w hw).n _ _ _ _ hl
     rw [hg] at c1; cases c1
     rw [a2.det c2] at hj
     exact c4 j v hj
    rcases partC_rel h a2 with ⟨n, us, b1, b2, b3, b4, _⟩ | ⟨n, u, b1, b2, b3, b4⟩
    ·refine ⟨_, b4, fun L hh => q_load_agg_h b1 ho hx b3 fun w hw j v hj => ?_⟩
     rw [Nat.add_assoc]; exact rd L hh w hw _ _ (take_drop_get b2 j v hj)
    ·exact ⟨_, b3, fun L hh => q_load_one_h b1 ho hx fun w hw => rd L hh w hw _ _ b2⟩
   ·cases h
  ·rename_i k ix sz off hx
   obtain ⟨g, gb, gc, hg, hx⟩ := iv_pel (hρ _ _ hx)
   split at h
   ·rename_i z ks T hl
    cases hb : (Nat.beq ks.length sz && inB c ix z) with
    | false => rw [hb, cond_false] at h; cases h
    | true =>
     rw [hb, cond_true] at h
     simp only [Bool.and_eq_true] at hb
     have hsz := Nat.eq_of_beq_eq_true hb.1
     subst hsz
     obtain ⟨i1, i2⟩ := inB_sound hd hb.2
     have i3 := Nat.lt_of_lt_of_le i2 (sat_min _)
     have rd : ∀ L, (∀ w, Own w0 L w → FR c.P e σ m w) → ∀ w, Own w0 L w → ∀ (j : Nat) (v : Value), (rowV ks 0 ((z.lst e).getD (ix.val e).toNat []))[j]? = some v → w.cell? ⟨g, gb + (ix.val e).toNat * ks.length + j, none⟩ = some v := fun L hh w hw j v hj => by
      obtain ⟨g2, gb2, gc2, c1, c2, c3, c4⟩ := (hh w hw).l _ _ _ _ hl
      rw [hg] at c1; cases c1
      have hjl : j < ks.length := by have := (List.getElem?_eq_some_iff.1 hj).1; rwa [rowV_len] at this
      rw [← flatL_get i3 hjl] at hj
      have := (c4 _ v hj).2
      rw [← Nat.add_assoc] at this; exact this
     rcases partL_rel (e := e) (σ := σ) h with ⟨n, us, b1, b2, b3, b4⟩ | ⟨n, u, b1, b2, b3⟩
     ·refine ⟨_, b4, fun L hh => q_load_agg_h b1 ho hx b3 fun w hw j v hj => ?_⟩
      have := rd L hh w hw _ _ (take_drop_get b2 j v hj)
      rw [show gb + ((ix.val e).toNat * ks.length + off) + j = gb + (ix.val e).toNat * ks.length + (off + j) by omega]
      exact this
     ·refine ⟨_, b3, fun L hh => q_load_one_h b1 ho hx fun w hw => ?_⟩
      have := rd L hh w hw _ _ b2
      rw [← Nat.add_assoc]
      exact this
   ·cases h
  ·cases h
 ·rename_i x ho
  split at h
  ·rename_i k off hx
   cases h
   have hv := hρ _ _ hx
   obtain ⟨g, gb, gc, hg, hx⟩ := iv_ptr hv
   rw [hx] at hv
   exact ⟨_, hv, fun L _ => q_nilCheck ho hx⟩
  ·rename_i k ix sz off hx
   cases h
   have hv := hρ _ _ hx
   obtain ⟨g, gb, gc, hg, hx⟩ := iv_pel hv
   rw [hx] at hv
   exact ⟨_, hv, fun L _ => q_nilCheck ho hx⟩
  ·cases h
 ·rename_i op t x y ty ho
  split at h
  ·rename_i k a k' b hx hy
   split at h
   ·rename_i z hz
    cases h
    obtain ⟨u, h3, h4⟩ := evBin_sound (e := e) (σ := σ) (P := c.P) (w0 := w0) (L := []) hz ho (iv_int (hρ _ _ hx)) (iv_int (hρ _ _ hy))
    refine ⟨u, .one h3, fun L _ => ?_⟩
    obtain ⟨u', h3', h4'⟩ := evBin_sound (e := e) (σ := σ) (P := c.P) (w0 := w0) (L := L) hz ho (iv_int (hρ _ _ hx)) (iv_int (hρ _ _ hy))
    rw [h3.det h3']; exact h4'
   ·cases h
  ·rename_i a b hx hy
   split at h
   ·rename_i hu; cases h; exact ⟨_, .one .bool, fun L _ => q_eqb (hi := hu) ho (iv_bool (hρ _ _ hx)) (iv_bool (hρ _ _ hy))⟩
   ·rename_i hu; cases h; exact ⟨_, .one .bool, fun L _ => q_neb (hi := hu) ho (iv_bool (hρ _ _ hx)) (iv_bool (hρ _ _ hy))⟩
   ·cases h
  ·rename_i a b hx hy
   split at h
   ·rename_i yt hyt
    have hxv := iv_sts (hρ _ _ hx)
    have hyv := strT_rel hyt (iv_one (hρ _ _ hy))
    split at h
    ·rename_i hu
     cases hb : (smB c a && smB c yt) with
     | false => rw [hb, cond_false] at h; cases h
     | true =>
      rw [hb, cond_true] at h; cases h
      simp only [Bool.and_eq_true] at hb
      have s1 := smB_sound hd hb.1
      have s2 := smB_sound hd hb.2
      refine ⟨_, .one .sts, fun L _ => ?_⟩
      rw [lst_lcat, bytes_app]
      exact q_str_add hu ho hxv hyv (by rw [bytes_size, bytes_size]; unfold maxLen; omega)
    ·rename_i hu; cases h
     refine ⟨_, .one (rel_opq _), fun L _ => ?_⟩
     have e1 := eS_seq (e := e) a yt
     show QV c.P w0 o ρ L (eS e (.seq a yt))
     rw [e1]; exact q_str_eq hu ho hxv hyv
    ·rename_i hu; cases h
     refine ⟨_, .one (rel_opq _), fun L _ => ?_⟩
     have e1 := eS_nseq (e := e) a yt
     show QV c.P w0 o ρ L (eS e (.not (.seq a yt)))
     rw [e1]; exact q_str_ne hu ho hxv hyv
    ·cases h
   ·cases h
  ·rename_i a b hx hy
   have hxv := iv_str (hρ _ _ hx)
   have hyv := iv_sts (hρ _ _ hy)
   have ha : bytesOf ((SE.lbs (a.data.toList.map UInt8.toNat)).lst e) = a := by rw [lst_lbs, bytes_lbs]
   split at h
   ·rename_i hu
    cases hb : (smB c b && Nat.ble a.size 1000000) with
    | false => rw [hb, cond_false] at h; cases h
    | true =>
     rw [hb, cond_true] at h; cases h
     simp only [Bool.and_eq_true] at hb
     have s1 := smB_sound hd hb.1
     have s2 := Nat.le_of_ble_eq_true hb.2
     refine ⟨_, .one .sts, fun L _ => ?_⟩
     rw [lst_lcat, bytes_app, ha]
     exact q_str_add hu ho hxv hyv (by rw [bytes_size]; unfold maxLen; omega)
   ·rename_i hu; cases h
    refine ⟨_, .one (rel_opq _), fun L _ => ?_⟩
    have e1 := eS_seq (e := e) (.lbs (a.data.toList.map UInt8.toNat)) b
    show QV c.P w0 o ρ L (eS e (.seq (.lbs (a.data.toList.map UInt8.toNat)) b))
    rw [e1, ha]; exact q_str_eq hu ho hxv hyv
   ·rename_i hu; cases h
    refine ⟨_, .one (rel_opq _), fun L _ => ?_⟩
    have e1 := eS_nseq (e := e) (.lbs (a.data.toList.map UInt8.toNat)) b
    show QV c.P w0 o ρ L (eS e (.not (.seq (.lbs (a.data.toList.map UInt8.toNat)) b)))
    rw [e1, ha]; exact q_str_ne hu ho hxv hyv
   ·cases h
  ·rename_i a b hx hy
   have hxv := iv_str (hρ _ _ hx)
   have hyv := iv_str (hρ _ _ hy)
   split at h
   ·rename_i hu
    cases hb : (Nat.ble a.size 1000000 && Nat.ble b.size 1000000) with
    | false => rw [hb, cond_false] at h; cases h
    | true =>
     rw [hb, cond_true] at h; cases h
     simp only [Bool.and_eq_true] at hb
     have s1 := Nat.le_of_ble_eq_true hb.1
     have s2 := Nat.le_of_ble_eq_true hb.2
     exact ⟨_, .one .str, fun L _ => q_str_add hu ho hxv hyv (by unfold maxLen; omega)⟩
   ·rename_i hu; cases h; exact ⟨_, .one .bool, fun L _ => q_str_eq hu ho hxv hyv⟩
   ·rename_i hu; cases h; exact ⟨_, .one .bool, fun L _ => q_str_ne hu ho hxv hyv⟩
   ·cases h
  ·rename_i xs ys hx hy
   obtain ⟨us, hus, hx'⟩ := iv_agg (hρ _ _ hx)
   obtain ⟨vs, hvs, hy'⟩ := iv_agg (hρ _ _ hy)
   split at h
   ·cases hg : c.P.eqGuardType c.P.depth t with
    | true => simp [hg] at h
    | false =>
     simp only [hg, cond_false] at h
     split at h
     ·rename_i b hb; cases h
      exact ⟨_, .one .bool, fun L _ => q_eqs ho hx' hy' ⟨hg, eqC_sound _ hb (.agg hus) (.agg hvs)⟩⟩
     ·cases h
   ·cases hg : c.P.eqGuardType c.P.depth t with
    | true => simp [hg] at h
    | false =>
     simp only [hg, cond_false] at h
     split at h
     ·rename_i b hb; cases h
      exact ⟨_, .one .bool, fun L _ => q_nes ho hx' hy' ⟨hg, eqC_sound _ hb (.agg hus) (.agg hvs)⟩⟩
     ·cases h
   ·cases h
  ·cases h
 ·rename_i t x ho
  split at h
  ·rename_i b hx; cases h; exact ⟨_, .one .bool, fun L _ => q_not ho (iv_bool (hρ _ _ hx))⟩
  ·cases h
 ·rename_i t x ho
  split at h
  ·rename_i k a hx; cases h; exact ⟨_, .one .int, fun L _ => q_neg ho (iv_int (hρ _ _ hx))⟩
  ·cases h
 ·rename_i s d x ho
  split at h
  ·rename_i k a k1 k2 hx hs hd; cases h; exact ⟨_, .one .int, fun L _ => q_conv (hs := hs) (hd := hd) ho (iv_int (hρ _ _ hx))⟩
  ·cases h
 ·rename_i f b ho
  split at h
  ·rename_i vs hvs
   split at h
   ·rename_i cs hcs; cases h
    refine ⟨_, .one (.fn (capsC_rel hcs (argsL_rel hρ hvs))), fun L _ => ?_⟩
    have := q_makeFunc (P := c.P) (w0 := w0) (L := L) (ρ := ρ) ho
    have e1 : Array.map ρ b = List.toArray (List.map ρ b.toList) := by apply Array.ext'; simp
    have e0 : Array.map ρ (⟨[]⟩ : Array Operand) = #[] := by apply Array.ext'; simp
    rw [e1, e0] at this
    exact this
   ·cases h
  ·cases h
 ·rename_i t x i ho
  split at h
  ·rename_i cs off n hx hf
   cases h
   obtain ⟨vs, hvs, hx'⟩ := iv_agg (hρ _ _ hx)
   exact ⟨_, .agg ((hvs.drop off).take n), fun L _ => q_field_agg (hi := hf) ho hx' rfl⟩
  ·rename_i cs off n hx hf
   obtain ⟨vs, hvs, hx'⟩ := iv_agg (hρ _ _ hx)
   split at h
   ·rename_i z hz; cases h
    obtain ⟨u, h3, h4⟩ := hvs.get hz
    exact ⟨u, .one h4, fun L _ => q_field_one (hi := hf) ho hx' h3⟩
   ·cases h
  ·cases h
 ·rename_i t x i ho
  split at h
  ·rename_i k off fo b n hx hf
   obtain ⟨g, gb, gc, hg, hx'⟩ := iv_ptr (hρ _ _ hx)
   cases hn : Nat.beq n 0 with
   | true => simp only [hn, cond_true] at h; cases h
   | false =>
    simp only [hn, cond_false, Option.some.injEq] at h
    subst h
    exact ⟨_, .one (.ptr hg), fun L _ => by rw [← Nat.add_assoc]; exact q_fieldAddr (hi := hf) ho hn hx'⟩
  ·rename_i k ix sz off fo b n hx hf
   obtain ⟨g, gb, gc, hg, hx'⟩ := iv_pel (hρ _ _ hx)
   cases hn : Nat.beq n 0 with
   | true => simp only [hn, cond_true] at h; cases h
   | false =>
    simp only [hn, cond_false, Option.some.injEq] at h
    subst h
    exact ⟨_, .one (.pel hg), fun L _ => by rw [← Nat.add_assoc, ← Nat.add_assoc, Nat.add_assoc gb]; exact q_fieldAddr (hi := hf) ho hn hx'⟩
  ·cases h
 ·rename_i t x y ho
  split at h
  ·rename_i k off len cap ik i el hx hy hs
   obtain ⟨g, gb, gc, hg, hx'⟩ := iv_sl (hρ _ _ hx)
   split at h
   ·rename_i b n hi
    cases hb : decide (0 ≤ i ∧ i < (len : Int)) with
    | true => simp only [hb, cond_true, Option.some.injEq] at h; subst h; exact ⟨_, .one (.ptr hg), fun L _ => by rw [← Nat.add_assoc]; exact q_indexAddr (hs := hs) (hi := hi) ho hx' (iv_int (hρ _ _ hy)) (of_decide_eq_true hb)⟩
    | false => simp only [hb, cond_false] at h; cases h
   ·cases h
  ·rename_i k len ik i el hx hy hs
   obtain ⟨g, gb, gc, hg, hx'⟩ := iv_slo (hρ _ _ hx)
   split at h
   ·rename_i b n hi
    cases hb : decide (0 ≤ i ∧ i < (len : Int)) with
    | true =>
     simp only [hb, cond_true, Option.some.injEq] at h; subst h
     refine ⟨_, .one (.ptr hg), fun L _ => ?_⟩
     have := q_indexAddr (P := c.P) (w0 := w0) (L := L) (hs := hs) (hi := hi) ho hx' (iv_int (hρ _ _ hy)) (of_decide_eq_true hb)
     exact this
    | false => simp only [hb, cond_false] at h; cases h
   ·cases h
  ·rename_i k off ik i len el hx hy hs
   obtain ⟨g, gb, gc, hg, hx'⟩ := iv_ptr (hρ _ _ hx)
   split at h
   ·rename_i b n hi
    cases hb : decide (0 ≤ i ∧ i < (len : Int)) with
    | true => simp only [hb, cond_true, Option.some.injEq] at h; subst h; exact ⟨_, .one (.ptr hg), fun L _ => by rw [← Nat.add_assoc]; exact q_indexAddrA hs hi ho hx' (iv_int (hρ _ _ hy)) (of_decide_eq_true hb)⟩
    | false => simp only [hb, cond_false] at h; cases h
   ·cases h
  ·rename_i k z yv el hx hy hs
   obtain ⟨g, gb, gc, hg, hx'⟩ := iv_sli (hρ _ _ hx)
   split at h
   ·rename_i b n ix hi hix
    cases hb : inB c ix z with
    | false => rw [hb, cond_false] at h; cases h
    | true =>
     rw [hb, cond_true] at h; cases h
     obtain ⟨ik, hyv⟩ := toIx_rel hix (hρ _ _ hy)
     obtain ⟨i1, i2⟩ := inB_sound hd hb
     rw [slV_some (by omega)] at hx'
     exact ⟨_, .one (.pel hg), fun L _ => by rw [Nat.add_zero]; exact q_indexAddr (hs := hs) (hi := hi) ho hx' hyv ⟨i1, by omega⟩⟩
   ·cases h
  ·cases h
 ·rename_i t x y ho
  split at h
  ·rename_i cs ik i len el hx hy hs
   obtain ⟨vs, hvs, hx'⟩ := iv_agg (hρ _ _ hx)
   split at h
   ·rename_i n hi
    cases hb : decide (0 ≤ i ∧ i < (len : Int)) with
    | true =>
     simp only [hb, cond_true] at h
     split at h
     ·rename_i z hz; cases h
      obtain ⟨u, h3, h4⟩ := hvs.get hz
      exact ⟨u, .one h4, fun L _ => q_index_arr (ha := hs) (hi := hi) ho hx' (iv_int (hρ _ _ hy)) hb h3⟩
     ·cases h
    | false => simp only [hb, cond_false] at h; cases h
   ·cases h
  ·rename_i s ik i hx hy hs
   cases hb : decide (0 ≤ i) with
   | true =>
    simp only [hb, cond_true] at h
    split at h
    ·rename_i b hbb; cases h
     exact ⟨_, .one .int, fun L _ => q_index_str hs ho (iv_str (hρ _ _ hx)) (iv_int (hρ _ _ hy)) (of_decide_eq_true hb) hbb⟩
    ·cases h
   | false => simp only [hb, cond_false] at h; cases h
  ·rename_i z yv hx hy hs
   split at h
   ·rename_i ix hix
    cases hb : inB c ix z with
    | false => rw [hb, cond_false] at h; cases h
    | true =>
     rw [hb, cond_true] at h; cases h
     obtain ⟨ik, hyv⟩ := toIx_rel hix (hρ _ _ hy)
     obtain ⟨i1, i2⟩ := inB_sound hd hb
     have i3 := Nat.lt_of_lt_of_le i2 (sat_min _)
     have r := el_rel (e := e) (σ := σ) (some .u8) z ix 0
     refine ⟨_, .one r, fun L _ => ?_⟩
     obtain ⟨b, hb1, hb2⟩ := bytes_get i3
     have := q_index_str (P := c.P) (w0 := w0) (L := L) hs ho (iv_sts (hρ _ _ hx)) hyv i1 hb1
     rw [hb2] at this
     exact this
   ·cases h
  ·cases h
 ·rename_i t x lo ho
  split at h
  ·rename_i k n ik l el hx hlo hu
   obtain ⟨g, gb, gc, hg, hx'⟩ := iv_slo (hρ _ _ hx)
   split at h
   ·rename_i bb sz hi
    cases hb : Nat.ble l n with
    | false => rw [hb, cond_false] at h; cases h
    | true =>
     rw [hb, cond_true] at h; cases h
     exact ⟨_, .one (.slt hg), fun L _ => q_slice_low hu hi ho hx' (iv_int (hρ _ _ hlo)) (Nat.le_of_ble_eq_true hb)⟩
   ·cases h
  ·cases h
 ·rename_i x i ho
  split at h
  ·rename_i vs hx
   obtain ⟨us, hus, hx'⟩ := iv_tup (hρ _ _ hx)
   obtain ⟨u, h3, h4⟩ := hus.get h
   exact ⟨u, h4, fun L _ => q_extract ho hx' h3⟩
  ·cases h
 ·rename_i t ps ho
  split at h
  ·rename_i fs z hu hz
   split at h
   ·rename_i zc pl l hzc hpl hl
    split at h
    ·rename_i cs hcs; cases h
     obtain ⟨vs, h3, h4⟩ := fillC_rel (opsL_rel hρ hl) hcs (csOf_rel hzc)
     exact ⟨_, .agg h3, fun L _ => q_build (hi := bi_of hu (by simpa using hz) hpl) ho rfl h4⟩
    ·cases h
   ·cases h
  ·rename_i len el z hu hz
   split at h
   ·rename_i zc b n l hzc hi hl
    split at h
    ·rename_i cs hcs; cases h
     obtain ⟨vs, h3, h4⟩ := fillC_rel (opsL_rel hρ hl) hcs (csOf_rel hzc)
     exact ⟨_, .agg h3, fun L _ => q_buildArr hu hi (by simpa using hz) ho rfl h4⟩
    ·cases h
   ·cases h
  ·cases h
 ·rename_i x t ts ho
  split at h
  ·rename_i k off n m el hx hu
   obtain ⟨g, gb, gc, hg, hx'⟩ := iv_sl (hρ _ _ hx)
   cases h; exact ⟨_, .one .int, fun L _ => q_len_slice (hs := hu) ho rfl rfl rfl hx'⟩
  ·rename_i k n el hx hu
   obtain ⟨g, gb, gc, hg, hx'⟩ := iv_slo (hρ _ _ hx)
   cases h; exact ⟨_, .one .int, fun L _ => q_len_slice (hs := hu) ho rfl rfl rfl hx'⟩
  ·rename_i k l sz n el hx hu
   obtain ⟨g, gb, gc, hg, hx'⟩ := iv_slt (hρ _ _ hx)
   cases h; exact ⟨_, .one .int, fun L _ => q_len_slice (hs := hu) ho rfl rfl rfl hx'⟩
  ·rename_i el hx hu
   cases h; exact ⟨_, .one .int, fun L _ => q_len_slice (hs := hu) ho rfl rfl rfl (iv_nils (hρ _ _ hx))⟩
  ·rename_i s hx hu
   cases h; exact ⟨_, .one .int, fun L _ => q_len_str hu ho rfl rfl rfl (iv_str (hρ _ _ hx))⟩
  ·rename_i k z el hx hu
   obtain ⟨g, gb, gc, hg, hx'⟩ := iv_sli (hρ _ _ hx)
   cases h
   refine ⟨_, .one (rel_opq _), fun L _ => ?_⟩
   rw [lenT_eS]
   exact q_len_slice (hs := hu) ho rfl rfl rfl hx'
  ·rename_i z hx hu
   cases hb : smB c z with
   | false => rw [hb, cond_false] at h; cases h
   | true =>
    rw [hb, cond_true] at h; cases h
    have h1 := smB_sound hd hb
    refine ⟨_, .one (rel_opq _), fun L _ => ?_⟩
    rw [lenT_eS, sat_of (by unfold maxLen; omega)]
    have := q_len_str (P := c.P) (w0 := w0) (L := L) hu ho rfl rfl rfl (iv_sts (hρ _ _ hx))
    rw [bytes_size] at this
    exact this
  ·cases h
 ·rename_i x y ts ho
  split at h
  ·rename_i k a k' b hx hy; cases h; exact ⟨_, .one .int, fun L _ => q_max ho rfl rfl (iv_int (hρ _ _ hx)) (iv_int (hρ _ _ hy))⟩
  ·cases h
 ·rename_i x y ts ho
  split at h
  ·rename_i k a k' b hx hy; cases h; exact ⟨_, .one .int, fun L _ => q_min ho rfl rfl (iv_int (hρ _ _ hx)) (iv_int (hρ _ _ hy))⟩
  ·cases h
 ·cases h
theorem evQ_sound (hρ : ∀ x v, ρ' x = some v → RelV e σ v (ρ x)) (hd : DOK c e) (hg : GOK c e σ0) (hx : Ext σ0 σ) {m : List MB} (hm : FS c.P e σ m) {v : V} (h : evQ c ρ' m o = some v) :
  ∃ u, RelV e σ v u ∧ ∀ L, (∀ w, Own w0 L w → FR c.P e σ m w) → QV c.P w0 o ρ L u := by
 unfold evQ at h
 split at h
 ·rename_i v' hv; cases h; exact evQ0_sound hρ hd hm hv
 ·split at h
  ·rename_i vs hvs
   obtain ⟨u, h1, h2⟩ := hg σ hx o vs _ v h (argsL_rel hρ hvs)
   exact ⟨u, h1, fun L _ => h2 ρ rfl w0 L⟩
  ·cases h
/-! ### blocks that are made -/
theorem rowC_rel {n : Nat} {l : List (Nat × Value)} {m : Nat} : ∀ (ps : List (Nat × Operand)) (i : Nat) {xs : List (Nat × V)} {cs : List C}, opsL ρ' ps = some xs → (∀ x v, ρ' x = some v → RelV e σ v (evL n l x)) → rowC m i xs = some cs →
  ∃ vs, RelCs e σ cs vs ∧ vs.length = ps.length * m ∧ ∀ (pre post : List Value), pre.length = i * m → post.length = ps.length * m → Instr.fill (fun j => some (j * m, m)) (List.toArray (pre ++ post)) (ps.map fun x => (x.1, evL n l x.2)) = some (List.toArray (pre ++ vs))
 | [], i, xs, cs, hx, hρ, h => by
  cases hx; cases h
  refine ⟨[], .nil, by simp, fun pre post h1 h2 => ?_⟩
  have : post = [] := List.length_eq_zero_iff.1 (by simpa using h2)
  subst this; rfl
 | (j, x) :: r, i, xs, cs, hx, hρ, h => by
  simp only [opsL] at hx
  split at hx
  ·rename_i v xs' hv hxs
   cases hx
   simp only [rowC] at h
   split at h
   ·rename_i us hus
    cases hb : (Nat.beq i j && Nat.beq us.length m) with
    | false => simp only [hb, cond_false] at h; cases h
    | true =>
     simp only [hb, cond_true] at h
     simp only [Bool.and_eq_true] at hb
     have hij := Nat.eq_of_beq_eq_true hb.1
     have hm := Nat.eq_of_beq_eq_true hb.2
     subst hij
     split at h
     ·rename_i cs' hcs; cases h
      obtain ⟨vs, h1, h2, h3⟩ := rowC_rel r (i + 1) hxs hρ hcs
      have hc := cells_rel hus (hρ _ _ hv)
      have hsz : (evL n l x).cells.size = m := by rw [← hm, ← hc.len]; simp
      refine ⟨(evL n l x).cells.toList ++ vs, hc.app h1, by simp [h2, hsz, Nat.add_mul]; omega, fun pre post hp hq => ?_⟩
      simp only [List.length_cons, Nat.add_mul, Nat.one_mul] at hq
      simp only [List.map_cons, Instr.fill]
      rw [if_neg (by simp [hsz]; omega)]
      have hs3 := splice_foldl (evL n l x).cells.toList (pre ++ post).toArray (i * m) (by simp [hsz]; omega)
      have hs5 : splice (pre ++ post) (i * m) (evL n l x).cells.toList = (pre ++ (evL n l x).cells.toList) ++ post.drop m := by
       unfold splice
       rw [List.take_append_of_le_length (by omega), List.take_of_length_le (by omega), show (evL n l x).cells.toList.length = m from by simp [hsz], List.drop_append, List.drop_eq_nil_of_le (by omega)]
       simp [hp]
      have hs4 : (evL n l x).cells.zipIdx.foldl (fun (cs : Array Value) (x : Value × Nat) => cs.setIfInBounds (i * m + x.2) x.1) (pre ++ post).toArray = ((pre ++ (evL n l x).cells.toList) ++ post.drop m).toArray := by
       rw [← hs5, ← hs3, ← Array.foldl_toList]; simp
      show Instr.fill _ ((evL n l x).cells.zipIdx.foldl (fun (cs : Array Value) (x : Value × Nat) => cs.setIfInBounds (i * m + x.2) x.1) (pre ++ post).toArray) _ = _
      rw [hs4, h3 (pre ++ (evL n l x).cells.toList) (post.drop m) (by simp [hp, hsz, Nat.add_mul]) (by simp; omega), List.append_assoc]
     ·cases h
   ·cases h
  ·cases hx
theorem zinfo_spec {P : Program} {t : TypeId} {z : Value} (h : zinfo P t = some z) : ∃ i, P.info? t = some i ∧ i.zero = some z := by
 unfold zinfo at h
 simpa [Option.bind_eq_some_iff] using h
theorem evAlloc_sound {n : Nat} {l : List (Nat × Value)} (hρ : ∀ x v, ρ' x = some v → RelV e σ v (evL n l x)) {k : Option Nat} {cs : List C} {t : TypeId} (h : evAlloc c.P ρ' o = some (k, cs, t)) :
  ∃ vs, RelCs e σ cs vs ∧ allocOf c.P o (evL n l) = some (k, vs, t) := by
 unfold evAlloc at h
 split at h
 ·rename_i t' ho
  split at h
  ·rename_i z hz
   split at h
   ·rename_i z' hz'
    split at h
    ·rename_i cs' hcs; cases h
     exact ⟨_, cells_rel hcs (vOf_rel hz'), by
      obtain ⟨i, h1, h2⟩ := zinfo_spec hz
      simp [allocOf, ho, h1, h2]⟩
    ·cases h
   ·cases h
  ·cases h
 ·rename_i t' x ho
  split at h
  ·rename_i v hv
   split at h
   ·rename_i cs' hcs; cases h
    exact ⟨_, cells_rel hcs (hρ _ _ hv), by simp [allocOf, ho]⟩
   ·cases h
  ·cases h
 ·rename_i t' len ps ho
  split at h
  ·rename_i el hu
   split at h
   ·rename_i b m z xs hi hz hxs
    cases hb : (Nat.beq ps.toList.length len && Nat.ble (len * m) 16777216) with
    | false => simp only [hb, cond_false] at h; cases h
    | true =>
     simp only [hb, cond_true] at h
     simp only [Bool.and_eq_true] at hb
     obtain ⟨hb1, hb2⟩ := hb
     have hb1 := Nat.eq_of_beq_eq_true hb1
     have hb2 := Nat.le_of_ble_eq_true hb2
     split at h
     ·rename_i cs' hcs; cases h
      obtain ⟨vs, h1, h2, h3⟩ := rowC_rel ps.toList 0 hxs hρ hcs
      refine ⟨vs, h1, ?_⟩
      obtain ⟨i, hi', hz'⟩ := zinfo_spec hz
      have hm : i.size = m := by
       have := hi
       unfold tinfo at this
       split at this
       ·rename_i d' i' _ hi2
        rw [hi'] at hi2
        simp only [Option.some.injEq, Prod.mk.injEq] at this hi2
        rw [hi2]; exact this.2
       ·cases this
      unfold allocOf
      simp only [ho, hu, hi', hz', hm]
      rw [if_neg (by omega)]
      have := h3 [] ((List.range (len * m)).map fun i => z.cells[i % z.cells.size]!) (by simp) (by simp [hb1])
      simp only [List.nil_append] at this
      have e1 : (Array.map (fun i => z.cells[i % z.cells.size]!) (Array.range (len * m))) = ((List.range (len * m)).map fun i => z.cells[i % z.cells.size]!).toArray := by
       apply Array.ext' ; simp
      have e2 : (Array.map (fun (x : Nat × Operand) => (x.1, evL n l x.2)) ps).toList = ps.toList.map fun x => (x.1, evL n l x.2) := by simp
      show (Instr.fill (fun j => some (j * m, m)) (Array.map (fun i => z.cells[i % z.cells.size]!) (Array.range (len * m))) (Array.map (fun (x : Nat × Operand) => (x.1, evL n l x.2)) ps).toList).map _ = _
      rw [e1, e2, this]
      simp
     ·cases h
   ·cases h
  ·cases h
 ·cases h
end
end Go.Proofs.Ytedfbamihjnhhaa.Own
