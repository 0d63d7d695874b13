/- The engine: strings. -/
import Derived.Test.YtmgfabfmnachoaaDoorInst
import Derived.Laws.Slices
import Derived.Laws.BytesArg
import Derived.Laws.IdiomStrings
import Derived.Laws.Strings3
namespace Go.Proofs.YtmgfabfmnachoaaDoor.Own
open Go Go.RowKit
set_option linter.unusedVariables false
set_option linter.unusedSimpArgs false
theorem st9 : Tryd.prog.underlying 9 = some .string := by kernel_rfl
section
variable {P : Program} {w0 : World} {o : Oper} {ρ : Operand → Value} {L : List Blk}

/-- a string of these bytes -/
def B (l : List UInt8) : ByteArray := ⟨l.toArray⟩
theorem B_size (l : List UInt8) : (B l).size = l.length := by simp [B, ByteArray.size]
theorem B_get (l : List UInt8) (i : Nat) : (B l)[i]? = l[i]? := by
  rw [getElem?_def, getElem?_def]
  by_cases h : i < l.length
  · have h' : i < (B l).size := by rw [B_size]; exact h
    rw [dif_pos h, dif_pos h']; rfl
  · have h' : ¬ i < (B l).size := by rw [B_size]; exact h
    rw [dif_neg h, dif_neg h']
theorem B_inj {a b : List UInt8} (h : B a = B b) : a = b := by
  unfold B at h; injection h with h; simpa using congrArg Array.toList h
theorem B_list (b : ByteArray) : B b.data.toList = b := by unfold B; simp
theorem B_app (a b : List UInt8) : B a ++ B b = B (a ++ b) := by
  apply ByteArray.ext; simp [B]
theorem B_sub (l : List UInt8) (lo hi : Nat) : (B l).extract lo hi = B ((l.take hi).drop lo) := by
  apply ByteArray.ext
  rw [ByteArray.data_extract]
  simp [B, List.drop_take]

def idxS (l : List UInt8) (i : Int) : Option Int := if 0 ≤ i then (match l[i.toNat]? with | some c => some (c.toNat : Int) | none => none) else none
def addS (a b : List UInt8) : Option (List UInt8) := if a.length + b.length ≤ 9223372036854775807 then some (a ++ b) else none
def subS (l : List UInt8) (lo hi : Int) : Option (List UInt8) := if 0 ≤ lo ∧ lo ≤ hi ∧ hi ≤ (l.length : Int) then some ((l.take hi.toNat).drop lo.toNat) else none

theorem ba_beq (a b : ByteArray) : (a.toList == b.toList) = decide (a = b) := by
  by_cases h : a = b
  · subst h; simp
  · rw [decide_eq_false h, Bool.eq_false_iff]
    intro q
    have q := beq_iff_eq.1 q
    rw [ByteArray.toList_eq, ByteArray.toList_eq] at q
    exact h (ByteArray.ext (Array.ext' q))
theorem B_eq (a b : List UInt8) : decide (B a = B b) = decide (a = b) := decide_eq_decide.2 ⟨B_inj, fun h => by rw [h]⟩
theorem q_str_add {t ty : TypeId} (hu : P.underlying t = some .string) {x y : Operand} {a b r : List UInt8} (ho : o.op = .binOp .add t x y ty) (hx : ρ x = .string (B a)) (hy : ρ y = .string (B b)) (hr : addS a b = some r) : QV P w0 o ρ L (.string (B r)) :=
  q_of fun w _ => by
    unfold addS at hr
    split at hr
    · rename_i hl
      injection hr with hr
      subst hr
      refine run_binv ho (by rw [hx, hy]; rfl) ?_
      rw [hx, hy]
      have hm : ¬ (((B a).size + (B b).size : Nat) : Int) > IntKind.i64.max := by
        have : IntKind.i64.max = 9223372036854775807 := rfl
        rw [this, B_size, B_size]; omega
      simp only [binOp, Op.stringOp]
      rw [if_neg hm, B_app]; rfl
    · cases hr
theorem q_str_eq {t ty : TypeId} (hu : P.underlying t = some .string) {x y : Operand} {a b : List UInt8} (ho : o.op = .binOp .eql t x y ty) (hx : ρ x = .string (B a)) (hy : ρ y = .string (B b)) : QV P w0 o ρ L (.bool (decide (a = b))) :=
  q_of fun w _ => by
    refine run_binv ho (by rw [hx, hy]; rfl) ?_
    rw [hx, hy]
    simp only [binOp, Op.stringOp]
    rw [ba_beq, B_eq]; rfl
theorem q_str_ne {t ty : TypeId} (hu : P.underlying t = some .string) {x y : Operand} {a b : List UInt8} (ho : o.op = .binOp .neq t x y ty) (hx : ρ x = .string (B a)) (hy : ρ y = .string (B b)) : QV P w0 o ρ L (.bool (!decide (a = b))) :=
  q_of fun w _ => by
    refine run_binv ho (by rw [hx, hy]; rfl) ?_
    rw [hx, hy]
    simp only [binOp, Op.stringOp]
    rw [ba_beq, B_eq]; rfl
theorem q_index_str {t : TypeId} (hs : P.underlying t = some .string) {x y : Operand} {s : List UInt8} {k : IntKind} {i c : Int} (ho : o.op = .index t x y) (hx : ρ x = .string (B s)) (hy : ρ y = .int k i) (hc : idxS s i = some c) : QV P w0 o ρ L (.int .u8 c) :=
  q_of fun w _ => by
    unfold idxS at hc
    split at hc
    · rename_i h0
      split at hc
      · rename_i b hb
        injection hc with hc
        subst hc
        simp only [execOp, ho, hx, hy]
        refine run_v ?_
        simp only [Instr.index, asIntOf, Sem.run_bind, Sem.run_pure, Result.andThen_ok, run_underlying hs w, h0, if_true, B_get, hb]
      · cases hc
    · cases hc
theorem q_slice_hi {t : TypeId} (hs : P.underlying t = some .string) {x hi : Operand} {s r : List UInt8} {k : IntKind} {i : Int} (ho : o.op = .slice t x none (some hi) none) (hx : ρ x = .string (B s)) (hh : ρ hi = .int k i) (hr : subS s 0 i = some r) : QV P w0 o ρ L (.string (B r)) :=
  q_of fun w _ => by
    unfold subS at hr
    split at hr
    · rename_i hb
      injection hr with hr
      subst hr
      have h1 : (0 : Int) ≤ i ∧ i ≤ (((B s).size : Nat) : Int) := by rw [B_size]; omega
      simp only [execOp, ho, hx, hh, Option.map_some, Option.map_none]
      refine run_v ?_
      simp only [Instr.sliceAt, Instr.slice, Sem.run_bind, run_underlying hs w, Result.andThen_ok, Instr.sliceBounds, Instr.sliceBound, asIntOf, Sem.run_pure, h1, and_self, if_true, Option.isSome_none, Bool.false_eq_true, if_false]
      rw [B_sub]; rfl
    · cases hr
theorem q_slice_lo {t : TypeId} (hs : P.underlying t = some .string) {x lo : Operand} {s r : List UInt8} {k : IntKind} {i : Int} (ho : o.op = .slice t x (some lo) none none) (hx : ρ x = .string (B s)) (hh : ρ lo = .int k i) (hr : subS s i s.length = some r) : QV P w0 o ρ L (.string (B r)) :=
  q_of fun w _ => by
    unfold subS at hr
    split at hr
    · rename_i hb
      injection hr with hr
      subst hr
      have h1 : (0 : Int) ≤ i ∧ i ≤ (((B s).size : Nat) : Int) := by rw [B_size]; omega
      simp only [execOp, ho, hx, hh, Option.map_some, Option.map_none]
      refine run_v ?_
      simp only [Instr.sliceAt, Instr.slice, Sem.run_bind, run_underlying hs w, Result.andThen_ok, Instr.sliceBounds, Instr.sliceBound, asIntOf, Sem.run_pure, h1, and_self, if_true, Option.isSome_none, Bool.false_eq_true, if_false]
      rw [B_sub, B_size]; rfl
    · cases hr
theorem q_slice_lh {t : TypeId} (hs : P.underlying t = some .string) {x lo hi : Operand} {s r : List UInt8} {k k' : IntKind} {i j : Int} (ho : o.op = .slice t x (some lo) (some hi) none) (hx : ρ x = .string (B s)) (hl : ρ lo = .int k i) (hh : ρ hi = .int k' j) (hr : subS s i j = some r) : QV P w0 o ρ L (.string (B r)) :=
  q_of fun w _ => by
    unfold subS at hr
    split at hr
    · rename_i hb
      injection hr with hr
      subst hr
      have h1 : (0 : Int) ≤ j ∧ j ≤ (((B s).size : Nat) : Int) := by rw [B_size]; omega
      have h2 : (0 : Int) ≤ i ∧ i ≤ ((j.toNat : Nat) : Int) := by omega
      simp only [execOp, ho, hx, hl, hh, Option.map_some, Option.map_none]
      refine run_v ?_
      simp only [Instr.sliceAt, Instr.slice, Sem.run_bind, run_underlying hs w, Result.andThen_ok, Instr.sliceBounds, Instr.sliceBound, asIntOf, Sem.run_pure, h1, h2, and_self, if_true, Option.isSome_none, Bool.false_eq_true, if_false]
      rw [B_sub]
    · cases hr
/-- a whole array as a slice -/
theorem q_slice_all {t e len n : Nat} {b : Bool} (ha : P.underlying t = some (.array len e)) (hi : tinfo P e = some (b, n)) {x : Operand} {g off : Nat} (ho : o.op = .slice t x none none none) (hx : ρ x = .pointer (some ⟨g, off, none⟩)) (hl : len ≠ 0) : QV P w0 o ρ L (.slice (some ⟨g, off, none⟩) len len) :=
  q_of fun w _ => by
    simp only [execOp, ho, hx, Option.map_none]
    refine run_v ?_
    simp only [Instr.sliceAt, Sem.run_bind, run_underlying ha w, Result.andThen_ok, Instr.sureAddr, Instr.sliceBounds, Sem.run_pure, run_sizeOf' hi w, if_neg hl]
    simp [add_cell]
theorem q_max {c : Call} {x y : Operand} {k k' : IntKind} {a b : Int} (ho : o.op = .call c) (hc : c.callee = .builtin .max) (ha : c.args = #[x, y]) (hx : ρ x = .int k a) (hy : ρ y = .int k' b) : QV P w0 o ρ L (.int k (bif decide (b > a) then b else a)) :=
  q_of fun w _ => by
    have : (if b > a then b else a) = (bif decide (b > a) then b else a) := by by_cases q : b > a <;> simp [q]
    rw [← this]
    simp [execOp, ho, resolve, hc, ha, hx, hy, Sem.run_bind, invoke, builtin, Builtin.max_, Builtin.max2]
/-- the bytes of cells -/
def bytesV (l : List UInt8) : List Value := l.map fun c => .int .u8 (c.toNat : Int)
theorem q_bytes_str {s d e : TypeId} (hs : P.underlying s = some (.slice e)) (he : P.underlying e = some (.int .u8)) (hd : P.underlying d = some .string) {x : Operand} {g off len cap : Nat} {cs : List Value} {T : TypeId} {l : List UInt8}
    (ho : o.op = .convert s d x) (hx : ρ x = .slice (some ⟨g, off, none⟩) len cap) (hm : HasB L g cs T) (hl : l.length = len) (hv : (cs.drop off).take len = bytesV l) : QV P w0 o ρ L (.string (B l)) :=
  q_of fun w hw => by
    simp only [execOp, ho, hx]
    refine run_v ?_
    subst hl
    exact run_convert_bytes_back w s d e ⟨g, off, none⟩ cap l hs he hd (fun j hj => by
      rw [add_cell, HasB.cell hw hm]
      have h1 := congrArg (fun q => q[j]?) hv
      simp only [bytesV, List.getElem?_take, hj, if_true, List.getElem?_drop, List.getElem?_map, List.getElem?_eq_getElem hj, Option.map_some] at h1
      exact h1)
end
section
variable {P : Program} {w0 : World} {L0 : List Blk} {ops : List Oper} {q : Bool} {E : List (Nat × Kind)} {K : Act → List Blk → Prop} {n : Nat} {l : List (Nat × Value)} {L : List Blk} {o : Oper} {rest : List Oper} {d : Tmp}
theorem k_len_str (hw : wantL ops n l o = true := by first | exact want_none (by eq_refl) | exact want_t (by eq_refl) (by eq_refl) (by eq_refl) (by with_reducible assumption) | exact want_f (by eq_refl) (by eq_refl) (by eq_refl) (by with_reducible assumption) | fail) (hd : o.dst = some d := by eq_refl) {t : Nat} {c : Call} {x : Operand} {s : List UInt8} (hk : Kind.okP (kf q E o) = true := by eq_refl) (ho : o.op = .call c := by eq_refl) (hc : c.callee = .builtin .len := by eq_refl) (ht : c.argTypes[0]? = some t := by eq_refl) (hs : P.underlying t = some .string := by exact st9) (ha : c.args = #[x] := by eq_refl) (hx : evO n l x = some (.string (B s)) := by eq_refl)
    (h : lexO P w0 L0 ops q E K rest (frm n ((d, .int .i64 (s.length : Int)) :: l)) L) : lexO P w0 L0 ops q E K (o :: rest) (frm n l) L :=
  k_val hw hd hk (fun L => by have := q_len_str (w0 := w0) (L := L) hs ho hc ht ha (evO_eq hx); rw [B_size] at this; exact this) h
theorem k_str_add (hw : wantL ops n l o = true := by first | exact want_none (by eq_refl) | exact want_t (by eq_refl) (by eq_refl) (by eq_refl) (by with_reducible assumption) | exact want_f (by eq_refl) (by eq_refl) (by eq_refl) (by with_reducible assumption) | fail) (hd : o.dst = some d := by eq_refl) {t ty : TypeId} {x y : Operand} {a b r : List UInt8} (hk : Kind.okP (kf q E o) = true := by eq_refl) (ho : o.op = .binOp .add t x y ty := by eq_refl) (hu : P.underlying t = some .string := by exact st9) (hx : evO n l x = some (.string (B a)) := by eq_refl) (hy : evO n l y = some (.string (B b)) := by eq_refl)
    (hr : addS a b = some r := by first | with_reducible assumption | eq_refl) (h : lexO P w0 L0 ops q E K rest (frm n ((d, .string (B r)) :: l)) L) : lexO P w0 L0 ops q E K (o :: rest) (frm n l) L :=
  k_val hw hd hk (fun L => q_str_add hu ho (evO_eq hx) (evO_eq hy) hr) h
theorem k_str_eq (hw : wantL ops n l o = true := by first | exact want_none (by eq_refl) | exact want_t (by eq_refl) (by eq_refl) (by eq_refl) (by with_reducible assumption) | exact want_f (by eq_refl) (by eq_refl) (by eq_refl) (by with_reducible assumption) | fail) (hd : o.dst = some d := by eq_refl) {t ty : TypeId} {x y : Operand} {a b : List UInt8} {e : Bool} (hk : Kind.okP (kf q E o) = true := by eq_refl) (ho : o.op = .binOp .eql t x y ty := by eq_refl) (hu : P.underlying t = some .string := by exact st9) (hx : evO n l x = some (.string (B a)) := by eq_refl) (hy : evO n l y = some (.string (B b)) := by eq_refl)
    (he : decide (a = b) = e := by first | with_reducible assumption | rfl) (h : lexO P w0 L0 ops q E K rest (frm n ((d, .bool e) :: l)) L) : lexO P w0 L0 ops q E K (o :: rest) (frm n l) L :=
  k_val hw hd hk (fun L => by rw [← he]; exact q_str_eq hu ho (evO_eq hx) (evO_eq hy)) h
theorem k_str_ne (hw : wantL ops n l o = true := by first | exact want_none (by eq_refl) | exact want_t (by eq_refl) (by eq_refl) (by eq_refl) (by with_reducible assumption) | exact want_f (by eq_refl) (by eq_refl) (by eq_refl) (by with_reducible assumption) | fail) (hd : o.dst = some d := by eq_refl) {t ty : TypeId} {x y : Operand} {a b : List UInt8} {e : Bool} (hk : Kind.okP (kf q E o) = true := by eq_refl) (ho : o.op = .binOp .neq t x y ty := by eq_refl) (hu : P.underlying t = some .string := by exact st9) (hx : evO n l x = some (.string (B a)) := by eq_refl) (hy : evO n l y = some (.string (B b)) := by eq_refl)
    (he : decide (a = b) = e := by first | with_reducible assumption | rfl) (h : lexO P w0 L0 ops q E K rest (frm n ((d, .bool (!e)) :: l)) L) : lexO P w0 L0 ops q E K (o :: rest) (frm n l) L :=
  k_val hw hd hk (fun L => by rw [← he]; exact q_str_ne hu ho (evO_eq hx) (evO_eq hy)) h
theorem k_index_str (hw : wantL ops n l o = true := by first | exact want_none (by eq_refl) | exact want_t (by eq_refl) (by eq_refl) (by eq_refl) (by with_reducible assumption) | exact want_f (by eq_refl) (by eq_refl) (by eq_refl) (by with_reducible assumption) | fail) (hd : o.dst = some d := by eq_refl) {t : TypeId} {x y : Operand} {s : List UInt8} {k : IntKind} {i c : Int} (hk : Kind.okP (kf q E o) = true := by eq_refl) (ho : o.op = .index t x y := by eq_refl) (hu : P.underlying t = some .string := by exact st9) (hx : evO n l x = some (.string (B s)) := by eq_refl) (hy : evO n l y = some (.int k i) := by eq_refl)
    (hc : idxS s i = some c := by first | with_reducible assumption | rfl) (h : lexO P w0 L0 ops q E K rest (frm n ((d, .int .u8 c) :: l)) L) : lexO P w0 L0 ops q E K (o :: rest) (frm n l) L :=
  k_val hw hd hk (fun L => q_index_str hu ho (evO_eq hx) (evO_eq hy) hc) h
theorem k_slice_hi (hw : wantL ops n l o = true := by first | exact want_none (by eq_refl) | exact want_t (by eq_refl) (by eq_refl) (by eq_refl) (by with_reducible assumption) | exact want_f (by eq_refl) (by eq_refl) (by eq_refl) (by with_reducible assumption) | fail) (hd : o.dst = some d := by eq_refl) {t : TypeId} {x hi : Operand} {s r : List UInt8} {k : IntKind} {i : Int} (hk : Kind.okP (kf q E o) = true := by eq_refl) (ho : o.op = .slice t x none (some hi) none := by eq_refl) (hu : P.underlying t = some .string := by exact st9) (hx : evO n l x = some (.string (B s)) := by eq_refl) (hy : evO n l hi = some (.int k i) := by eq_refl)
    (hr : subS s 0 i = some r := by first | with_reducible assumption | rfl) (h : lexO P w0 L0 ops q E K rest (frm n ((d, .string (B r)) :: l)) L) : lexO P w0 L0 ops q E K (o :: rest) (frm n l) L :=
  k_val hw hd hk (fun L => q_slice_hi hu ho (evO_eq hx) (evO_eq hy) hr) h
theorem k_slice_lo (hw : wantL ops n l o = true := by first | exact want_none (by eq_refl) | exact want_t (by eq_refl) (by eq_refl) (by eq_refl) (by with_reducible assumption) | exact want_f (by eq_refl) (by eq_refl) (by eq_refl) (by with_reducible assumption) | fail) (hd : o.dst = some d := by eq_refl) {t : TypeId} {x lo : Operand} {s r : List UInt8} {k : IntKind} {i : Int} (hk : Kind.okP (kf q E o) = true := by eq_refl) (ho : o.op = .slice t x (some lo) none none := by eq_refl) (hu : P.underlying t = some .string := by exact st9) (hx : evO n l x = some (.string (B s)) := by eq_refl) (hy : evO n l lo = some (.int k i) := by eq_refl)
    (hr : subS s i s.length = some r := by first | with_reducible assumption | rfl) (h : lexO P w0 L0 ops q E K rest (frm n ((d, .string (B r)) :: l)) L) : lexO P w0 L0 ops q E K (o :: rest) (frm n l) L :=
  k_val hw hd hk (fun L => q_slice_lo hu ho (evO_eq hx) (evO_eq hy) hr) h
theorem k_slice_lh (hw : wantL ops n l o = true := by first | exact want_none (by eq_refl) | exact want_t (by eq_refl) (by eq_refl) (by eq_refl) (by with_reducible assumption) | exact want_f (by eq_refl) (by eq_refl) (by eq_refl) (by with_reducible assumption) | fail) (hd : o.dst = some d := by eq_refl) {t : TypeId} {x lo hi : Operand} {s r : List UInt8} {k k' : IntKind} {i j : Int} (hk : Kind.okP (kf q E o) = true := by eq_refl) (ho : o.op = .slice t x (some lo) (some hi) none := by eq_refl) (hu : P.underlying t = some .string := by exact st9) (hx : evO n l x = some (.string (B s)) := by eq_refl) (hy : evO n l lo = some (.int k i) := by eq_refl) (hz : evO n l hi = some (.int k' j) := by eq_refl)
    (hr : subS s i j = some r := by first | with_reducible assumption | rfl) (h : lexO P w0 L0 ops q E K rest (frm n ((d, .string (B r)) :: l)) L) : lexO P w0 L0 ops q E K (o :: rest) (frm n l) L :=
  k_val hw hd hk (fun L => q_slice_lh hu ho (evO_eq hx) (evO_eq hy) (evO_eq hz) hr) h
theorem k_slice_all (hw : wantL ops n l o = true := by first | exact want_none (by eq_refl) | exact want_t (by eq_refl) (by eq_refl) (by eq_refl) (by with_reducible assumption) | exact want_f (by eq_refl) (by eq_refl) (by eq_refl) (by with_reducible assumption) | fail) (hd : o.dst = some d := by eq_refl) {t e len m : Nat} {b : Bool} {x : Operand} {g off : Nat} (hk : Kind.okP (kf q E o) = true := by eq_refl) (ho : o.op = .slice t x none none none := by eq_refl) (ha : P.underlying t = some (.array len e) := by exact ai (by eq_refl)) (hi : tinfo P e = some (b, m) := by exact ti (by eq_refl)) (hx : evO n l x = some (.pointer (some ⟨g, off, none⟩)) := by eq_refl) (hl : len ≠ 0 := by decide)
    (h : lexO P w0 L0 ops q E K rest (frm n ((d, .slice (some ⟨g, off, none⟩) len len) :: l)) L) : lexO P w0 L0 ops q E K (o :: rest) (frm n l) L :=
  k_val hw hd hk (fun L => q_slice_all ha hi ho (evO_eq hx) hl) h
theorem k_max (hw : wantL ops n l o = true := by first | exact want_none (by eq_refl) | exact want_t (by eq_refl) (by eq_refl) (by eq_refl) (by with_reducible assumption) | exact want_f (by eq_refl) (by eq_refl) (by eq_refl) (by with_reducible assumption) | fail) (hd : o.dst = some d := by eq_refl) {c : Call} {x y : Operand} {k k' : IntKind} {a b r : Int} (hk : Kind.okP (kf q E o) = true := by eq_refl) (ho : o.op = .call c := by eq_refl) (hc : c.callee = .builtin .max := by eq_refl) (ha : c.args = #[x, y] := by eq_refl) (hx : evO n l x = some (.int k a) := by eq_refl) (hy : evO n l y = some (.int k' b) := by eq_refl)
    (hr : (bif decide (b > a) then b else a) = r := by first | with_reducible assumption | rfl) (h : lexO P w0 L0 ops q E K rest (frm n ((d, .int k r) :: l)) L) : lexO P w0 L0 ops q E K (o :: rest) (frm n l) L :=
  k_val hw hd hk (fun L => by rw [← hr]; exact q_max ho hc ha (evO_eq hx) (evO_eq hy)) h
theorem spl_set (cs : List Value) (k : Nat) (v : Value) (h : k < cs.length) : Spl cs k [v] (cs.set k v) := by
  induction cs generalizing k with
  | nil => simp at h
  | cons c cs ih =>
    cases k with
    | zero => exact .put .done
    | succ k => exact .skip (ih k (by simpa using h))
theorem k_bytes_str (hw : wantL ops n l o = true := by first | exact want_none (by eq_refl) | exact want_t (by eq_refl) (by eq_refl) (by eq_refl) (by with_reducible assumption) | exact want_f (by eq_refl) (by eq_refl) (by eq_refl) (by with_reducible assumption) | fail) (hd : o.dst = some d := by eq_refl) {s t e : TypeId} {x : Operand} {g off len cap : Nat} {cs : List Value} {T : TypeId} {r : List UInt8} (hk : kf q E o = .quiet ∨ kf q E o = .eff := by first | exact Or.inl (by eq_refl) | exact Or.inr (by eq_refl) | fail) (ho : o.op = .convert s t x := by eq_refl) (hs : P.underlying s = some (.slice e) := by exact si (by eq_refl)) (he : P.underlying e = some (.int .u8) := by exact ii (by eq_refl)) (hu : P.underlying t = some .string := by exact st9) (hx : evO n l x = some (.slice (some ⟨g, off, none⟩) len cap) := by eq_refl)
    (hm : HasB L g cs T := by (repeat (first | apply HasB.here | apply HasB.next)); first | done | fail) (hl : r.length = len) (hv : (cs.drop off).take len = bytesV r)
    (h : lexO P w0 L0 ops q E K rest (frm n ((d, .string (B r)) :: l)) L) : lexO P w0 L0 ops q E K (o :: rest) (frm n l) L :=
  have hq : QV P w0 o (evL n l) L (.string (B r)) := q_bytes_str hs he hu ho (evO_eq hx) hm hl hv
  s_val hw (by rcases hk with hk | hk <;> rw [hk] <;> simp [Kind.val]) (fun _ => by rcases hk with hk | hk <;> rw [hk] <;> exact hq) hq (by rw [hd]; exact h)
end
end Go.Proofs.YtmgfabfmnachoaaDoor.Own
