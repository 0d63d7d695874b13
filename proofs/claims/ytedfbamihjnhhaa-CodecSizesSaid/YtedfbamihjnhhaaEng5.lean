/- An engine for walks, the fifth part: steps whose outcome is written out. -/
import Derived.Test.YtedfbamihjnhhaaEng4
namespace Go.Proofs.Ytedfbamihjnhhaa.Own
open Go Go.RowKit
set_option linter.unusedVariables false
set_option linter.unusedSimpArgs false
def lookO : List (Nat × Value) → Nat → Option Value
 | [], _ => none
 | (d, v) :: l, t => bif Nat.beq d t then some v else lookO l t
def evO (n : Nat) (l : List (Nat × Value)) : Operand → Option Value
 | .tmp t => bif Nat.blt t n then lookO l t else none
 | .const v => some v
 | .global g => some (.pointer (some ⟨g, 0, none⟩))
 | .func f => some (.func (.func f) #[] #[])
theorem lookO_eq : ∀ (l : List (Nat × Value)) (t : Nat) (v : Value), lookO l t = some v → look l t = v
 | [], _, _, h => by cases h
 | (d, u) :: l, t, v, h => by
  simp only [lookO] at h
  simp only [look]
  cases e : Nat.beq d t with
  | true => simp only [e, cond_true, Option.some.injEq] at h ⊢; exact h
  | false => simp only [e, cond_false] at h ⊢; exact lookO_eq l t v h
theorem evO_eq {n : Nat} {l : List (Nat × Value)} {x : Operand} {v : Value} (h : evO n l x = some v) : evL n l x = v := by
 cases x with
 | tmp t =>
  simp only [evO] at h
  simp only [evL]
  cases e : Nat.blt t n with
  | true => simp only [e, cond_true] at h ⊢; exact lookO_eq l t v h
  | false => simp only [e, cond_false] at h; cases h
 | const v => simpa [evO, evL] using h
 | global g => simpa [evO, evL] using h
 | func f => simpa [evO, evL] using h
theorem skip_u {ops : List Oper} {n : Nat} {l : List (Nat × Value)} {o : Oper} {j d : Nat} {want : Bool} (hg : o.guard = some (j, want)) (hd : (ops[j]?).bind (·.dst) = some d) (he : evO n l (.tmp d) = some (.tuple #[])) : wantL ops n l o = false := by
 simp [wantL, hg, hd, evO_eq he]
inductive Sub : List Value → Nat → Nat → List Value → Prop where
 | done {cs} : Sub cs 0 0 []
 | take {c cs n vs} (h : Sub cs 0 n vs) : Sub (c :: cs) 0 (n + 1) (c :: vs)
 | skip {c cs off n vs} (h : Sub cs off n vs) : Sub (c :: cs) (off + 1) n vs
theorem Sub.eq {cs : List Value} {off n : Nat} {vs : List Value} (h : Sub cs off n vs) : (cs.drop off).take n = vs ∧ vs.length = n := by
 induction h with
 | done => simp
 | take _ ih => simp at ih ⊢; exact ih
 | skip _ ih => simpa using ih
inductive Get : List Value → Nat → Value → Prop where
 | here {c cs} : Get (c :: cs) 0 c
 | next {c cs i v} (h : Get cs i v) : Get (c :: cs) (i + 1) v
theorem Get.eq {cs : List Value} {i : Nat} {v : Value} (h : Get cs i v) : cs[i]? = some v := by
 induction h with
 | here => rfl
 | next _ ih => simpa using ih
inductive Spl : List Value → Nat → List Value → List Value → Prop where
 | done {cs} : Spl cs 0 [] cs
 | put {c cs v vs cs'} (h : Spl cs 0 vs cs') : Spl (c :: cs) 0 (v :: vs) (v :: cs')
 | skip {c cs off vs cs'} (h : Spl cs off vs cs') : Spl (c :: cs) (off + 1) vs (c :: cs')
theorem Spl.eq {cs : List Value} {off : Nat} {vs cs' : List Value} (h : Spl cs off vs cs') : splice cs off vs = cs' ∧ off + vs.length ≤ cs.length := by
 induction h with
 | done => simp [splice]
 | @put c cs v vs cs' _ ih =>
  obtain ⟨h1, h2⟩ := ih
  refine ⟨?_, by simp at h2 ⊢; omega⟩
  rw [splice_cons _ _ _ _ (by simp at h2 ⊢; omega), ← h1]
  simp [splice]
  rw [Nat.add_comm 1 vs.length]; simp
 | @skip c cs off vs cs' _ ih =>
  obtain ⟨h1, h2⟩ := ih
  refine ⟨?_, by simp; omega⟩
  rw [← h1]
  simp only [splice, List.take_succ_cons, List.cons_append]
  rw [show off + 1 + vs.length = (off + vs.length) + 1 from by omega, List.drop_succ_cons]
inductive CellsR : Value → List Value → Prop where
 | agg {vs} : CellsR (.agg (List.toArray vs)) vs
 | one {v} (h : oneC v = true) : CellsR v [v]
theorem CellsR.eq {v : Value} {vs : List Value} (h : CellsR v vs) : v.cells.toList = vs := by
 cases h with
 | agg => rfl
 | one h => cases v <;> simp [oneC] at h <;> rfl
inductive ArgsR (n : Nat) (l : List (Nat × Value)) : List Operand → List Value → Prop where
 | nil : ArgsR n l [] []
 | cons {x xs v vs} (h : evO n l x = some v) (t : ArgsR n l xs vs) : ArgsR n l (x :: xs) (v :: vs)
theorem ArgsR.eq {n : Nat} {l : List (Nat × Value)} {xs : List Operand} {vs : List Value} (h : ArgsR n l xs vs) : xs.toArray.map (evL n l) = vs.toArray := by
 induction h with
 | nil => simp
 | cons h _ ih => simp [evO_eq h] at ih ⊢; exact ih
inductive FillR (n : Nat) (l : List (Nat × Value)) (pl : List (Nat × Nat)) : List Value → List (Nat × Operand) → List Value → Prop where
 | nil {cs} : FillR n l pl cs [] cs
 | cons {cs i x r v vs cs1 cs' off m} (h : evO n l x = some v) (hp : pl[i]? = some (off, m)) (hc : CellsR v vs) (hs : Spl cs off vs cs1) (hm : Nat.beq vs.length m = true) (t : FillR n l pl cs1 r cs') : FillR n l pl cs ((i, x) :: r) cs'
theorem FillR.eq {n : Nat} {l : List (Nat × Value)} {pl : List (Nat × Nat)} {cs : List Value} {ps : List (Nat × Operand)} {cs' : List Value} (h : FillR n l pl cs ps cs') : fillL pl cs (ps.map fun x => (x.1, evL n l x.2)) = some cs' := by
 induction h with
 | nil => rfl
 | @cons cs i x r v vs cs1 cs' off m h hp hc hs hm t ih =>
  obtain ⟨h1, h2⟩ := hs.eq
  have hm := Nat.eq_of_beq_eq_true hm
  have hsz : v.cells.size = vs.length := by rw [← hc.eq]; simp
  simp only [List.map_cons, fillL, hp, evO_eq h]
  have : (Nat.beq v.cells.size m && Nat.ble (off + v.cells.size) cs.length) = true := by
   rw [hsz, hm]; simp [Nat.ble_eq]; omega
  rw [this, cond_true, hc.eq, h1]
  exact ih
inductive BaseOK : Kind → List Blk → List Blk → Nat → List Value → TypeId → Prop where
 | no {k : Kind} {L0 L : List Blk} {g : Nat} {cs : List Value} {T : TypeId} (h : (match k with | .quiet | .eff => true | _ => false) = true) : BaseOK k L0 L g cs T
 | yes {L0 L : List Blk} {g : Nat} {cs : List Value} {T : TypeId} (h : HasB L0 g cs T) (hi : ∀ b ∈ L0, b ∈ L) : BaseOK .base L0 L g cs T
inductive Incl : List Blk → List Blk → Prop where
 | refl (A : List Blk) : Incl A A
 | cons {A M : List Blk} {b : Blk} (h : Incl A M) : Incl A (b :: M)
inductive SubL : List Blk → List Blk → Prop where
 | nil {A : List Blk} : SubL [] A
 | cons {A B : List Blk} {g : Nat} {cs : List Value} {t : TypeId} (h : HasB A g cs t) (r : SubL B A) : SubL ((g, cs, t) :: B) A
theorem SubL.sub {A B : List Blk} (h : SubL B A) : ∀ b ∈ B, b ∈ A := by
 induction h with
 | nil => intro b hb; cases hb
 | cons h _ ih =>
  intro b hb
  rcases List.mem_cons.1 hb with rfl | hb
  ·exact h.mem
  ·exact ih b hb
theorem BaseOK.yesS {L0 L : List Blk} {g : Nat} {cs : List Value} {T : TypeId} (h : HasB L0 g cs T) (hi : SubL L0 L) : BaseOK .base L0 L g cs T := .yes h hi.sub
theorem st_no {k : Kind} {A B : List Blk} (h : (match k with | .eff0 => false | _ => true) = true) : k = .eff0 → ∀ b ∈ A, b ∈ B := fun e => by subst e; cases h
theorem st_yes {k : Kind} {A B : List Blk} (h : ∀ b ∈ A, b ∈ B) : k = .eff0 → ∀ b ∈ A, b ∈ B := fun _ => h
section
variable {P : Program} {w0 : World} {L0 : List Blk} {ops rest : List Oper} {q : Bool} {E : List (Nat × Kind)} {K : Act → List Blk → Prop} {n : Nat} {l : List (Nat × Value)} {L : List Blk} {o : Oper} {d : Nat}
theorem want_none (h : o.guard = none) : wantL ops n l o = true := by simp [wantL, h]
def Kind.okP : Kind → Bool | .pure | .quiet | .eff => true | _ => false
theorem k_val {v : Value} (hw : wantL ops n l o = true) (hd : o.dst = some d) (hk : Kind.okP (kf q E o) = true) (hv : ∀ L, QV P w0 o (evL n l) L v) (h : lexO P w0 L0 ops q E K rest (frm n ((d, v) :: l)) L) : lexO P w0 L0 ops q E K (o :: rest) (frm n l) L := by
 refine s_val hw ?_ ?_ (hv L) (by rw [hd]; exact h)
 ·revert hk; cases kf q E o <;> simp [Kind.okP, Kind.val]
 ·intro _
  revert hk
  cases kf q E o <;> intro hk <;> simp [Kind.okP] at hk
  ·exact hv
  ·exact hv L
  ·exact hv L
theorem HasB.of_mem {L : List Blk} {g : Nat} {cs : List Value} {t : TypeId} (h : (g, cs, t) ∈ L) : HasB L g cs t := by
 induction L with
 | nil => cases h
 | cons b L ih =>
  rcases List.mem_cons.1 h with rfl | h
  ·exact .here
  ·exact .next (ih h)
theorem Incl.sub {L M : List Blk} (h : Incl L M) : ∀ b ∈ L, b ∈ M := by
 induction h with
 | refl => exact fun b hb => hb
 | cons _ ih => exact fun b hb => .tail _ (ih b hb)
theorem BaseOK.yesI {L0 L : List Blk} {g : Nat} {cs : List Value} {T : TypeId} (h : HasB L0 g cs T) (hi : Incl L0 L) : BaseOK .base L0 L g cs T := .yes h hi.sub
theorem k_memv {v : Value} {g : Nat} {cs : List Value} {T : TypeId} (hw : wantL ops n l o = true) (hd : o.dst = some d) (hm : HasB L g cs T) (hb : BaseOK (kf q E o) L0 L g cs T) (hv : ∀ M, HasB M g cs T → QV P w0 o (evL n l) M v)
  (h : lexO P w0 L0 ops q E K rest (frm n ((d, v) :: l)) L) : lexO P w0 L0 ops q E K (o :: rest) (frm n l) L := by
 refine s_val hw ?_ ?_ (hv L hm) (by rw [hd]; exact h)
 ·revert hb
  generalize kf q E o = k
  intro hb
  cases hb with
  | no h => revert h; cases k <;> simp [Kind.val]
  | yes _ _ => exact .inl rfl
 ·intro hval
  revert hb hval
  generalize kf q E o = k
  intro hb hval
  cases hb with
  | no h =>
   cases k <;> simp at h
   ·exact hv L hm
   ·exact hv L hm
  | yes h0 hi => exact ⟨hi, fun M hM => hv M (HasB.of_mem (hM _ h0.mem))⟩
theorem k_skip (hw : wantL ops n l o = false := by first | exact skip_t (by eq_refl) (by eq_refl) (by eq_refl) (by with_reducible assumption) | exact skip_f (by eq_refl) (by eq_refl) (by eq_refl) (by with_reducible assumption) | exact skip_u (by eq_refl) (by eq_refl) (by eq_refl) | fail) (hd : o.dst = some d := by eq_refl) (h : lexO P w0 L0 ops q E K rest (frm n ((d, undef) :: l)) L) : lexO P w0 L0 ops q E K (o :: rest) (frm n l) L := s_skip hw (by rw [hd]; exact h)
theorem k_move (hw : wantL ops n l o = true := by first | exact want_none (by eq_refl) | exact want_t (by eq_refl) (by eq_refl) (by eq_refl) (by with_reducible assumption) | exact want_f (by eq_refl) (by eq_refl) (by eq_refl) (by with_reducible assumption) | fail) (hd : o.dst = some d := by eq_refl) {x : Operand} {v : Value} (hk : Kind.okP (kf q E o) = true := by eq_refl) (ho : o.op = .move x := by eq_refl) (hx : evO n l x = some v := by eq_refl) (h : lexO P w0 L0 ops q E K rest (frm n ((d, v) :: l)) L) : lexO P w0 L0 ops q E K (o :: rest) (frm n l) L :=
 k_val hw hd hk (fun L => by have := q_move (P := P) (w0 := w0) (L := L) (ρ := evL n l) ho; rwa [evO_eq hx] at this) h
theorem k_assign (hw : wantL ops n l o = true := by first | exact want_none (by eq_refl) | exact want_t (by eq_refl) (by eq_refl) (by eq_refl) (by with_reducible assumption) | exact want_f (by eq_refl) (by eq_refl) (by eq_refl) (by with_reducible assumption) | fail) (hd : o.dst = some d := by eq_refl) {x : Operand} {v : Value} (hk : Kind.okP (kf q E o) = true := by eq_refl) (ho : o.op = .assign x := by eq_refl) (hx : evO n l x = some v := by eq_refl) (h : lexO P w0 L0 ops q E K rest (frm n ((d, v) :: l)) L) : lexO P w0 L0 ops q E K (o :: rest) (frm n l) L :=
 k_val hw hd hk (fun L => by have := q_assign (P := P) (w0 := w0) (L := L) (ρ := evL n l) ho; rwa [evO_eq hx] at this) h
theorem k_load_agg (hw : wantL ops n l o = true := by first | exact want_none (by eq_refl) | exact want_t (by eq_refl) (by eq_refl) (by eq_refl) (by with_reducible assumption) | exact want_f (by eq_refl) (by eq_refl) (by eq_refl) (by with_reducible assumption) | fail) (hd : o.dst = some d := by eq_refl) {t : TypeId} {m : Nat} {x : Operand} {g off : Nat} {cs vs : List Value} {T : TypeId} (ho : o.op = .load t x := by eq_refl) (hi : tinfo P t = some (true, m) := by exact ti (by eq_refl)) (hx : evO n l x = some (.pointer (some ⟨g, off, none⟩)) := by eq_refl) (hm : HasB L g cs T := by (repeat (first | apply HasB.here | apply HasB.next)); first | done | fail) (hb : BaseOK (kf q E o) L0 L g cs T := by first | exact BaseOK.no (by eq_refl) | exact BaseOK.yesI (by (repeat (first | apply HasB.here | apply HasB.next)); first | done | fail) (by (repeat (first | apply Incl.refl | apply Incl.cons)); first | done | fail) | exact BaseOK.yesS (by (repeat (first | apply HasB.here | apply HasB.next)); first | done | fail) (by (repeat (first | apply SubL.nil | apply SubL.cons (by (repeat (first | apply HasB.here | apply HasB.next)); first | done | fail))); first | done | fail) | fail) (hv : Sub cs off m vs := by (repeat (first | apply Sub.done | apply Sub.take | apply Sub.skip)); first | done | fail)
  (h : lexO P w0 L0 ops q E K rest (frm n ((d, .agg (List.toArray vs)) :: l)) L) : lexO P w0 L0 ops q E K (o :: rest) (frm n l) L :=
 k_memv hw hd hm hb (fun M hM => q_load_agg (hi := hi) ho (evO_eq hx) hM hv.eq.1 hv.eq.2) h
theorem k_load_one (hw : wantL ops n l o = true := by first | exact want_none (by eq_refl) | exact want_t (by eq_refl) (by eq_refl) (by eq_refl) (by with_reducible assumption) | exact want_f (by eq_refl) (by eq_refl) (by eq_refl) (by with_reducible assumption) | fail) (hd : o.dst = some d := by eq_refl) {t : TypeId} {m : Nat} {x : Operand} {g off : Nat} {cs : List Value} {v : Value} {T : TypeId} (ho : o.op = .load t x := by eq_refl) (hi : tinfo P t = some (false, m) := by exact ti (by eq_refl)) (hx : evO n l x = some (.pointer (some ⟨g, off, none⟩)) := by eq_refl) (hm : HasB L g cs T := by (repeat (first | apply HasB.here | apply HasB.next)); first | done | fail) (hb : BaseOK (kf q E o) L0 L g cs T := by first | exact BaseOK.no (by eq_refl) | exact BaseOK.yesI (by (repeat (first | apply HasB.here | apply HasB.next)); first | done | fail) (by (repeat (first | apply Incl.refl | apply Incl.cons)); first | done | fail) | exact BaseOK.yesS (by (repeat (first | apply HasB.here | apply HasB.next)); first | done | fail) (by (repeat (first | apply SubL.nil | apply SubL.cons (by (repeat (first | apply HasB.here | apply HasB.next)); first | done | fail))); first | done | fail) | fail) (hv : Get cs off v := by (repeat (first | apply Get.here | apply Get.next)); first | done | fail)
  (h : lexO P w0 L0 ops q E K rest (frm n ((d, v) :: l)) L) : lexO P w0 L0 ops q E K (o :: rest) (frm n l) L :=
 k_memv hw hd hm hb (fun M hM => q_load_one (hi := hi) ho (evO_eq hx) hM hv.eq) h
theorem k_field_agg (hw : wantL ops n l o = true := by first | exact want_none (by eq_refl) | exact want_t (by eq_refl) (by eq_refl) (by eq_refl) (by with_reducible assumption) | exact want_f (by eq_refl) (by eq_refl) (by eq_refl) (by with_reducible assumption) | fail) (hd : o.dst = some d := by eq_refl) {t i off m : Nat} {x : Operand} {cs vs : List Value} (hk : Kind.okP (kf q E o) = true := by eq_refl) (ho : o.op = .field t x i := by eq_refl) (hi : finfo P t i = some (off, true, m) := by exact fi (by eq_refl)) (hx : evO n l x = some (.agg (List.toArray cs)) := by eq_refl) (hv : Sub cs off m vs := by (repeat (first | apply Sub.done | apply Sub.take | apply Sub.skip)); first | done | fail)
  (h : lexO P w0 L0 ops q E K rest (frm n ((d, .agg (List.toArray vs)) :: l)) L) : lexO P w0 L0 ops q E K (o :: rest) (frm n l) L :=
 k_val hw hd hk (fun L => q_field_agg (hi := hi) ho (evO_eq hx) hv.eq.1) h
theorem k_fieldAddr (hw : wantL ops n l o = true := by first | exact want_none (by eq_refl) | exact want_t (by eq_refl) (by eq_refl) (by eq_refl) (by with_reducible assumption) | exact want_f (by eq_refl) (by eq_refl) (by eq_refl) (by with_reducible assumption) | fail) (hd : o.dst = some d := by eq_refl) {t i off m : Nat} {b : Bool} {x : Operand} {g k k' : Nat} (hk : Kind.okP (kf q E o) = true := by eq_refl) (ho : o.op = .fieldAddr t x i := by eq_refl) (hi : finfo P t i = some (off, b, m) := by exact fi (by eq_refl)) (hn : Nat.beq m 0 = false := by eq_refl) (hx : evO n l x = some (.pointer (some ⟨g, k, none⟩)) := by eq_refl) (hkk : k + off = k' := by first | exact Nat.zero_add _ | exact Nat.add_zero _ | eq_refl | fail)
  (h : lexO P w0 L0 ops q E K rest (frm n ((d, .pointer (some ⟨g, k', none⟩)) :: l)) L) : lexO P w0 L0 ops q E K (o :: rest) (frm n l) L :=
 k_val hw hd hk (fun L => q_fieldAddr (hi := hi) ho hn (evO_eq hx)) (by subst hkk; exact h)
theorem k_extract (hw : wantL ops n l o = true := by first | exact want_none (by eq_refl) | exact want_t (by eq_refl) (by eq_refl) (by eq_refl) (by with_reducible assumption) | exact want_f (by eq_refl) (by eq_refl) (by eq_refl) (by with_reducible assumption) | fail) (hd : o.dst = some d := by eq_refl) {x : Operand} {vs : List Value} {v : Value} {i : Nat} (hk : Kind.okP (kf q E o) = true := by eq_refl) (ho : o.op = .extract x i := by eq_refl) (hx : evO n l x = some (.tuple (List.toArray vs)) := by eq_refl) (hv : Get vs i v := by (repeat (first | apply Get.here | apply Get.next)); first | done | fail) (h : lexO P w0 L0 ops q E K rest (frm n ((d, v) :: l)) L) : lexO P w0 L0 ops q E K (o :: rest) (frm n l) L :=
 k_val hw hd hk (fun L => q_extract ho (evO_eq hx) hv.eq) h
theorem k_pick_t (hw : wantL ops n l o = true := by first | exact want_none (by eq_refl) | exact want_t (by eq_refl) (by eq_refl) (by eq_refl) (by with_reducible assumption) | exact want_f (by eq_refl) (by eq_refl) (by eq_refl) (by with_reducible assumption) | fail) (hd : o.dst = some d := by eq_refl) {c x y : Operand} {b : Bool} {v : Value} (hk : Kind.okP (kf q E o) = true := by eq_refl) (ho : o.op = .pick c x y := by eq_refl) (hc : evO n l c = some (.bool b) := by eq_refl) (hb : b = true := by first | with_reducible assumption | with_reducible eq_refl | fail) (hx : evO n l x = some v := by eq_refl) (h : lexO P w0 L0 ops q E K rest (frm n ((d, v) :: l)) L) : lexO P w0 L0 ops q E K (o :: rest) (frm n l) L :=
 k_val hw hd hk (fun L => q_pick_t ho (evO_eq hc) hb (evO_eq hx)) h
theorem k_pick_f (hw : wantL ops n l o = true := by first | exact want_none (by eq_refl) | exact want_t (by eq_refl) (by eq_refl) (by eq_refl) (by with_reducible assumption) | exact want_f (by eq_refl) (by eq_refl) (by eq_refl) (by with_reducible assumption) | fail) (hd : o.dst = some d := by eq_refl) {c x y : Operand} {b : Bool} {v : Value} (hk : Kind.okP (kf q E o) = true := by eq_refl) (ho : o.op = .pick c x y := by eq_refl) (hc : evO n l c = some (.bool b) := by eq_refl) (hb : b = false := by first | with_reducible assumption | with_reducible eq_refl | fail) (hy : evO n l y = some v := by eq_refl) (h : lexO P w0 L0 ops q E K rest (frm n ((d, v) :: l)) L) : lexO P w0 L0 ops q E K (o :: rest) (frm n l) L :=
 k_val hw hd hk (fun L => q_pick_f ho (evO_eq hc) hb (evO_eq hy)) h
theorem k_build (hw : wantL ops n l o = true := by first | exact want_none (by eq_refl) | exact want_t (by eq_refl) (by eq_refl) (by eq_refl) (by with_reducible assumption) | exact want_f (by eq_refl) (by eq_refl) (by eq_refl) (by with_reducible assumption) | fail) (hd : o.dst = some d := by eq_refl) {t : TypeId} {z : List Value} {pl : List (Nat × Nat)} {parts : List (Nat × Operand)} {cs : List Value} (hk : Kind.okP (kf q E o) = true := by eq_refl) (ho : o.op = .build t (List.toArray parts) := by eq_refl) (hi : BI P t z pl := by exact biOf (by eq_refl)) (hf : FillR n l pl z parts cs := by (repeat (first | apply FillR.nil | apply FillR.cons (by eq_refl) (by eq_refl) (by first | apply CellsR.agg | exact CellsR.one (by eq_refl) | fail) (by (repeat (first | apply Spl.done | apply Spl.put | apply Spl.skip)); first | done | fail) (by eq_refl))); first | done | fail)
  (h : lexO P w0 L0 ops q E K rest (frm n ((d, .agg (List.toArray cs)) :: l)) L) : lexO P w0 L0 ops q E K (o :: rest) (frm n l) L :=
 k_val hw hd hk (fun L => q_build (hi := hi) ho rfl (by simpa using hf.eq)) h
theorem k_bin (hw : wantL ops n l o = true := by first | exact want_none (by eq_refl) | exact want_t (by eq_refl) (by eq_refl) (by eq_refl) (by with_reducible assumption) | exact want_f (by eq_refl) (by eq_refl) (by eq_refl) (by with_reducible assumption) | fail) (hd : o.dst = some d := by eq_refl) {op : BinOp} {t ty : TypeId} {x y : Operand} {k : IntKind} {a b : Int} {v : Value} (hk : Kind.okP (kf q E o) = true := by eq_refl) (ho : o.op = .binOp op t x y ty := by eq_refl) (hx : evO n l x = some (.int k a) := by eq_refl) (hy : evO n l y = some (.int k b) := by eq_refl) (hv : arith op k a b = some v := by first | with_reducible assumption | eq_refl)
  (h : lexO P w0 L0 ops q E K rest (frm n ((d, v) :: l)) L) : lexO P w0 L0 ops q E K (o :: rest) (frm n l) L :=
 k_val hw hd hk (fun L => q_bin ho (evO_eq hx) (evO_eq hy) hv) h
theorem k_quo (hw : wantL ops n l o = true := by first | exact want_none (by eq_refl) | exact want_t (by eq_refl) (by eq_refl) (by eq_refl) (by with_reducible assumption) | exact want_f (by eq_refl) (by eq_refl) (by eq_refl) (by with_reducible assumption) | fail) (hd : o.dst = some d := by eq_refl) {t ty : TypeId} {x y : Operand} {k : IntKind} {a b : Int} (hk : Kind.okP (kf q E o) = true := by eq_refl) (ho : o.op = .binOp .quo t x y ty := by eq_refl) (hx : evO n l x = some (.int k a) := by eq_refl) (hy : evO n l y = some (.int k b) := by eq_refl) (hb : (b == 0) = false := by first | with_reducible assumption | eq_refl) {r : Int} (hc : k.wrap (a.tdiv b) = r := by first | with_reducible assumption | eq_refl)
  (h : lexO P w0 L0 ops q E K rest (frm n ((d, .int k r) :: l)) L) : lexO P w0 L0 ops q E K (o :: rest) (frm n l) L :=
 k_val hw hd hk (fun L => q_quo ho (evO_eq hx) (evO_eq hy) hb) (by rw [hc]; exact h)
theorem k_rem (hw : wantL ops n l o = true := by first | exact want_none (by eq_refl) | exact want_t (by eq_refl) (by eq_refl) (by eq_refl) (by with_reducible assumption) | exact want_f (by eq_refl) (by eq_refl) (by eq_refl) (by with_reducible assumption) | fail) (hd : o.dst = some d := by eq_refl) {t ty : TypeId} {x y : Operand} {k : IntKind} {a b : Int} (hk : Kind.okP (kf q E o) = true := by eq_refl) (ho : o.op = .binOp .rem t x y ty := by eq_refl) (hx : evO n l x = some (.int k a) := by eq_refl) (hy : evO n l y = some (.int k b) := by eq_refl) (hb : (b == 0) = false := by first | with_reducible assumption | eq_refl) {r : Int} (hc : a.tmod b = r := by first | with_reducible assumption | eq_refl)
  (h : lexO P w0 L0 ops q E K rest (frm n ((d, .int k r) :: l)) L) : lexO P w0 L0 ops q E K (o :: rest) (frm n l) L :=
 k_val hw hd hk (fun L => q_rem ho (evO_eq hx) (evO_eq hy) hb) (by rw [hc]; exact h)
theorem k_shl (hw : wantL ops n l o = true := by first | exact want_none (by eq_refl) | exact want_t (by eq_refl) (by eq_refl) (by eq_refl) (by with_reducible assumption) | exact want_f (by eq_refl) (by eq_refl) (by eq_refl) (by with_reducible assumption) | fail) (hd : o.dst = some d := by eq_refl) {t ty : TypeId} {x y : Operand} {k k' : IntKind} {a b : Int} (hk : Kind.okP (kf q E o) = true := by eq_refl) (ho : o.op = .binOp .shl t x y ty := by eq_refl) (hx : evO n l x = some (.int k a) := by eq_refl) (hy : evO n l y = some (.int k' b) := by eq_refl) (hb : decide (b < 0) = false := by first | with_reducible assumption | eq_refl) {r : Int} (hc : k.wrap (a * 2 ^ (min b.toNat k.bits)) = r := by first | with_reducible assumption | eq_refl)
  (h : lexO P w0 L0 ops q E K rest (frm n ((d, .int k r) :: l)) L) : lexO P w0 L0 ops q E K (o :: rest) (frm n l) L :=
 k_val hw hd hk (fun L => q_shl ho (evO_eq hx) (evO_eq hy) hb) (by rw [hc]; exact h)
theorem k_shr (hw : wantL ops n l o = true := by first | exact want_none (by eq_refl) | exact want_t (by eq_refl) (by eq_refl) (by eq_refl) (by with_reducible assumption) | exact want_f (by eq_refl) (by eq_refl) (by eq_refl) (by with_reducible assumption) | fail) (hd : o.dst = some d := by eq_refl) {t ty : TypeId} {x y : Operand} {k k' : IntKind} {a b : Int} (hk : Kind.okP (kf q E o) = true := by eq_refl) (ho : o.op = .binOp .shr t x y ty := by eq_refl) (hx : evO n l x = some (.int k a) := by eq_refl) (hy : evO n l y = some (.int k' b) := by eq_refl) (hb : decide (b < 0) = false := by first | with_reducible assumption | eq_refl) {r : Int} (hc : a.fdiv (2 ^ (min b.toNat k.bits)) = r := by first | with_reducible assumption | eq_refl)
  (h : lexO P w0 L0 ops q E K rest (frm n ((d, .int k r) :: l)) L) : lexO P w0 L0 ops q E K (o :: rest) (frm n l) L :=
 k_val hw hd hk (fun L => q_shr ho (evO_eq hx) (evO_eq hy) hb) (by rw [hc]; exact h)
theorem k_eqb (hw : wantL ops n l o = true := by first | exact want_none (by eq_refl) | exact want_t (by eq_refl) (by eq_refl) (by eq_refl) (by with_reducible assumption) | exact want_f (by eq_refl) (by eq_refl) (by eq_refl) (by with_reducible assumption) | fail) (hd : o.dst = some d := by eq_refl) {t ty : TypeId} {x y : Operand} {a b : Bool} (hk : Kind.okP (kf q E o) = true := by eq_refl) (ho : o.op = .binOp .eql t x y ty := by eq_refl) (hi : P.underlying t = some .bool := by first | exact btA0 | fail) (hx : evO n l x = some (.bool a) := by eq_refl) (hy : evO n l y = some (.bool b) := by eq_refl)
  (h : lexO P w0 L0 ops q E K rest (frm n ((d, .bool (a == b)) :: l)) L) : lexO P w0 L0 ops q E K (o :: rest) (frm n l) L :=
 k_val hw hd hk (fun L => q_eqb (hi := hi) ho (evO_eq hx) (evO_eq hy)) h
theorem k_neb (hw : wantL ops n l o = true := by first | exact want_none (by eq_refl) | exact want_t (by eq_refl) (by eq_refl) (by eq_refl) (by with_reducible assumption) | exact want_f (by eq_refl) (by eq_refl) (by eq_refl) (by with_reducible assumption) | fail) (hd : o.dst = some d := by eq_refl) {t ty : TypeId} {x y : Operand} {a b : Bool} (hk : Kind.okP (kf q E o) = true := by eq_refl) (ho : o.op = .binOp .neq t x y ty := by eq_refl) (hi : P.underlying t = some .bool := by first | exact btA0 | fail) (hx : evO n l x = some (.bool a) := by eq_refl) (hy : evO n l y = some (.bool b) := by eq_refl)
  (h : lexO P w0 L0 ops q E K rest (frm n ((d, .bool (!(a == b))) :: l)) L) : lexO P w0 L0 ops q E K (o :: rest) (frm n l) L :=
 k_val hw hd hk (fun L => q_neb (hi := hi) ho (evO_eq hx) (evO_eq hy)) h
theorem k_eqs (hw : wantL ops n l o = true := by first | exact want_none (by eq_refl) | exact want_t (by eq_refl) (by eq_refl) (by eq_refl) (by with_reducible assumption) | exact want_f (by eq_refl) (by eq_refl) (by eq_refl) (by with_reducible assumption) | fail) (hd : o.dst = some d := by eq_refl) {t ty : TypeId} {x y : Operand} {xs ys : List Value} {b : Bool} (hk : Kind.okP (kf q E o) = true := by eq_refl) (ho : o.op = .binOp .eql t x y ty := by eq_refl) (hx : evO n l x = some (.agg (List.toArray xs)) := by eq_refl) (hy : evO n l y = some (.agg (List.toArray ys)) := by eq_refl) (hb : EqOK P t xs ys b := by first | exact eqA0 | exact eqA8 | fail)
  (h : lexO P w0 L0 ops q E K rest (frm n ((d, .bool b) :: l)) L) : lexO P w0 L0 ops q E K (o :: rest) (frm n l) L :=
 k_val hw hd hk (fun L => q_eqs ho (evO_eq hx) (evO_eq hy) hb) h
theorem k_nes (hw : wantL ops n l o = true := by first | exact want_none (by eq_refl) | exact want_t (by eq_refl) (by eq_refl) (by eq_refl) (by with_reducible assumption) | exact want_f (by eq_refl) (by eq_refl) (by eq_refl) (by with_reducible assumption) | fail) (hd : o.dst = some d := by eq_refl) {t ty : TypeId} {x y : Operand} {xs ys : List Value} {b : Bool} (hk : Kind.okP (kf q E o) = true := by eq_refl) (ho : o.op = .binOp .neq t x y ty := by eq_refl) (hx : evO n l x = some (.agg (List.toArray xs)) := by eq_refl) (hy : evO n l y = some (.agg (List.toArray ys)) := by eq_refl) (hb : EqOK P t xs ys b := by first | exact eqA0 | exact eqA8 | fail)
  (h : lexO P w0 L0 ops q E K rest (frm n ((d, .bool (!b)) :: l)) L) : lexO P w0 L0 ops q E K (o :: rest) (frm n l) L :=
 k_val hw hd hk (fun L => q_nes ho (evO_eq hx) (evO_eq hy) hb) h
theorem k_not (hw : wantL ops n l o = true := by first | exact want_none (by eq_refl) | exact want_t (by eq_refl) (by eq_refl) (by eq_refl) (by with_reducible assumption) | exact want_f (by eq_refl) (by eq_refl) (by eq_refl) (by with_reducible assumption) | fail) (hd : o.dst = some d := by eq_refl) {t : TypeId} {x : Operand} {b : Bool} (hk : Kind.okP (kf q E o) = true := by eq_refl) (ho : o.op = .unOp .not t x := by eq_refl) (hx : evO n l x = some (.bool b) := by eq_refl) (h : lexO P w0 L0 ops q E K rest (frm n ((d, .bool (!b)) :: l)) L) : lexO P w0 L0 ops q E K (o :: rest) (frm n l) L :=
 k_val hw hd hk (fun L => q_not ho (evO_eq hx)) h
theorem k_conv (hw : wantL ops n l o = true := by first | exact want_none (by eq_refl) | exact want_t (by eq_refl) (by eq_refl) (by eq_refl) (by with_reducible assumption) | exact want_f (by eq_refl) (by eq_refl) (by eq_refl) (by with_reducible assumption) | fail) (hd : o.dst = some d := by eq_refl) {s e : TypeId} {k k' : IntKind} {x : Operand} {k2 : IntKind} {a : Int} (hk : Kind.okP (kf q E o) = true := by eq_refl) (ho : o.op = .convert s e x := by eq_refl) (hs : P.underlying s = some (.int k') := by exact ii (by eq_refl)) (hd' : P.underlying e = some (.int k) := by exact ii (by eq_refl)) (hx : evO n l x = some (.int k2 a) := by eq_refl) (h : lexO P w0 L0 ops q E K rest (frm n ((d, .int k (k.wrap a)) :: l)) L) : lexO P w0 L0 ops q E K (o :: rest) (frm n l) L :=
 k_val hw hd hk (fun L => q_conv (hs := hs) (hd := hd') ho (evO_eq hx)) h
theorem k_indexAddr (hw : wantL ops n l o = true := by first | exact want_none (by eq_refl) | exact want_t (by eq_refl) (by eq_refl) (by eq_refl) (by with_reducible assumption) | exact want_f (by eq_refl) (by eq_refl) (by eq_refl) (by with_reducible assumption) | fail) (hd : o.dst = some d := by eq_refl) {t e m : Nat} {b : Bool} {x y : Operand} {g off len cap : Nat} {k : IntKind} {i : Int} (hk : Kind.okP (kf q E o) = true := by eq_refl) (ho : o.op = .indexAddr t x y := by eq_refl) (hs : P.underlying t = some (.slice e) := by exact si (by eq_refl)) (hi : tinfo P e = some (b, m) := by exact ti (by eq_refl)) (hx : evO n l x = some (.slice (some ⟨g, off, none⟩) len cap) := by eq_refl) (hy : evO n l y = some (.int k i) := by eq_refl)
  (hb : 0 ≤ i ∧ i < (len : Int) := by first | with_reducible assumption | decide | omega) (h : lexO P w0 L0 ops q E K rest (frm n ((d, .pointer (some ⟨g, off + i.toNat * m, none⟩)) :: l)) L) : lexO P w0 L0 ops q E K (o :: rest) (frm n l) L :=
 k_val hw hd hk (fun L => q_indexAddr (hs := hs) (hi := hi) ho (evO_eq hx) (evO_eq hy) hb) h
theorem k_len_slice (hw : wantL ops n l o = true := by first | exact want_none (by eq_refl) | exact want_t (by eq_refl) (by eq_refl) (by eq_refl) (by with_reducible assumption) | exact want_f (by eq_refl) (by eq_refl) (by eq_refl) (by with_reducible assumption) | fail) (hd : o.dst = some d := by eq_refl) {t e : Nat} {c : Call} {x : Operand} {a : Option Addr} {len cap : Nat} (hk : Kind.okP (kf q E o) = true := by eq_refl) (ho : o.op = .call c := by eq_refl) (hc : c.callee = .builtin .len := by eq_refl) (ht : c.argTypes[0]? = some t := by eq_refl) (hs : P.underlying t = some (.slice e) := by exact si (by eq_refl)) (ha : c.args = #[x] := by eq_refl) (hx : evO n l x = some (.slice a len cap) := by eq_refl)
  (h : lexO P w0 L0 ops q E K rest (frm n ((d, .int .i64 (len : Int)) :: l)) L) : lexO P w0 L0 ops q E K (o :: rest) (frm n l) L :=
 k_val hw hd hk (fun L => q_len_slice (hs := hs) ho hc ht ha (evO_eq hx)) h
theorem k_call (hw : wantL ops n l o = true := by first | exact want_none (by eq_refl) | exact want_t (by eq_refl) (by eq_refl) (by eq_refl) (by with_reducible assumption) | exact want_f (by eq_refl) (by eq_refl) (by eq_refl) (by with_reducible assumption) | fail) (hd : o.dst = some d := by eq_refl) {c : Call} {f : FuncId} {v : Value} {xs : List Operand} {vs : List Value} (hk : Kind.okP (kf q E o) = true := by eq_refl) (ho : o.op = .call c := by eq_refl) (hc : c.callee = .value (.func f) := by eq_refl) (hf : isFn P f = true := by exact fn (by eq_refl)) (ha : c.args = List.toArray xs := by eq_refl) (hr : ArgsR n l xs vs := by (repeat (first | apply ArgsR.nil | apply ArgsR.cons (by eq_refl))); first | done | fail) (hp : Pure P f (List.toArray vs) v)
  (h : lexO P w0 L0 ops q E K rest (frm n ((d, v) :: l)) L) : lexO P w0 L0 ops q E K (o :: rest) (frm n l) L :=
 k_val hw hd hk (fun L => q_call (hf := hf) ho hc rfl (by rw [ha]; exact hr.eq) hp) h
theorem k_callw (hw : wantL ops n l o = true := by first | exact want_none (by eq_refl) | exact want_t (by eq_refl) (by eq_refl) (by eq_refl) (by with_reducible assumption) | exact want_f (by eq_refl) (by eq_refl) (by eq_refl) (by with_reducible assumption) | fail) (hd : o.dst = some d := by eq_refl) {c : Call} {f : FuncId} {v : Value} {xs : List Operand} {vs : List Value} (hk : kf q E o = .quiet ∨ kf q E o = .eff := by first | exact Or.inl (by eq_refl) | exact Or.inr (by eq_refl) | fail) (ho : o.op = .call c := by eq_refl) (hc : c.callee = .value (.func f) := by eq_refl) (hf : isFn P f = true := by exact fn (by eq_refl)) (ha : c.args = List.toArray xs := by eq_refl) (hr : ArgsR n l xs vs := by (repeat (first | apply ArgsR.nil | apply ArgsR.cons (by eq_refl))); first | done | fail)
  (hp : ∀ w, Own w0 L w → Calls P f (List.toArray vs) w fun e w' => e = .returned v ∧ Below w.heap.size w w')
  (h : lexO P w0 L0 ops q E K rest (frm n ((d, v) :: l)) L) : lexO P w0 L0 ops q E K (o :: rest) (frm n l) L :=
 have hq : QV P w0 o (evL n l) L v := q_callw (hf := hf) ho hc rfl (by rw [ha]; exact hr.eq) hp
 s_val hw (by rcases hk with hk | hk <;> rw [hk] <;> simp [Kind.val]) (fun _ => by rcases hk with hk | hk <;> rw [hk] <;> exact hq) hq (by rw [hd]; exact h)
theorem k_callv (hw : wantL ops n l o = true := by first | exact want_none (by eq_refl) | exact want_t (by eq_refl) (by eq_refl) (by eq_refl) (by with_reducible assumption) | exact want_f (by eq_refl) (by eq_refl) (by eq_refl) (by with_reducible assumption) | fail) (hd : o.dst = some d := by eq_refl) {c : Call} {x : Operand} {f : FuncId} {cap : Array Value} {v : Value} {xs : List Operand} {vs : List Value} {args : Array Value} (hk : Kind.okP (kf q E o) = true := by eq_refl) (ho : o.op = .call c := by eq_refl) (hc : c.callee = .value x := by eq_refl) (hx : evO n l x = some (.func (.func f) #[] cap) := by eq_refl) (hf : isFn P f = true := by exact fn (by eq_refl)) (ha : c.args = List.toArray xs := by eq_refl) (hr : ArgsR n l xs vs := by (repeat (first | apply ArgsR.nil | apply ArgsR.cons (by eq_refl))); first | done | fail) (hcap : List.toArray vs ++ cap = args) (hp : Pure P f args v)
  (h : lexO P w0 L0 ops q E K rest (frm n ((d, v) :: l)) L) : lexO P w0 L0 ops q E K (o :: rest) (frm n l) L :=
 k_val hw hd hk (fun L => q_callv (hf := hf) ho hc (evO_eq hx) (by rw [ha, hr.eq]; exact hcap) hp) h
theorem k_box (hw : wantL ops n l o = true := by first | exact want_none (by eq_refl) | exact want_t (by eq_refl) (by eq_refl) (by eq_refl) (by with_reducible assumption) | exact want_f (by eq_refl) (by eq_refl) (by eq_refl) (by with_reducible assumption) | fail) (hd : o.dst = some d := by eq_refl) {t : TypeId} {x : Operand} {v : Value} {cs : List Value} (ho : o.op = .box t x := by eq_refl) (hx : evO n l x = some v := by eq_refl) (hc : CellsR v cs := by first | apply CellsR.agg | exact CellsR.one (by eq_refl) | fail)
  (h : ∀ g, lexO P w0 L0 ops q E K rest (frm n ((d, .pointer (some ⟨g, 0, none⟩)) :: l)) ((g, cs, t) :: L)) : lexO P w0 L0 ops q E K (o :: rest) (frm n l) L :=
 s_alloc (k := none) (cs := cs) (t := t) hw (by simp [kf, ho]) (by simp only [allocOf, ho, evO_eq hx, hc.eq]) fun g => by rw [hd]; exact h g
theorem k_alloc (hw : wantL ops n l o = true := by first | exact want_none (by eq_refl) | exact want_t (by eq_refl) (by eq_refl) (by eq_refl) (by with_reducible assumption) | exact want_f (by eq_refl) (by eq_refl) (by eq_refl) (by with_reducible assumption) | fail) (hd : o.dst = some d := by eq_refl) {t : TypeId} {z : Value} {cs : List Value} (ho : o.op = .alloc t := by eq_refl) (hz : zinfo P t = some z := by exact ziOf (by eq_refl)) (hc : CellsR z cs := by first | apply CellsR.agg | exact CellsR.one (by eq_refl) | fail)
  (h : ∀ g, lexO P w0 L0 ops q E K rest (frm n ((d, .pointer (some ⟨g, 0, none⟩)) :: l)) ((g, cs, t) :: L)) : lexO P w0 L0 ops q E K (o :: rest) (frm n l) L :=
 s_alloc (k := none) (cs := cs) (t := t) hw (by simp [kf, ho]) (by have := hz; unfold zinfo at this; simp only [allocOf, ho, this, Option.map_some, hc.eq]) fun g => by rw [hd]; exact h g
theorem k_store (hw : wantL ops n l o = true := by first | exact want_none (by eq_refl) | exact want_t (by eq_refl) (by eq_refl) (by eq_refl) (by with_reducible assumption) | exact want_f (by eq_refl) (by eq_refl) (by eq_refl) (by with_reducible assumption) | fail) {t : TypeId} {m : Nat} {b : Bool} {x y : Operand} {g off : Nat} {v : Value} {cs vs cs' : List Value} {T : TypeId} {L' : List Blk} (hd : o.dst = none := by eq_refl) (hk : kf q E o = .eff ∨ kf q E o = .eff0 := by first | exact Or.inl (by eq_refl) | exact Or.inr (by eq_refl) | fail) (ho : o.op = .store t x y := by eq_refl) (hi : tinfo P t = some (b, m) := by exact ti (by eq_refl)) (hx : evO n l x = some (.pointer (some ⟨g, off, none⟩)) := by eq_refl)
  (hy : evO n l y = some v := by eq_refl) (hv : CellsR v vs := by first | apply CellsR.agg | exact CellsR.one (by eq_refl) | fail) (hm : HasB L g cs T := by (repeat (first | apply HasB.here | apply HasB.next)); first | done | fail) (hc : Spl cs off vs cs' := by (repeat (first | apply Spl.done | apply Spl.put | apply Spl.skip)); first | done | fail) (hs : SetB L g cs T cs' L' := by (repeat (first | apply SetB.here | apply SetB.next)); first | done | fail) (hn : Nat.beq vs.length m = true := by eq_refl) (ha : vs.all oneC = true := by eq_refl) (h0 : kf q E o = .eff0 → ∀ b ∈ L0, b ∈ L' := by first | exact st_no (by eq_refl) | exact st_yes (Incl.sub (by (repeat (first | apply Incl.refl | apply Incl.cons)); first | done | fail)) | exact st_yes (SubL.sub (by (repeat (first | apply SubL.nil | apply SubL.cons (by (repeat (first | apply HasB.here | apply HasB.next)); first | done | fail))); first | done | fail)) | fail)
  (h : lexO P w0 L0 ops q E K rest (frm n l) L') : lexO P w0 L0 ops q E K (o :: rest) (frm n l) L :=
 s_eff1 (v := undef) hw hk h0 (e_store (hi := hi) ho (evO_eq hx) (by rw [evO_eq hy]; exact hv.eq) hs hn ha (by rw [Nat.ble_eq]; exact hc.eq.2) hc.eq.1) (by rw [hd]; exact h)
end
section
variable {P : Program} {w0 : World} {n : Nat} {l : List (Nat × Value)} {L : List Blk} {Q : Exit → Act → World → Prop} {x y : Code}
theorem c_true {c : Operand} {e : Bool} (hc : evO n l c = some (.bool e) := by eq_refl) (he : e = true := by first | with_reducible assumption | with_reducible eq_refl | fail) (h : J P w0 x Q (frm n l) L) : J P w0 (.cond c x y) Q (frm n l) L := j_true (by rw [evO_eq hc, he]) h
theorem c_false {c : Operand} {e : Bool} (hc : evO n l c = some (.bool e) := by eq_refl) (he : e = false := by first | with_reducible assumption | with_reducible eq_refl | fail) (h : J P w0 y Q (frm n l) L) : J P w0 (.cond c x y) Q (frm n l) L := j_false (by rw [evO_eq hc, he]) h
theorem c_split {c : Operand} {e : Bool} (hc : evO n l c = some (.bool e) := by eq_refl) (ht : e = true → J P w0 x Q (frm n l) L) (hf : e = false → J P w0 y Q (frm n l) L) : J P w0 (.cond c x y) Q (frm n l) L := j_split (evO_eq hc) ht hf
theorem v_tmp {t : Tmp} {v : Value} (h : evO n l (.tmp t) = some v := by eq_refl) : RV P w0 n l L (.tmp t) v := evO_eq h
theorem v_agg {a : Tmp} {t : TypeId} {m : Nat} (hi : tinfo P t = some (true, m) := by exact ti (by eq_refl)) {g off : Nat} {cs vs : List Value} {T : TypeId} (hx : evO n l (.tmp a) = some (.pointer (some ⟨g, off, none⟩)) := by eq_refl) (hm : HasB L g cs T := by (repeat (first | apply HasB.here | apply HasB.next)); first | done | fail) (hv : Sub cs off m vs := by (repeat (first | apply Sub.done | apply Sub.take | apply Sub.skip)); first | done | fail) : RV P w0 n l L (.cell a t) (.agg (List.toArray vs)) := rv_agg (hi := hi) (evO_eq hx) hm hv.eq.1 hv.eq.2
theorem pure_go {f : FuncId} {fn : Func} {c : Code} {args : List Value} {v : Value} {m : Nat} (hf : P.funcs[f]? = some fn) (hb : fn.body = some c) (hn : fn.ntmps = m) (hl : Nat.ble args.length m = true) (h0 : initL args = l)
  (h : ∀ w0, J P w0 c (bodyPost P fn (fun e w' => e = .returned v ∧ Below w0.heap.size w0 w')) (frm m l) []) : Pure P f (List.toArray args) v := by
 subst h0; exact pure_J hf hb hn hl h
end
end Go.Proofs.Ytedfbamihjnhhaa.Own
