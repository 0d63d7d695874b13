/- An engine for walks, the third part: what each operation does. -/
import Derived.Test.YtedfbamihjnhhaaEng2
namespace Go.Proofs.Ytedfbamihjnhhaa.Own
open Go Go.RowKit
set_option linter.unusedVariables false
set_option linter.unusedSimpArgs false
/-! ### what is known of types -/
def tinfo (P : Program) (t : TypeId) : Option (Bool × Nat) :=
 match P.underlying t, P.info? t with
 | some d, some i => some ((match d with | .struct _ | .array _ _ => true | _ => false), i.size)
 | _, _ => none
def finfo (P : Program) (t : TypeId) (i : Nat) : Option (Nat × Bool × Nat) :=
 match P.underlying t with
 | some (.struct fs) => (fs[i]?).bind fun f => (tinfo P f.type).map fun x => (f.offset, x.1, x.2)
 | _ => none
def zinfo (P : Program) (t : TypeId) : Option Value := (P.info? t).bind (·.zero)
def isSlice (P : Program) (t e : TypeId) : Bool := match P.underlying t with | some (.slice e') => e' == e | _ => false
def isArray (P : Program) (t n e : TypeId) : Bool := match P.underlying t with | some (.array n' e') => n' == n && e' == e | _ => false
def isInt (P : Program) (t : TypeId) (k : IntKind) : Bool := match P.underlying t with | some (.int k') => decide (k' = k) | _ => false
theorem isSlice_eq {P : Program} {t e : TypeId} (h : isSlice P t e = true) : P.underlying t = some (.slice e) := by
 unfold isSlice at h; split at h <;> simp_all
theorem isArray_eq {P : Program} {t n e : TypeId} (h : isArray P t n e = true) : P.underlying t = some (.array n e) := by
 unfold isArray at h; split at h <;> simp_all
theorem isInt_eq {P : Program} {t : TypeId} {k : IntKind} (h : isInt P t k = true) : P.underlying t = some (.int k) := by
 unfold isInt at h; split at h <;> simp_all
/-! tables -/
def lookN {α : Type} : List (Nat × α) → Nat → Option α
 | [], _ => none
 | (k, x) :: r, t => bif Nat.beq k t then some x else lookN r t
theorem lookN_mem {α : Type} : ∀ {l : List (Nat × α)} {t : Nat} {x : α}, lookN l t = some x → (t, x) ∈ l
 | [], _, _, h => by cases h
 | (k, y) :: r, t, x, h => by
  simp only [lookN] at h
  cases e : Nat.beq k t with
  | true => simp only [e, cond_true, Option.some.injEq] at h; subst h; rw [Nat.eq_of_beq_eq_true e]; exact .head _
  | false => simp only [e, cond_false] at h; exact .tail _ (lookN_mem h)
def lookN2 {α : Type} : List (Nat × Nat × α) → Nat → Nat → Option α
 | [], _, _ => none
 | (k, j, x) :: r, t, i => bif Nat.beq k t && Nat.beq j i then some x else lookN2 r t i
theorem lookN2_mem {α : Type} : ∀ {l : List (Nat × Nat × α)} {t i : Nat} {x : α}, lookN2 l t i = some x → (t, i, x) ∈ l
 | [], _, _, _, h => by cases h
 | (k, j, y) :: r, t, i, x, h => by
  simp only [lookN2] at h
  cases e : (Nat.beq k t && Nat.beq j i) with
  | true =>
   simp only [e, cond_true, Option.some.injEq] at h; subst h
   simp only [Bool.and_eq_true] at e
   rw [Nat.eq_of_beq_eq_true e.1, Nat.eq_of_beq_eq_true e.2]; exact .head _
  | false => simp only [e, cond_false] at h; exact .tail _ (lookN2_mem h)
def hasN : List Nat → Nat → Bool
 | [], _ => false
 | k :: r, t => bif Nat.beq k t then true else hasN r t
theorem hasN_mem : ∀ {l : List Nat} {t : Nat}, hasN l t = true → t ∈ l
 | [], _, h => by cases h
 | k :: r, t, h => by
  simp only [hasN] at h
  cases e : Nat.beq k t with
  | true => rw [Nat.eq_of_beq_eq_true e]; exact .head _
  | false => simp only [e, cond_false] at h; exact .tail _ (hasN_mem h)
section
variable {P : Program} {w0 : World}
theorem run_isAgg {t : TypeId} {b : Bool} {n : Nat} (h : tinfo P t = some (b, n)) (w : World) : (isAgg t).run P w = .ok b w := by
 unfold tinfo at h
 split at h
 ·rename_i d i hd hi
  simp only [Option.some.injEq, Prod.mk.injEq] at h
  unfold isAgg
  rw [Sem.run_bind, run_underlying hd w, ← h.1]
  cases d <;> rfl
 ·cases h
theorem run_sizeOf' {t : TypeId} {b : Bool} {n : Nat} (h : tinfo P t = some (b, n)) (w : World) : (sizeOf t).run P w = .ok n w := by
 unfold tinfo at h
 split at h
 ·rename_i d i hd hi
  simp only [Option.some.injEq, Prod.mk.injEq] at h
  simp [sizeOf, typeInfo, hi, go_sem, h.2]
 ·cases h
theorem add_cell (g off j : Nat) : (⟨g, off, none⟩ : Addr).add j = ⟨g, off + j, none⟩ := by unfold Addr.add; split <;> simp_all
theorem run_loadVar_agg {t : TypeId} {n : Nat} (h : tinfo P t = some (true, n)) {w : World} {g off : Nat} {vs : List Value} (hl : vs.length = n) (hc : ∀ j v, vs[j]? = some v → w.cell? ⟨g, off + j, none⟩ = some v) :
  (loadVar t ⟨g, off, none⟩).run P w = .ok (.agg vs.toArray) w := by
 have h1 : (loadCells ⟨g, off, none⟩ vs.length).run P w = .ok vs.toArray w := run_loadCells_list (P := P) w ⟨g, off, none⟩ vs fun j v hv => by rw [add_cell]; exact hc j v hv
 subst hl
 simp only [loadVar, Sem.run_bind, run_isAgg h w, run_sizeOf' h w, Result.andThen_ok, if_true, h1]
 rfl
theorem run_loadVar_one {t : TypeId} {n : Nat} (h : tinfo P t = some (false, n)) {w : World} {a : Addr} {v : Value} (hc : w.cell? a = some v) : (loadVar t a).run P w = .ok v w := by
 simp only [loadVar, Sem.run_bind, run_isAgg h w, Result.andThen_ok, Bool.false_eq_true, if_false]
 simp [load, Sem.run, hc]
theorem HasB.cell {L : List Blk} {g : Nat} {cs : List Value} {t : TypeId} {w : World} (h : Own w0 L w) (hm : HasB L g cs t) (j : Nat) : w.cell? ⟨g, j, none⟩ = cs[j]? := by
 rw [cell_of_row w g j cs.toArray t (0, 0) (h.block hm)]; simp
theorem take_drop_get {cs vs : List Value} {off n : Nat} (h : (cs.drop off).take n = vs) (j : Nat) (v : Value) (hj : vs[j]? = some v) : cs[off + j]? = some v := by
 subst h
 rw [List.getElem?_take] at hj
 split at hj
 ·rwa [List.getElem?_drop] at hj
 ·cases hj
variable {o : Oper} {ρ : Operand → Value} {L : List Blk}
theorem q_of {v : Value} (h : ∀ w, Own w0 L w → (execOp ρ o).run P w = .ok (.value v) w) : QV P w0 o ρ L v := fun w hw => by rw [h w hw]; exact ⟨rfl, rfl⟩
theorem run_v {s : Sem Value} {v : Value} {w : World} (h : s.run P w = .ok v w) : (do pure (Next.value (← s)) : Sem Next).run P w = .ok (.value v) w := by
 simp only [Sem.run_bind, h, Result.andThen_ok]; rfl
theorem q_move {x : Operand} (ho : o.op = .move x) : QV P w0 o ρ L (ρ x) := q_of fun w _ => by simp only [execOp, ho]; rfl
theorem q_assign {x : Operand} (ho : o.op = .assign x) : QV P w0 o ρ L (ρ x) := q_of fun w _ => by simp only [execOp, ho]; rfl
theorem q_load_agg {t : TypeId} {n : Nat} {hi : tinfo P t = some (true, n)} {x : Operand} {g off : Nat} {cs vs : List Value} {T : TypeId} (ho : o.op = .load t x) (hx : ρ x = .pointer (some ⟨g, off, none⟩)) (hm : HasB L g cs T)
  (hv : (cs.drop off).take n = vs) (hl : vs.length = n) : QV P w0 o ρ L (.agg vs.toArray) :=
 q_of fun w hw => by
  simp only [execOp, ho, hx, Instr.loadAt, Instr.sureAddr]
  exact run_v (run_loadVar_agg hi hl fun j v hj => by rw [HasB.cell hw hm]; exact take_drop_get hv j v hj)
theorem q_load_one {t : TypeId} {n : Nat} {hi : tinfo P t = some (false, n)} {x : Operand} {g off : Nat} {cs : List Value} {v : Value} {T : TypeId} (ho : o.op = .load t x) (hx : ρ x = .pointer (some ⟨g, off, none⟩)) (hm : HasB L g cs T)
  (hv : cs[off]? = some v) : QV P w0 o ρ L v :=
 q_of fun w hw => by
  simp only [execOp, ho, hx, Instr.loadAt, Instr.sureAddr]
  exact run_v (run_loadVar_one hi (by rw [HasB.cell hw hm]; exact hv))
theorem q_load_old1 {t : TypeId} {n : Nat} {hi : tinfo P t = some (false, n)} {x : Operand} {g off : Nat} {v : Value} (ho : o.op = .load t x) (hx : ρ x = .pointer (some ⟨g, off, none⟩)) (hg : g < w0.heap.size)
  (hc : w0.cell? ⟨g, off, none⟩ = some v) : QV P w0 o ρ L v :=
 q_of fun w hw => by
  simp only [execOp, ho, hx, Instr.loadAt, Instr.sureAddr]
  exact run_v (run_loadVar_one hi (by rw [hw.below.cell (p := ⟨g, off, none⟩) hg]; exact hc))
/-! calls -/
def isFn (P : Program) (f : FuncId) : Bool := match P.funcs[f]? with | some fn => !(fn.name == "runtime.NumGoroutine") && !fn.body.isNone | none => false
theorem run_callFunc_in {f : FuncId} (h : isFn P f = true) (args : Array Value) (w : World) : (callFunc f args).run P w = .ok (.enter f args) w := by
 unfold isFn at h
 split at h
 ·rename_i fn hf
  simp only [Bool.and_eq_true, Bool.not_eq_true'] at h
  have h1 : fn.name ≠ "runtime.NumGoroutine" := by simpa using h.1
  have h2 : ¬ fn.body = none := fun e => by rw [e] at h; simp at h
  simp [callFunc, hf, h1, h2]
 ·cases h
theorem exec_call {c : Call} {f : FuncId} (ho : o.op = .call c) (hc : c.callee = .value (.func f)) (hρ : ρ (.func f) = .func (.func f) #[] #[]) (w : World) : (execOp ρ o).run P w = (callFunc f (c.args.map ρ)).run P w := by
 simp only [execOp, ho, resolve, hc, hρ, Deferred.ofValue, Sem.run_bind]
 simp [invoke, go_sem]
theorem exec_callv {c : Call} {x : Operand} {f : FuncId} {cap : Array Value} (ho : o.op = .call c) (hc : c.callee = .value x) (hx : ρ x = .func (.func f) #[] cap) (w : World) : (execOp ρ o).run P w = (callFunc f (c.args.map ρ ++ cap)).run P w := by
 simp only [execOp, ho, resolve, hc, hx, Deferred.ofValue, Sem.run_bind]
 simp [invoke, go_sem]
theorem q_call {c : Call} {f : FuncId} {hf : isFn P f = true} {v : Value} {args : Array Value} (ho : o.op = .call c) (hc : c.callee = .value (.func f)) (hρ : ρ (.func f) = .func (.func f) #[] #[]) (ha : c.args.map ρ = args) (h : Pure P f args v) : QV P w0 o ρ L v :=
 fun w hw => by
  rw [exec_call ho hc hρ w, ha, run_callFunc_in hf]
  exact ⟨rfl, h w⟩
theorem q_callw {c : Call} {f : FuncId} {hf : isFn P f = true} {v : Value} {args : Array Value} (ho : o.op = .call c) (hc : c.callee = .value (.func f)) (hρ : ρ (.func f) = .func (.func f) #[] #[]) (ha : c.args.map ρ = args)
  (h : ∀ w, Own w0 L w → Calls P f args w fun e w' => e = .returned v ∧ Below w.heap.size w w') : QV P w0 o ρ L v :=
 fun w hw => by
  rw [exec_call ho hc hρ w, ha, run_callFunc_in hf]
  exact ⟨rfl, h w hw⟩
theorem q_callv {c : Call} {x : Operand} {f : FuncId} {hf : isFn P f = true} {cap : Array Value} {v : Value} {args : Array Value} (ho : o.op = .call c) (hc : c.callee = .value x) (hx : ρ x = .func (.func f) #[] cap) (ha : c.args.map ρ ++ cap = args) (h : Pure P f args v) : QV P w0 o ρ L v :=
 fun w hw => by
  rw [exec_callv ho hc hx w, ha, run_callFunc_in hf]
  exact ⟨rfl, h w⟩
/-! parts of values -/
theorem run_part_agg {t : TypeId} {n : Nat} (h : tinfo P t = some (true, n)) {cs vs : List Value} {off : Nat} (hv : (cs.drop off).take n = vs) (w : World) : (part t cs.toArray off).run P w = .ok (.agg vs.toArray) w := by
 simp only [part, Sem.run_bind, run_isAgg h w, run_sizeOf' h w, Result.andThen_ok, if_true]
 have : cs.toArray.extract off (off + n) = vs.toArray := by
  rw [← hv]; simp [List.extract_eq_take_drop, Nat.add_sub_cancel_left]
 rw [this]; rfl
theorem run_part_one {t : TypeId} {n : Nat} (h : tinfo P t = some (false, n)) {cs : List Value} {v : Value} {off : Nat} (hv : cs[off]? = some v) (w : World) : (part t cs.toArray off).run P w = .ok v w := by
 simp only [part, Sem.run_bind, run_isAgg h w, Result.andThen_ok, Bool.false_eq_true, if_false]
 simp [hv]
theorem finfo_spec {t i off : Nat} {b : Bool} {n : Nat} (h : finfo P t i = some (off, b, n)) : ∃ fs f, P.underlying t = some (.struct fs) ∧ fs[i]? = some f ∧ f.offset = off ∧ tinfo P f.type = some (b, n) := by
 unfold finfo at h
 split at h
 ·rename_i fs hu
  simp only [Option.bind_eq_some_iff, Option.map_eq_some_iff, Prod.mk.injEq] at h
  obtain ⟨f, hf, x, hx, h1, h2, h3⟩ := h
  obtain ⟨x1, x2⟩ := x
  exact ⟨fs, f, hu, hf, h1, by rw [hx]; simp_all⟩
 ·cases h
theorem q_field_agg {t i off n : Nat} {hi : finfo P t i = some (off, true, n)} {x : Operand} {cs vs : List Value} (ho : o.op = .field t x i) (hx : ρ x = .agg cs.toArray) (hv : (cs.drop off).take n = vs) : QV P w0 o ρ L (.agg vs.toArray) :=
 q_of fun w _ => by
  obtain ⟨fs, f, h1, h2, h3, h4⟩ := finfo_spec hi
  subst h3
  simp only [execOp, ho, hx]
  refine run_v ?_
  simp only [Instr.field, Sem.run_bind, run_underlying h1 w, Result.andThen_ok, h2, asAgg]
  exact run_part_agg h4 hv w
theorem q_field_one {t i off n : Nat} {hi : finfo P t i = some (off, false, n)} {x : Operand} {cs : List Value} {v : Value} (ho : o.op = .field t x i) (hx : ρ x = .agg cs.toArray) (hv : cs[off]? = some v) : QV P w0 o ρ L v :=
 q_of fun w _ => by
  obtain ⟨fs, f, h1, h2, h3, h4⟩ := finfo_spec hi
  subst h3
  simp only [execOp, ho, hx]
  refine run_v ?_
  simp only [Instr.field, Sem.run_bind, run_underlying h1 w, Result.andThen_ok, h2, asAgg]
  exact run_part_one h4 hv w
theorem q_fieldAddr {t i off n : Nat} {b : Bool} {hi : finfo P t i = some (off, b, n)} {x : Operand} {g k : Nat} (ho : o.op = .fieldAddr t x i) (hn : Nat.beq n 0 = false) (hx : ρ x = .pointer (some ⟨g, k, none⟩)) : QV P w0 o ρ L (.pointer (some ⟨g, k + off, none⟩)) :=
 q_of fun w _ => by
  obtain ⟨fs, f, h1, h2, h3, h4⟩ := finfo_spec hi
  subst h3
  have hn' : n ≠ 0 := fun e => by rw [e] at hn; simp at hn
  simp only [execOp, ho, hx]
  refine run_v ?_
  simp only [Instr.fieldAt, Sem.run_bind, run_underlying h1 w, Result.andThen_ok, h2, Instr.sureAddr, Sem.run_pure, fieldPlace, run_sizeOf' h4 w, hn', if_false, add_cell]
theorem q_extract {x : Operand} {vs : List Value} {v : Value} {i : Nat} (ho : o.op = .extract x i) (hx : ρ x = .tuple vs.toArray) (hv : vs[i]? = some v) : QV P w0 o ρ L v :=
 q_of fun w _ => by
  simp only [execOp, ho, hx]
  refine run_v ?_
  simp [Instr.extract, hv]
theorem q_nilCheck {x : Operand} {a : Addr} (ho : o.op = .nilCheck x) (hx : ρ x = .pointer (some a)) : QV P w0 o ρ L (.pointer (some a)) :=
 q_of fun w _ => by simp only [execOp, ho, hx]; rfl
theorem q_pick_t {c x y : Operand} {b : Bool} {v : Value} (ho : o.op = .pick c x y) (hc : ρ c = .bool b) (hb : b = true) (hv : ρ x = v) : QV P w0 o ρ L v :=
 q_of fun w _ => by subst hb; subst hv; simp only [execOp, ho, hc]; rfl
theorem q_pick_f {c x y : Operand} {b : Bool} {v : Value} (ho : o.op = .pick c x y) (hc : ρ c = .bool b) (hb : b = false) (hv : ρ y = v) : QV P w0 o ρ L v :=
 q_of fun w _ => by subst hb; subst hv; simp only [execOp, ho, hc]; rfl
theorem q_makeFunc {fn : Fn} {a b : Array Operand} (ho : o.op = .makeFunc fn a b) : QV P w0 o ρ L (.func fn (a.map ρ) (b.map ρ)) :=
 q_of fun w _ => by simp only [execOp, ho]; rfl
/-! a struct out of its parts -/
def splice (cs : List Value) (off : Nat) (vs : List Value) : List Value := cs.take off ++ (vs ++ cs.drop (off + vs.length))
def fillL (places : List (Nat × Nat)) : List Value → List (Nat × Value) → Option (List Value)
 | cs, [] => some cs
 | cs, (i, v) :: r => match places[i]? with
  | none => none
  | some (off, n) => bif Nat.beq v.cells.size n && Nat.ble (off + v.cells.size) cs.length then fillL places (splice cs off v.cells.toList) r else none
structure BI (P : Program) (t : TypeId) (z : List Value) (pl : List (Nat × Nat)) : Prop where
 zero : zinfo P t = some (.agg z.toArray)
 places : ∀ w, (do match ← underlying t with
  | .struct fields => fields.mapM fun f => do pure (f.offset, ← sizeOf f.type)
  | _ => stuck "" : Sem (Array (Nat × Nat))).run P w = .ok pl.toArray w
theorem splice_foldl (vs : List Value) : ∀ (cs : Array Value) (off : Nat), off + vs.length ≤ cs.size →
  vs.zipIdx.foldl (fun (cs : Array Value) (x : Value × Nat) => cs.setIfInBounds (off + x.2) x.1) cs = (splice cs.toList off vs).toArray := by
 intro cs off h
 apply Array.ext_getElem?
 intro i
 have key : ∀ (vs : List Value) (k : Nat) (cs : Array Value), off + k + vs.length ≤ cs.size →
   ((vs.zipIdx k).foldl (fun (cs : Array Value) (x : Value × Nat) => cs.setIfInBounds (off + x.2) x.1) cs)[i]? = if off + k ≤ i ∧ i < off + k + vs.length then vs[i - (off + k)]? else cs[i]? := by
  intro vs
  induction vs with
  | nil =>
   intro k cs hk
   simp only [List.zipIdx_nil, List.foldl_nil, List.length_nil]
   rw [if_neg (by omega)]
  | cons v r ih =>
   intro k cs hk
   simp only [List.length_cons] at hk
   simp only [List.zipIdx_cons, List.foldl_cons]
   rw [ih (k + 1) (cs.setIfInBounds (off + k) v) (by rw [Array.size_setIfInBounds]; omega)]
   by_cases e : off + k = i
   ·subst e
    rw [if_neg (by omega), if_pos (by simp), Array.getElem?_setIfInBounds_self_of_lt (by omega)]
    simp
   ·rw [Array.getElem?_setIfInBounds_ne e]
    by_cases c : off + k ≤ i ∧ i < off + k + (r.length + 1)
    ·rw [if_pos (by omega), if_pos (by simpa using c), show i - (off + k) = (i - (off + (k + 1))) + 1 from by omega, List.getElem?_cons_succ]
    ·rw [if_neg (by omega), if_neg (by simpa using c)]
 have := key vs 0 cs (by simpa using h)
 simp only [Nat.add_zero] at this
 rw [this]
 rw [show ((splice cs.toList off vs).toArray)[i]? = (splice cs.toList off vs)[i]? from by simp]
 unfold splice
 rw [List.getElem?_append]
 have hlen : (cs.toList.take off).length = off := by simp; omega
 rw [hlen]
 by_cases c : i < off
 ·rw [if_neg (by omega), if_pos c]; simp [List.getElem?_take, c]
 ·rw [if_neg c, List.getElem?_append]
  by_cases d : i - off < vs.length
  ·rw [if_pos (by omega), if_pos d]
  ·rw [if_neg (by omega), if_neg d, List.getElem?_drop, show off + vs.length + (i - off - vs.length) = i from by omega]; simp
theorem fill_eq (pl : List (Nat × Nat)) : ∀ (parts : List (Nat × Value)) (cs cs' : List Value), fillL pl cs parts = some cs' → Instr.fill (pl.toArray[·]?) cs.toArray parts = some cs'.toArray
 | [], cs, cs', h => by simp only [fillL, Option.some.injEq] at h; subst h; rfl
 | (i, v) :: r, cs, cs', h => by
  simp only [fillL] at h
  cases hp : pl[i]? with
  | none => simp [hp] at h
  | some q =>
   obtain ⟨off, n⟩ := q
   simp only [hp] at h
   cases hc : (Nat.beq v.cells.size n && Nat.ble (off + v.cells.size) cs.length) with
   | false => simp [hc] at h
   | true =>
    simp only [hc, cond_true] at h
    simp only [Bool.and_eq_true] at hc
    have h1 := Nat.eq_of_beq_eq_true hc.1
    have h2 := Nat.le_of_ble_eq_true hc.2
    simp only [Instr.fill, List.getElem?_toArray, hp]
    rw [if_neg (by simp [h1]; omega)]
    have h3 := splice_foldl v.cells.toList cs.toArray off (by simpa using h2)
    have h4 : v.cells.zipIdx.foldl (fun (cs : Array Value) (x : Value × Nat) => cs.setIfInBounds (off + x.2) x.1) cs.toArray = (splice cs off v.cells.toList).toArray := by
     rw [← h3, ← Array.foldl_toList]; simp
    show Instr.fill _ (v.cells.zipIdx.foldl (fun (cs : Array Value) (x : Value × Nat) => cs.setIfInBounds (off + x.2) x.1) cs.toArray) r = _
    rw [h4]
    simpa using fill_eq pl r _ _ h
theorem q_build {t : TypeId} {z : List Value} {pl : List (Nat × Nat)} {hi : BI P t z pl} {parts : Array (Nat × Operand)} {pv : List (Nat × Value)} {cs : List Value} (ho : o.op = .build t parts)
  (hp : parts.toList.map (fun x => (x.1, ρ x.2)) = pv) (hf : fillL pl z pv = some cs) : QV P w0 o ρ L (.agg cs.toArray) :=
 q_of fun w _ => by
  simp only [execOp, ho]
  refine run_v ?_
  have hz : (zeroValue t).run P w = .ok (.agg z.toArray) w := by
   have hz := hi.zero
   unfold zinfo at hz
   simp only [Option.bind_eq_some_iff] at hz
   obtain ⟨i, h1, h2⟩ := hz
   simp [zeroValue, typeInfo, h1, h2, go_sem]
  have hp2 := hi.places w
  have hpv : (parts.map fun (x : Nat × Operand) => (x.1, ρ x.2)).toList = pv := by rw [← hp]; simp
  unfold Instr.build
  rw [Sem.run_bind, hz, Result.andThen_ok]
  rw [Sem.run_bind] at hp2 ⊢
  cases hu : (underlying t).run P w with
  | halt x w' => rw [hu] at hp2; cases hp2
  | ok d w' =>
   rw [hu, Result.andThen_ok] at hp2
   rw [Result.andThen_ok]
   cases d <;> simp only [stuck, Sem.run] at hp2 <;> try (cases hp2)
   rename_i fs
   simp only [Sem.run_bind]
   rw [show (fs.mapM fun f => do pure (f.offset, ← sizeOf f.type) : Sem (Array (Nat × Nat))).run P w' = .ok pl.toArray w from hp2, Result.andThen_ok]
   have hfe := fill_eq pl _ _ _ hf
   rw [← hpv] at hfe
   have : Instr.fill (fun x => pl.toArray[x]?) (Value.agg z.toArray).cells (parts.map fun (x : Nat × Operand) => (x.1, ρ x.2)).toList = some cs.toArray := hfe
   show Sem.run P (match Instr.fill (fun x => pl.toArray[x]?) (Value.agg z.toArray).cells (parts.map fun (x : Nat × Operand) => (x.1, ρ x.2)).toList with | some cells => pure (Value.agg cells) | _ => stuck "build: no such field, or a part of the wrong size") w = _
   rw [this]
   rfl
end
end Go.Proofs.Ytedfbamihjnhhaa.Own
