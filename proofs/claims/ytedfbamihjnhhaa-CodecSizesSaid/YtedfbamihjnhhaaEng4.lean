/- An engine for walks, the fourth part: stores, numbers, results. -/
import Derived.Test.YtedfbamihjnhhaaEng3
namespace Go.Proofs.Ytedfbamihjnhhaa.Own
open Go Go.RowKit
set_option linter.unusedVariables false
set_option linter.unusedSimpArgs false
section
variable {P : Program} {w0 : World} {o : Oper} {ρ : Operand → Value} {L : List Blk}
/-! ### stores -/
def oneC : Value → Bool | .agg _ | .tuple _ => false | _ => true
theorem run_store_one {w : World} {a : Addr} {v : Value} {u : Value} (hv : oneC v = true) (hc : w.cell? a = some u) (hf : w.frozen? a = false) : (store a v).run P w = .ok () (w.setCell a v) := by
 cases v <;> simp [oneC] at hv <;> simp [store, Sem.run, hc, hf]
theorem setCell_block {w : World} {g off : Nat} {cs : List Value} {T : TypeId} (hg : w.heap[g]? = some (.cells cs.toArray T (0, 0))) (v : Value) : (w.setCell ⟨g, off, none⟩ v).heap[g]? = some (.cells (cs.set off v).toArray T (0, 0)) := by
 simp [World.setCell, Array.getElem?_modify, hg]
theorem setCell_other {w : World} {g off k : Nat} (v : Value) (hk : k ≠ g) : (w.setCell ⟨g, off, none⟩ v).heap[k]? = w.heap[k]? := Below.heap_setCell w ⟨g, off, none⟩ v k hk
theorem splice_cons (cs : List Value) (off : Nat) (v : Value) (vs : List Value) (h : off + (v :: vs).length ≤ cs.length) : splice cs off (v :: vs) = splice (cs.set off v) (off + 1) vs := by
 simp only [List.length_cons] at h
 unfold splice
 apply List.ext_getElem?
 intro i
 simp only [List.length_cons, List.getElem?_append, List.length_take, List.getElem?_take, List.getElem?_drop, List.getElem?_set, List.getElem?_cons, List.length_set]
 rw [show min off cs.length = off from by omega, show min (off + 1) cs.length = off + 1 from by omega]
 by_cases h1 : i < off
 ·simp [h1, show i < off + 1 from by omega, show ¬ off = i from by omega]
 ·by_cases h2 : i = off
  ·subst h2; simp; omega
  ·simp only [h1, if_false, show ¬ i < off + 1 from by omega, show ¬ i - off = 0 from by omega, show i - off - 1 = i - (off + 1) from by omega]
   by_cases h3 : i - (off + 1) < vs.length
   ·simp [h3, show i - off < vs.length + 1 from by omega]
   ·simp only [h3, if_false, show ¬ i - off < vs.length + 1 from by omega, show off + (vs.length + 1) + (i - off - (vs.length + 1)) = i from by omega, show off + 1 + vs.length + (i - (off + 1) - vs.length) = i from by omega, show ¬ off = i from by omega]
theorem run_storeCells : ∀ (vs : List Value) (i : Nat) (w : World) (g off : Nat) (cs : List Value) (T : TypeId), vs.all oneC = true → off + i + vs.length ≤ cs.length → w.heap[g]? = some (.cells cs.toArray T (0, 0)) →
  ∃ w', (storeCells ⟨g, off, none⟩ vs i).run P w = .ok () w' ∧ w'.heap[g]? = some (.cells (splice cs (off + i) vs).toArray T (0, 0)) ∧ (∀ k, k ≠ g → w'.heap[k]? = w.heap[k]?) ∧ w'.heap.size = w.heap.size ∧ w'.os = w.os ∧ w'.tape = w.tape ∧ w'.output = w.output
 | [], i, w, g, off, cs, T, _, _, hg => ⟨w, rfl, by simpa [splice] using hg, fun _ _ => rfl, rfl, rfl, rfl, rfl⟩
 | v :: vs, i, w, g, off, cs, T, ha, hl, hg => by
  simp only [List.all_cons, Bool.and_eq_true] at ha
  simp only [List.length_cons] at hl
  have hc : w.cell? ⟨g, off + i, none⟩ = some (cs[off + i]'(by omega)) := by simp [World.cell?, hg, show off + i < cs.length from by omega]
  have hf : w.frozen? ⟨g, off + i, none⟩ = false := by simp [World.frozen?, hg]
  obtain ⟨w', h1, h2, h3, h4, h5, h6, h7⟩ := run_storeCells vs (i + 1) (w.setCell ⟨g, off + i, none⟩ v) g off (cs.set (off + i) v) T ha.2 (by simp; omega) (setCell_block hg v)
  refine ⟨w', ?_, ?_, fun k hk => ?_, ?_, h5, h6, h7⟩
  ·simp only [storeCells, Sem.run_bind, add_cell]
   rw [run_store_one ha.1 hc hf, Result.andThen_ok]
   exact h1
  ·rw [splice_cons cs (off + i) v vs (by simp only [List.length_cons]; omega)]; exact h2
  ·rw [h3 k hk, setCell_other v hk]
  ·rw [h4]; simp [World.setCell]
theorem e_store {t : TypeId} {n : Nat} {b : Bool} {hi : tinfo P t = some (b, n)} {x y : Operand} {g off : Nat} {cs vs cs' : List Value} {T : TypeId} {L' : List Blk} (ho : o.op = .store t x y) (hx : ρ x = .pointer (some ⟨g, off, none⟩))
  (hv : (ρ y).cells.toList = vs) (hs : SetB L g cs T cs' L') (hn : Nat.beq vs.length n = true) (ha : vs.all oneC = true) (hl : Nat.ble (off + vs.length) cs.length = true) (hc : splice cs off vs = cs') : EV1 P w0 o ρ L undef L' :=
 fun w hw => by
  have hn := Nat.eq_of_beq_eq_true hn
  obtain ⟨w', h1, h2, h3, h4, h5, h6, h7⟩ := run_storeCells (P := P) vs 0 w g off cs T ha (by simpa using Nat.le_of_ble_eq_true hl) (hw.block hs.has)
  have hrun : (execOp ρ o).run P w = .ok .skip w' := by
   simp only [execOp, ho, hx, Instr.storeAt, Instr.sureAddr, storeVar]
   have hsz : (ρ y).cells.size = n := by rw [← hn, ← hv]; simp
   simp [Sem.run_bind, run_sizeOf' hi w, hsz, hv, h1]
  rw [hrun]
  simp only [Nat.add_zero, hc] at h2
  exact ⟨L', ⟨rfl, rfl⟩, hw.set hs h2 h3 h4 h5 h6 h7⟩
/-! ### numbers -/
def arith (op : BinOp) (k : IntKind) (a b : Int) : Option Value :=
 match op with
 | .add => some (.int k (k.wrap (a + b)))
 | .sub => some (.int k (k.wrap (a - b)))
 | .mul => some (.int k (k.wrap (a * b)))
 | .and => some (.int k (bits .and k a b))
 | .or => some (.int k (bits .or k a b))
 | .xor => some (.int k (bits .xor k a b))
 | .eql => some (.bool (a == b))
 | .neq => some (.bool (a != b))
 | .lss => some (.bool (decide (a < b)))
 | .leq => some (.bool (decide (a ≤ b)))
 | .gtr => some (.bool (decide (a > b)))
 | .geq => some (.bool (decide (a ≥ b)))
 | _ => none
theorem run_binv {op : BinOp} {t ty : TypeId} {x y : Operand} {v : Value} {w : World} (ho : o.op = .binOp op t x y ty) (hg : (eqGuard op t x y (ρ x) (ρ y)).run P w = .ok () w) (h : (binOp op t (ρ x) (ρ y)).run P w = .ok v w) :
  (execOp ρ o).run P w = .ok (.value v) w := by
 simp only [execOp, ho]
 refine run_v ?_
 simp only [Sem.run_bind, hg, Result.andThen_ok, h]
theorem guard_int {op : BinOp} {t : TypeId} {x y : Operand} {k k' : IntKind} {a b : Int} {w : World} : (eqGuard op t x y (.int k a) (.int k' b)).run P w = .ok () w := by cases op <;> rfl
theorem q_bin {op : BinOp} {t ty : TypeId} {x y : Operand} {k : IntKind} {a b : Int} {v : Value} (ho : o.op = .binOp op t x y ty) (hx : ρ x = .int k a) (hy : ρ y = .int k b) (h : arith op k a b = some v) : QV P w0 o ρ L v :=
 q_of fun w _ => by
  refine run_binv ho (by rw [hx, hy]; exact guard_int) ?_
  rw [hx, hy]
  cases op <;> simp only [arith, Option.some.injEq, reduceCtorEq] at h <;> subst h <;> simp [binOp, Op.intArith, Op.intCmp, Op.intBits, bits, go_sem]
theorem q_quo {t ty : TypeId} {x y : Operand} {k : IntKind} {a b : Int} (ho : o.op = .binOp .quo t x y ty) (hx : ρ x = .int k a) (hy : ρ y = .int k b) (hb : (b == 0) = false) : QV P w0 o ρ L (.int k (k.wrap (a.tdiv b))) :=
 q_of fun w _ => by
  refine run_binv ho (by rw [hx, hy]; exact guard_int) ?_
  rw [hx, hy]
  have : b ≠ 0 := by simpa using hb
  simp [binOp, Op.intDiv, this, go_sem]
theorem q_rem {t ty : TypeId} {x y : Operand} {k : IntKind} {a b : Int} (ho : o.op = .binOp .rem t x y ty) (hx : ρ x = .int k a) (hy : ρ y = .int k b) (hb : (b == 0) = false) : QV P w0 o ρ L (.int k (a.tmod b)) :=
 q_of fun w _ => by
  refine run_binv ho (by rw [hx, hy]; exact guard_int) ?_
  rw [hx, hy]
  have : b ≠ 0 := by simpa using hb
  simp [binOp, Op.intDiv, this, go_sem]
theorem q_shl {t ty : TypeId} {x y : Operand} {k k' : IntKind} {a b : Int} (ho : o.op = .binOp .shl t x y ty) (hx : ρ x = .int k a) (hy : ρ y = .int k' b) (hb : decide (b < 0) = false) : QV P w0 o ρ L (.int k (k.wrap (a * 2 ^ (min b.toNat k.bits)))) :=
 q_of fun w _ => by
  refine run_binv ho (by rw [hx, hy]; exact guard_int) ?_
  rw [hx, hy]
  have : ¬ b < 0 := of_decide_eq_false hb
  simp [binOp, Op.shift, this, go_sem]
theorem q_shr {t ty : TypeId} {x y : Operand} {k k' : IntKind} {a b : Int} (ho : o.op = .binOp .shr t x y ty) (hx : ρ x = .int k a) (hy : ρ y = .int k' b) (hb : decide (b < 0) = false) : QV P w0 o ρ L (.int k (a.fdiv (2 ^ (min b.toNat k.bits)))) :=
 q_of fun w _ => by
  refine run_binv ho (by rw [hx, hy]; exact guard_int) ?_
  rw [hx, hy]
  have : ¬ b < 0 := of_decide_eq_false hb
  simp [binOp, Op.shift, this, go_sem]
theorem run_eq_bool {t : TypeId} (h : P.underlying t = some .bool) (a b : Bool) (w : World) : (Op.equal t (.bool a) (.bool b)).run P w = .ok (a == b) w := by
 have key : ∀ d, (Op.equalIn (d + 1) t (.bool a) (.bool b)).run P w = .ok (a == b) w := fun d => by simp [Op.equalIn, Sem.run_bind, run_underlying h w]
 exact key 9999
theorem q_eqb {t ty : TypeId} {hi : P.underlying t = some .bool} {x y : Operand} {a b : Bool} (ho : o.op = .binOp .eql t x y ty) (hx : ρ x = .bool a) (hy : ρ y = .bool b) : QV P w0 o ρ L (.bool (a == b)) :=
 q_of fun w _ => by
  refine run_binv ho (by rw [hx, hy]; rfl) ?_
  rw [hx, hy]
  simp only [binOp, Sem.run_bind, run_eq_bool hi, Result.andThen_ok]; rfl
theorem q_neb {t ty : TypeId} {hi : P.underlying t = some .bool} {x y : Operand} {a b : Bool} (ho : o.op = .binOp .neq t x y ty) (hx : ρ x = .bool a) (hy : ρ y = .bool b) : QV P w0 o ρ L (.bool (!(a == b))) :=
 q_of fun w _ => by
  refine run_binv ho (by rw [hx, hy]; rfl) ?_
  rw [hx, hy]
  simp only [binOp, Sem.run_bind, run_eq_bool hi, Result.andThen_ok]; rfl
theorem q_not {t : TypeId} {x : Operand} {b : Bool} (ho : o.op = .unOp .not t x) (hx : ρ x = .bool b) : QV P w0 o ρ L (.bool (!b)) :=
 q_of fun w _ => by simp only [execOp, ho, hx]; rfl
theorem q_neg {t : TypeId} {x : Operand} {k : IntKind} {a : Int} (ho : o.op = .unOp .neg t x) (hx : ρ x = .int k a) : QV P w0 o ρ L (.int k (k.wrap (0 - a))) :=
 q_of fun w _ => by simp only [execOp, ho, hx]; rfl
theorem q_conv {s d : TypeId} {k k' : IntKind} {hs : P.underlying s = some (.int k')} {hd : P.underlying d = some (.int k)} {x : Operand} {k2 : IntKind} {a : Int} (ho : o.op = .convert s d x) (hx : ρ x = .int k2 a) : QV P w0 o ρ L (.int k (k.wrap a)) :=
 q_of fun w _ => by
  simp only [execOp, ho, hx]
  refine run_v ?_
  simp [convert, Sem.run_bind, run_underlying hs w, run_underlying hd w, Conv.intToInt]
/-! ### structs that are one -/
def EqR (P : Program) (d : Nat) (t : TypeId) (u v : Value) (b : Bool) : Prop := ∀ w, (Op.equalIn d t u v).run P w = .ok b w
theorem eq_int {t : TypeId} {k : IntKind} {hi : P.underlying t = some (.int k)} {d : Nat} {a b : Int} : EqR P (d + 1) t (.int k a) (.int k b) (a == b) := fun w => by
 simp [Op.equalIn, Sem.run_bind, run_underlying hi w]
theorem eq_bool {t : TypeId} {hi : P.underlying t = some .bool} {d : Nat} {a b : Bool} : EqR P (d + 1) t (.bool a) (.bool b) (a == b) := fun w => by
 simp [Op.equalIn, Sem.run_bind, run_underlying hi w]
inductive FEq (P : Program) (d : Nat) (xs ys : List Value) : List Field → Bool → Prop where
 | nil : FEq P d xs ys [] true
 | agg {f fs u v b b' m} (hn : f.name ≠ "_") (hi : tinfo P f.type = some (true, m)) (hx : (xs.drop f.offset).take m = u) (hy : (ys.drop f.offset).take m = v) (he : EqR P d f.type (.agg u.toArray) (.agg v.toArray) b) (t : FEq P d xs ys fs b') : FEq P d xs ys (f :: fs) (b && b')
 | one {f fs u v b b' m} (hn : f.name ≠ "_") (hi : tinfo P f.type = some (false, m)) (hx : xs[f.offset]? = some u) (hy : ys[f.offset]? = some v) (he : EqR P d f.type u v b) (t : FEq P d xs ys fs b') : FEq P d xs ys (f :: fs) (b && b')
theorem FEq.run {d : Nat} {xs ys : List Value} {fs : List Field} {b : Bool} (h : FEq P d xs ys fs b) (w : World) :
  (forIn fs ((none, ()) : Option Bool × Unit) fun f _ => if f.name ≠ "_" then do
       let u ← part f.type xs.toArray f.offset
       let v ← part f.type ys.toArray f.offset
       let e ← Op.equalIn d f.type u v
       if (!e) = true then pure (ForInStep.done (some false, ())) else pure (ForInStep.yield (none, ()))
      else pure (ForInStep.yield (none, ())) : Sem (Option Bool × Unit)).run P w = .ok (if b then (none, ()) else (some false, ())) w := by
 induction h with
 | nil => simp
 | @agg f fs u v b b' m hn hi hx hy he t ih =>
  rw [List.forIn_cons]
  simp only [hn, ne_eq, not_false_eq_true, if_true, Sem.run_bind, run_part_agg hi hx, run_part_agg hi hy, Result.andThen_ok, he w]
  cases b
  ·simp
  ·simp only [Bool.not_true, Bool.false_eq_true, if_false, Sem.run_pure, Result.andThen_ok, Bool.true_and]; exact ih
 | @one f fs u v b b' m hn hi hx hy he t ih =>
  rw [List.forIn_cons]
  simp only [hn, ne_eq, not_false_eq_true, if_true, Sem.run_bind, run_part_one hi hx, run_part_one hi hy, Result.andThen_ok, he w]
  cases b
  ·simp
  ·simp only [Bool.not_true, Bool.false_eq_true, if_false, Sem.run_pure, Result.andThen_ok, Bool.true_and]; exact ih
theorem eq_struct {t : TypeId} {fs : List Field} (hu : P.underlying t = some (.struct fs.toArray)) (hst : P.stoodInHeld t = false) {d : Nat} {xs ys : List Value} {b : Bool} (h : FEq P d xs ys fs b) : EqR P (d + 1) t (.agg xs.toArray) (.agg ys.toArray) b := fun w => by
 have hp : (program).run P w = .ok P w := rfl
 rw [Op.equalIn]
 simp only [Sem.run_bind, run_underlying hu w, Result.andThen_ok, hp, hst, Bool.false_eq_true, if_false, List.forIn_toArray]
 rw [h.run w]
 cases b <;> simp
def EqOK (P : Program) (t : TypeId) (xs ys : List Value) (b : Bool) : Prop := P.eqGuardType P.depth t = false ∧ EqR P 10000 t (.agg xs.toArray) (.agg ys.toArray) b
theorem run_eqs {op : BinOp} {t : TypeId} {x y : Operand} {xs ys : List Value} {b : Bool} (hop : op = .eql ∨ op = .neq) (h : EqOK P t xs ys b) (w : World) : (eqGuard op t x y (.agg xs.toArray) (.agg ys.toArray)).run P w = .ok () w ∧ (Op.equal t (.agg xs.toArray) (.agg ys.toArray)).run P w = .ok b w := by
 refine ⟨?_, h.2 w⟩
 have hp : (program).run P w = .ok P w := rfl
 rcases hop with rfl | rfl <;> simp [eqGuard, Sem.run_bind, hp, h.1]
theorem q_eqs {t ty : TypeId} {x y : Operand} {xs ys : List Value} {b : Bool} (ho : o.op = .binOp .eql t x y ty) (hx : ρ x = .agg xs.toArray) (hy : ρ y = .agg ys.toArray) (h : EqOK P t xs ys b) : QV P w0 o ρ L (.bool b) :=
 q_of fun w _ => by
  obtain ⟨h1, h2⟩ := run_eqs (x := x) (y := y) (.inl rfl) h w
  refine run_binv ho (by rw [hx, hy]; exact h1) ?_
  rw [hx, hy]
  simp only [binOp, Sem.run_bind, h2, Result.andThen_ok]; rfl
theorem q_nes {t ty : TypeId} {x y : Operand} {xs ys : List Value} {b : Bool} (ho : o.op = .binOp .neq t x y ty) (hx : ρ x = .agg xs.toArray) (hy : ρ y = .agg ys.toArray) (h : EqOK P t xs ys b) : QV P w0 o ρ L (.bool (!b)) :=
 q_of fun w _ => by
  obtain ⟨h1, h2⟩ := run_eqs (x := x) (y := y) (.inr rfl) h w
  refine run_binv ho (by rw [hx, hy]; exact h1) ?_
  rw [hx, hy]
  simp only [binOp, Sem.run_bind, h2, Result.andThen_ok]; rfl
/-! ### indexes, lengths -/
theorem q_index_arr {t e n len : Nat} {ha : P.underlying t = some (.array len e)} {hi : tinfo P e = some (false, n)} {x y : Operand} {cs : List Value} {k : IntKind} {i : Int} {v : Value} (ho : o.op = .index t x y) (hx : ρ x = .agg cs.toArray) (hy : ρ y = .int k i)
  (hb : decide (0 ≤ i ∧ i < (len : Int)) = true) (hv : cs[i.toNat * n]? = some v) : QV P w0 o ρ L v :=
 q_of fun w _ => by
  have hb := of_decide_eq_true hb
  simp only [execOp, ho, hx, hy]
  refine run_v ?_
  simp only [Instr.index, asIntOf, Sem.run_bind, Sem.run_pure, Result.andThen_ok, run_underlying ha w, hb, and_self, if_true, run_sizeOf' hi w]
  exact run_part_one hi hv w
theorem q_indexAddr {t e n : Nat} {b : Bool} {hs : P.underlying t = some (.slice e)} {hi : tinfo P e = some (b, n)} {x y : Operand} {g off len cap : Nat} {k : IntKind} {i : Int} (ho : o.op = .indexAddr t x y) (hx : ρ x = .slice (some ⟨g, off, none⟩) len cap) (hy : ρ y = .int k i)
  (hb : 0 ≤ i ∧ i < (len : Int)) : QV P w0 o ρ L (.pointer (some ⟨g, off + i.toNat * n, none⟩)) :=
 q_of fun w _ => by
  simp only [execOp, ho, hx, hy]
  refine run_v ?_
  simp only [Instr.indexAt, asIntOf, Sem.run_bind, Sem.run_pure, Result.andThen_ok, run_underlying hs w, hb, and_self, if_true, run_sizeOf' hi w, add_cell]
theorem q_len_slice {t e : Nat} {hs : P.underlying t = some (.slice e)} {c : Call} {x : Operand} {a : Option Addr} {len cap : Nat} (ho : o.op = .call c) (hc : c.callee = .builtin .len) (ht : c.argTypes[0]? = some t) (ha : c.args = #[x]) (hx : ρ x = .slice a len cap) : QV P w0 o ρ L (.int .i64 (len : Int)) :=
 q_of fun w _ => by
  have h : (Builtin.len_ c.argTypes o.type #[.slice a len cap]).run P w = .ok (.int .i64 (len : Int)) w := by simp [Builtin.len_, ht, Sem.run_bind, run_underlying hs w, goInt]
  simp [execOp, ho, resolve, hc, ha, hx, Sem.run_bind, invoke, builtin, h]
theorem q_len_str {t : Nat} {c : Call} {x : Operand} {s : ByteArray} (hs : P.underlying t = some .string) (ho : o.op = .call c) (hc : c.callee = .builtin .len) (ht : c.argTypes[0]? = some t) (ha : c.args = #[x]) (hx : ρ x = .string s) : QV P w0 o ρ L (.int .i64 (s.size : Int)) :=
 q_of fun w _ => by
  have h : (Builtin.len_ c.argTypes o.type #[.string s]).run P w = .ok (.int .i64 (s.size : Int)) w := by simp [Builtin.len_, ht, Sem.run_bind, run_underlying hs w, goInt]
  simp [execOp, ho, resolve, hc, ha, hx, Sem.run_bind, invoke, builtin, h]
/-! ### what a call hands back -/
def RV (P : Program) (w0 : World) (n : Nat) (l : List (Nat × Value)) (L : List Blk) (r : ResultVar) (v : Value) : Prop :=
 match r with
 | .tmp t => evL n l (.tmp t) = v
 | .cell a t => ∀ w, Own w0 L w → ∃ ad, evL n l (.tmp a) = .pointer (some ad) ∧ (loadVar t ad).run P w = .ok v w
variable {n : Nat} {l : List (Nat × Value)}
theorem rv_tmp {t : Tmp} {v : Value} (h : evL n l (.tmp t) = v) : RV P w0 n l L (.tmp t) v := h
theorem rv_agg {a : Tmp} {t : TypeId} {m : Nat} {hi : tinfo P t = some (true, m)} {g off : Nat} {cs vs : List Value} {T : TypeId} (hx : evL n l (.tmp a) = .pointer (some ⟨g, off, none⟩)) (hm : HasB L g cs T) (hv : (cs.drop off).take m = vs) (hl : vs.length = m) : RV P w0 n l L (.cell a t) (.agg vs.toArray) :=
 fun w hw => ⟨_, hx, run_loadVar_agg hi hl fun j v hj => by rw [HasB.cell hw hm]; exact take_drop_get hv j v hj⟩
def resF (tmps : Array Value) : ResultVar → Sem Value
 | .tmp t => pure (tmps.getD t undef)
 | .cell a t => do loadVar t (← asAddr (tmps.getD a undef))
theorem rv_run {r : ResultVar} {v : Value} (h : RV P w0 n l L r v) {w : World} (hw : Own w0 L w) : (resF (frm n l).tmps r).run P w = .ok v w := by
 have e : ∀ t, (frm n l).tmps.getD t undef = evL n l (.tmp t) := fun t => by rw [← frm_eval]; rfl
 cases r with
 | tmp t => have h : evL n l (.tmp t) = v := h; simp only [resF, e, h]; rfl
 | cell a t =>
  obtain ⟨ad, h1, h2⟩ := h w hw
  simp only [resF, e, h1, asAddr, Sem.run_bind, Sem.run_pure, Result.andThen_ok, h2]
theorem results_eq (fn : Func) (tmps : Array Value) : results fn tmps = (do let vs ← fn.results.mapM (resF tmps); pure (if h : vs.size = 1 then vs[0] else .tuple vs)) := by
 unfold results
 congr 1
end
end Go.Proofs.Ytedfbamihjnhhaa.Own
