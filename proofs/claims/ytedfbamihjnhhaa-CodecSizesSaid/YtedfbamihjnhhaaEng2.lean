/- An engine for walks, the second part: frames as lists, operations, code. -/
import Derived.Test.YtedfbamihjnhhaaEng1
import Derived.Laws.Externs
import Derived.Laws.Entries
import Derived.LoopTactic
namespace Go.Proofs.Ytedfbamihjnhhaa.Own
open Go Go.RowKit
set_option linter.unusedVariables false
set_option linter.unusedSimpArgs false
/-! ### frames -/
def look : List (Nat × Value) → Nat → Value
 | [], _ => undef
 | (d, v) :: l, t => bif Nat.beq d t then v else look l t
def frm (n : Nat) (l : List (Nat × Value)) : Act := { tmps := Array.ofFn fun i : Fin n => look l i, defers := [] }
def evL (n : Nat) (l : List (Nat × Value)) : Operand → Value
 | .tmp t => bif Nat.blt t n then look l t else undef
 | .const v => v
 | .global g => .pointer (some ⟨g, 0, none⟩)
 | .func f => .func (.func f) #[] #[]
def putL (dst : Option Tmp) (v : Value) (l : List (Nat × Value)) : List (Nat × Value) := match dst with | none => l | some d => (d, v) :: l
theorem frm_get (n : Nat) (l : List (Nat × Value)) (t : Nat) : (frm n l).tmps[t]? = if t < n then some (look l t) else none := by
 unfold frm
 by_cases h : t < n <;> simp [h]
theorem frm_eval (n : Nat) (l : List (Nat × Value)) : (frm n l).eval = evL n l := by
 funext x
 cases x with
 | tmp t =>
  show (frm n l).tmps.getD t undef = _
  rw [Array.getD_eq_getD_getElem?, frm_get]
  by_cases h : t < n
  ·have : Nat.blt t n = true := by simpa [Nat.blt_eq] using h
   simp [h, evL, this]
  ·have : Nat.blt t n = false := by rw [Bool.eq_false_iff]; intro e; exact h (by simpa [Nat.blt_eq] using e)
   simp [h, evL, this]
 | _ => rfl
theorem frm_put (n : Nat) (l : List (Nat × Value)) (dst : Option Tmp) (v : Value) : (frm n l).put dst v = frm n (putL dst v l) := by
 cases dst with
 | none => rfl
 | some d =>
  simp only [Act.put, frm, putL, Act.mk.injEq, and_true]
  have g : ∀ (l : List (Nat × Value)) (i : Nat), (Array.ofFn fun i : Fin n => look l i)[i]? = if i < n then some (look l i) else none := fun l i => frm_get n l i
  apply Array.ext_getElem?
  intro i
  rw [g]
  by_cases e : d = i
  ·subst e
   by_cases hd : d < n
   ·rw [Array.getElem?_setIfInBounds_self_of_lt (by simpa using hd)]; simp [hd, look]
   ·rw [Array.getElem?_eq_none (by simpa using hd)]; simp [hd]
  ·have : Nat.beq d i = false := by rw [Bool.eq_false_iff]; intro q; exact e (Nat.eq_of_beq_eq_true q)
   rw [Array.getElem?_setIfInBounds_ne e, g]; simp [look, this]
def wantL (ops : List Oper) (n : Nat) (l : List (Nat × Value)) (o : Oper) : Bool :=
 match o.guard with
 | none => true
 | some (j, want) =>
  match (ops[j]?).bind (·.dst) with
  | none => false
  | some d => match evL n l (.tmp d) with
   | .bool b => b == want
   | _ => false
theorem want_eq (ops : List Oper) (n : Nat) (l : List (Nat × Value)) (o : Oper) : Region.wanted o (yielded ops.toArray (frm n l).tmps) = wantL ops n l o := by
 unfold Region.wanted wantL
 cases o.guard with
 | none => rfl
 | some p =>
  obtain ⟨j, want⟩ := p
  simp only [yielded, List.getElem?_toArray]
  cases (ops[j]?).bind (·.dst) with
  | none => cases want <;> rfl
  | some d =>
   simp only [Option.bind_some, frm_get, evL]
   by_cases h : d < n
   ·have hb : Nat.blt d n = true := by simpa [Nat.blt_eq] using h
    simp only [h, hb, if_true, cond_true]
    cases look l d <;> first | rfl | (rename_i b; cases b <;> cases want <;> rfl)
   ·have hb : Nat.blt d n = false := by rw [Bool.eq_false_iff]; intro e; exact h (by simpa [Nat.blt_eq] using e)
    simp only [h, hb, if_false, cond_false, undef]
    cases want <;> rfl
theorem want_t {ops : List Oper} {n : Nat} {l : List (Nat × Value)} {o : Oper} {j d : Nat} {e : Bool} (hg : o.guard = some (j, true)) (hd : (ops[j]?).bind (·.dst) = some d) (he : evL n l (.tmp d) = .bool e) (h : e = true) : wantL ops n l o = true := by
 subst h; simp [wantL, hg, hd, he]
theorem want_f {ops : List Oper} {n : Nat} {l : List (Nat × Value)} {o : Oper} {j d : Nat} {e : Bool} (hg : o.guard = some (j, false)) (hd : (ops[j]?).bind (·.dst) = some d) (he : evL n l (.tmp d) = .bool e) (h : e = false) : wantL ops n l o = true := by
 subst h; simp [wantL, hg, hd, he]
theorem skip_t {ops : List Oper} {n : Nat} {l : List (Nat × Value)} {o : Oper} {j d : Nat} {e : Bool} (hg : o.guard = some (j, true)) (hd : (ops[j]?).bind (·.dst) = some d) (he : evL n l (.tmp d) = .bool e) (h : e = false) : wantL ops n l o = false := by
 subst h; simp [wantL, hg, hd, he]
theorem skip_f {ops : List Oper} {n : Nat} {l : List (Nat × Value)} {o : Oper} {j d : Nat} {e : Bool} (hg : o.guard = some (j, false)) (hd : (ops[j]?).bind (·.dst) = some d) (he : evL n l (.tmp d) = .bool e) (h : e = true) : wantL ops n l o = false := by
 subst h; simp [wantL, hg, hd, he]
/-! ### kinds -/
def kf (draws : Bool) (ov : List (Nat × Kind)) (o : Oper) : Kind :=
 match o.op with
 | .alloc _ | .box .. | .buildSlice .. => .alloc
 | op =>
  if draws then
   match (o.dst.bind fun d => ov.lookup d) with
   | some k => k
   | none => match op with
    | .load .. => .base
    | .store _ (.tmp t) _ => (ov.lookup (2000 + t)).getD ((ov.lookup 998).getD .eff0)
    | .store .. => (ov.lookup 998).getD .eff0
    | .makeSlice .. | .insert .. | .mapUpdate .. | .entryStore .. | .next .. | .range .. => .eff
    | .call { callee := .builtin .append, .. } | .call { callee := .builtin .copy, .. } | .call { callee := .builtin .clear, .. } | .call { callee := .builtin .delete, .. } => .eff
    | .call { callee := .value (.func f), .. } => (ov.lookup (f + 1000)).getD .pure
    | .call { callee := .value _, .. } => (ov.lookup 999).getD .pure
    | _ => .pure
  else .eff
theorem kf_text {ov : List (Nat × Kind)} {o : Oper} (h : kf false ov o ≠ .alloc) : kf false ov o = .eff := by
 unfold kf at *
 split at h <;> simp_all
section
variable {P : Program} {w0 : World}
structure lexO (P : Program) (w0 : World) (L0 : List Blk) (ops : List Oper) (q : Bool) (E : List (Nat × Kind)) (K : Act → List Blk → Prop) (r : List Oper) (a : Act) (L : List Blk) : Prop where
 out : lexW P w0 L0 ops.toArray K (r.map fun o => (kf q E o, o)) a L
structure J (P : Program) (w0 : World) (c : Code) (Q : Exit → Act → World → Prop) (a : Act) (L : List Blk) : Prop where
 out : ∀ w, Own w0 L w → c.wp P Q a w
structure X (w0 : World) (Q : Exit → Act → World → Prop) (e : Exit) (a : Act) (L : List Blk) : Prop where
 out : ∀ w, Own w0 L w → Q e a w
variable {L0 : List Blk} {ops rest : List Oper} {q : Bool} {E : List (Nat × Kind)} {K : Act → List Blk → Prop} {n : Nat} {l : List (Nat × Value)} {L : List Blk} {o : Oper} {v : Value}
theorem s_nil (h : K (frm n l) L) : lexO P w0 L0 ops q E K [] (frm n l) L := ⟨h⟩
theorem s_skip (hw : wantL ops n l o = false) (h : lexO P w0 L0 ops q E K rest (frm n (putL o.dst undef l)) L) : lexO P w0 L0 ops q E K (o :: rest) (frm n l) L := by
 constructor
 simp only [List.map_cons, lexW, want_eq, hw, Bool.false_eq_true, if_false, frm_put]
 exact h.out
theorem s_val (hw : wantL ops n l o = true) (hk : (kf q E o).val = true ∨ kf q E o = .eff) (hv : (kf q E o).val = true → VK P w0 L0 (kf q E o) o (evL n l) L v) (hv2 : QV P w0 o (evL n l) L v) (h : lexO P w0 L0 ops q E K rest (frm n (putL o.dst v l)) L) : lexO P w0 L0 ops q E K (o :: rest) (frm n l) L := by
 constructor
 simp only [List.map_cons, lexW, want_eq, hw, if_true]
 rcases hk with hk | hk
 ·have hv := hv hk
  revert hk hv
  cases kf q E o <;> intro hk hv <;> simp [Kind.val] at hk <;> exact ⟨v, by rw [frm_eval]; exact hv, by rw [frm_put]; exact h.out⟩
 ·rw [hk]
  refine ⟨fun u M => u = v ∧ M = L, ?_, ?_⟩
  ·intro w hw'
   rw [frm_eval]
   have h1 := hv2 w hw'
   generalize (execOp (evL n l) o).run P w = r at *
   cases r with
   | ok x w' =>
    cases x <;> simp only [quietUpon] at h1 <;> simp only [effUpon]
    case value u => obtain ⟨rfl, rfl⟩ := h1; exact ⟨L, ⟨rfl, rfl⟩, hw'⟩
    case skip => obtain ⟨rfl, rfl⟩ := h1; exact ⟨L, ⟨rfl, rfl⟩, hw'⟩
    case enter f args =>
     obtain ⟨rfl, hc⟩ := h1
     exact hc.mono fun e w'' ⟨he, hb⟩ => ⟨v, L, he, ⟨rfl, rfl⟩, hw'.ext hb⟩
   | halt x w' => simp only [quietUpon] at h1
  ·rintro u M ⟨rfl, rfl⟩
   rw [frm_put]; exact h.out
theorem s_ask {j d : Nat} {e want : Bool} (hg : o.guard = some (j, want)) (hd : (ops[j]?).bind (·.dst) = some d) (he : evL n l (.tmp d) = .bool e)
  (ht : e = true → lexO P w0 L0 ops q E K (o :: rest) (frm n l) L) (hf : e = false → lexO P w0 L0 ops q E K (o :: rest) (frm n l) L) : lexO P w0 L0 ops q E K (o :: rest) (frm n l) L := by
 cases e
 ·exact hf rfl
 ·exact ht rfl
theorem s_alloc {k : Option Nat} {cs : List Value} {t : TypeId} (hw : wantL ops n l o = true) (hk : kf q E o = .alloc) (hv : allocOf P o (evL n l) = some (k, cs, t))
  (h : ∀ g, lexO P w0 L0 ops q E K rest (frm n (putL o.dst (allocV k g) l)) ((g, cs, t) :: L)) : lexO P w0 L0 ops q E K (o :: rest) (frm n l) L := by
 constructor
 simp only [List.map_cons, lexW, want_eq, hw, if_true, hk]
 exact ⟨k, cs, t, by rw [frm_eval]; exact hv, fun g => by rw [frm_put]; exact (h g).out⟩
theorem s_eff {R : Value → List Blk → Prop} (hw : wantL ops n l o = true) (hk : kf q E o = .eff ∨ kf q E o = .eff0) (hv : EV P w0 o (evL n l) L R) (h0 : kf q E o = .eff0 → ∀ v L', R v L' → ∀ b ∈ L0, b ∈ L')
  (h : ∀ v L', R v L' → lexO P w0 L0 ops q E K rest (frm n (putL o.dst v l)) L') : lexO P w0 L0 ops q E K (o :: rest) (frm n l) L := by
 constructor
 simp only [List.map_cons, lexW, want_eq, hw, if_true]
 rcases hk with hk | hk
 ·rw [hk]; exact ⟨R, by rw [frm_eval]; exact hv, fun v L' hr => by rw [frm_put]; exact (h v L' hr).out⟩
 ·rw [hk]; exact ⟨R, by rw [frm_eval]; exact hv, h0 hk, fun v L' hr => by rw [frm_put]; exact (h v L' hr).out⟩
theorem s_fresh {R : Value → List Blk → Prop} (hw : wantL ops n l o = true) (hk : kf q E o = .fresh) (hv : FV P w0 o (evL n l) L R) (h0 : ∃ v LN, R v LN)
  (h : ∀ v LN, R v LN → lexO P w0 L0 ops q E K rest (frm n (putL o.dst v l)) (LN ++ L)) : lexO P w0 L0 ops q E K (o :: rest) (frm n l) L := by
 constructor
 simp only [List.map_cons, lexW, want_eq, hw, if_true, hk]
 exact ⟨R, by rw [frm_eval]; exact hv, h0, fun v LN hr => by rw [frm_put]; exact (h v LN hr).out⟩
def EV1 (P : Program) (w0 : World) (o : Oper) (ρ : Operand → Value) (L : List Blk) (v : Value) (L' : List Blk) : Prop := EV P w0 o ρ L fun u M => u = v ∧ M = L'
theorem s_eff1 {L' : List Blk} (hw : wantL ops n l o = true) (hk : kf q E o = .eff ∨ kf q E o = .eff0) (h0 : kf q E o = .eff0 → ∀ b ∈ L0, b ∈ L') (hv : EV1 P w0 o (evL n l) L v L')
  (h : lexO P w0 L0 ops q E K rest (frm n (putL o.dst v l)) L') : lexO P w0 L0 ops q E K (o :: rest) (frm n l) L :=
 s_eff hw hk hv (fun hk v M hr => by rw [hr.2]; exact h0 hk) fun u M ⟨h1, h2⟩ => by subst h1; subst h2; exact h
theorem lexW_mono {L0 : List Blk} {ops : Array Oper} {K K' : Act → List Blk → Prop} (h : ∀ a L, K a L → K' a L) : ∀ (r : List (Kind × Oper)) {a : Act} {L : List Blk}, lexW P w0 L0 ops K r a L → lexW P w0 L0 ops K' r a L
 | [], _, _, hh => h _ _ hh
 | (k, o) :: r, a, L, hh => by
  simp only [lexW] at hh ⊢
  split
  ·rename_i hw; simp only [hw, if_true] at hh; exact opK_mono (fun a L hx => lexW_mono h r hx) hh
  ·rename_i hw; simp only [hw] at hh; exact lexW_mono h r hh
/-! ### code -/
theorem j_text {Q : Exit → Act → World → Prop} {id : Nat} {a : Act} (h : lexO P w0 L ops false [] (fun a' L' => X w0 Q .normal a' L') ops a L) : J P w0 (.region id ops.toArray false) Q a L := by
 have h := h.out
 constructor
 refine wp_text (L0 := L) (κ := fun i => kf false [] (ops.toArray.getD i default)) (lexW_mono (K := fun a' L' => X w0 Q .normal a' L') (fun a' L' hx w' ho => hx.out w' ho) _ ?_)
 have : (List.range ops.toArray.size).map (fun i => (kf false [] (ops.toArray.getD i default), ops.toArray.getD i default)) = ops.map fun o => (kf false [] o, o) := by
  apply List.ext_getElem?
  intro i
  simp only [List.getElem?_map, List.size_toArray]
  by_cases hi : i < ops.length
  ·rw [List.getElem?_range hi, List.getElem?_eq_getElem hi]
   simp [hi]
  ·rw [List.getElem?_eq_none (by simpa using hi), List.getElem?_eq_none (by simpa using hi)]; rfl
 rw [this]
 exact h
theorem j_draw {Q : Exit → Act → World → Prop} {id : Nat} {a : Act} (E : List (Nat × Kind)) (hm : P.follows .mixedOrders = true)
  (hB : (Region.noSelect ops.toArray && orderB ops.toArray (fun i => kf true E (ops.toArray.getD i default)) (List.range ops.length) (Array.replicate ops.length false)) = true)
  (h : lexO P w0 L ops true E (fun a' L' => X w0 Q .normal a' L') ops a L) : J P w0 (.region id ops.toArray true) Q a L := by
 have h := h.out
 constructor
 simp only [Bool.and_eq_true] at hB
 refine wp_draws (L0 := L) (κ := fun i => kf true E (ops.toArray.getD i default)) (List.range ops.length) hm hB.1 (by simp) (by simpa using hB.2) (lexW_mono (K := fun a' L' => X w0 Q .normal a' L') (fun a' L' hx w' ho => hx.out w' ho) _ ?_)
 have : (List.range ops.length).map (fun i => (kf true E (ops.toArray.getD i default), ops.toArray.getD i default)) = ops.map fun o => (kf true E o, o) := by
  apply List.ext_getElem?
  intro i
  simp only [List.getElem?_map]
  by_cases hi : i < ops.length
  ·rw [List.getElem?_range hi, List.getElem?_eq_getElem hi]
   simp [hi]
  ·rw [List.getElem?_eq_none (by simpa using hi), List.getElem?_eq_none (by simpa using hi)]; rfl
 rw [this]
 exact h
theorem j_drawB {Q : Exit → Act → World → Prop} {id : Nat} {a : Act} (E : List (Nat × Kind)) (B : List Blk) (hm : P.follows .mixedOrders = true)
  (hB : (Region.noSelect ops.toArray && orderB ops.toArray (fun i => kf true E (ops.toArray.getD i default)) (List.range ops.length) (Array.replicate ops.length false)) = true)
  (h : lexO P w0 B ops true E (fun a' L' => X w0 Q .normal a' L') ops a L) : J P w0 (.region id ops.toArray true) Q a L := by
 have h := h.out
 constructor
 simp only [Bool.and_eq_true] at hB
 refine wp_draws (L0 := B) (κ := fun i => kf true E (ops.toArray.getD i default)) (List.range ops.length) hm hB.1 (by simp) (by simpa using hB.2) (lexW_mono (K := fun a' L' => X w0 Q .normal a' L') (fun a' L' hx w' ho => hx.out w' ho) _ ?_)
 have : (List.range ops.length).map (fun i => (kf true E (ops.toArray.getD i default), ops.toArray.getD i default)) = ops.map fun o => (kf true E o, o) := by
  apply List.ext_getElem?
  intro i
  simp only [List.getElem?_map]
  by_cases hi : i < ops.length
  ·rw [List.getElem?_range hi, List.getElem?_eq_getElem hi]
   simp [hi]
  ·rw [List.getElem?_eq_none (by simpa using hi), List.getElem?_eq_none (by simpa using hi)]; rfl
 rw [this]
 exact h
variable {Q : Exit → Act → World → Prop} {a : Act} {x y : Code}
theorem j_seq (h : J P w0 x (Exit.then (y.wp P Q) Q) a L) : J P w0 (.seq x y) Q a L := ⟨fun w hw => wp_seq (h.out w hw)⟩
theorem j_skip (h : X w0 Q .normal a L) : J P w0 .skip Q a L := ⟨fun w hw => wp_skip (h.out w hw)⟩
theorem j_ret (h : X w0 Q .ret a L) : J P w0 .ret Q a L := ⟨fun w hw => wp_ret (h.out w hw)⟩
theorem j_exit {id : Nat} (h : X w0 Q (.exit id) a L) : J P w0 (.exit id) Q a L := ⟨fun w hw => wp_exit (h.out w hw)⟩
theorem j_block {id : Nat} (h : J P w0 x (Exit.inBlock id Q) a L) : J P w0 (.block id x) Q a L := ⟨fun w hw => wp_block (h.out w hw)⟩
theorem j_split {c : Operand} {t : Bool} (hc : evL n l c = .bool t) (ht : t = true → J P w0 x Q (frm n l) L) (hf : t = false → J P w0 y Q (frm n l) L) : J P w0 (.cond c x y) Q (frm n l) L :=
 ⟨fun w hw => wp_cond_split (t := t) (by rw [frm_eval]; exact hc) (fun h => (ht h).out w hw) (fun h => (hf h).out w hw)⟩
theorem j_true {c : Operand} (hc : evL n l c = .bool true) (h : J P w0 x Q (frm n l) L) : J P w0 (.cond c x y) Q (frm n l) L :=
 ⟨fun w hw => wp_cond_true (by rw [frm_eval]; exact hc) (h.out w hw)⟩
theorem j_false {c : Operand} (hc : evL n l c = .bool false) (h : J P w0 y Q (frm n l) L) : J P w0 (.cond c x y) Q (frm n l) L :=
 ⟨fun w hw => wp_cond_false (by rw [frm_eval]; exact hc) (h.out w hw)⟩
theorem x_then (h : J P w0 y Q a L) : X w0 (Exit.then (y.wp P Q) Q) .normal a L := ⟨fun w hw => h.out w hw⟩
theorem x_then_ret {N : Act → World → Prop} (h : X w0 Q .ret a L) : X w0 (Exit.then N Q) .ret a L := ⟨fun w hw => h.out w hw⟩
theorem x_then_exit {N : Act → World → Prop} {id : Nat} (h : X w0 Q (.exit id) a L) : X w0 (Exit.then N Q) (.exit id) a L := ⟨fun w hw => h.out w hw⟩
theorem x_block {id : Nat} (h : X w0 Q .normal a L) : X w0 (Exit.inBlock id Q) .normal a L := ⟨fun w hw => h.out w hw⟩
theorem x_block_ret {id : Nat} (h : X w0 Q .ret a L) : X w0 (Exit.inBlock id Q) .ret a L := ⟨fun w hw => h.out w hw⟩
theorem x_block_hit {id : Nat} (h : X w0 Q .normal a L) : X w0 (Exit.inBlock id Q) (.exit id) a L := ⟨fun w hw => by
 simp only [Exit.inBlock, if_true]; exact h.out w hw⟩
theorem x_block_miss {id id' : Nat} (hne : Nat.beq id' id = false) (h : X w0 Q (.exit id') a L) : X w0 (Exit.inBlock id Q) (.exit id') a L := ⟨fun w hw => by
 have : id' ≠ id := fun e => by rw [e] at hne; simp at hne
 simp only [Exit.inBlock, this, if_false]; exact h.out w hw⟩
/-! ### a function that only computes -/
def Pure (P : Program) (f : FuncId) (args : Array Value) (v : Value) : Prop := ∀ w, Calls P f args w fun e w' => e = .returned v ∧ Below w.heap.size w w'
def initL (args : List Value) : List (Nat × Value) := go 0 args
where go : Nat → List Value → List (Nat × Value)
 | _, [] => []
 | i, v :: r => (i, v) :: go (i + 1) r
theorem look_go (args : List Value) : ∀ i t, look (initL.go i args) (i + t) = args.getD t undef := by
 induction args with
 | nil => intro i t; simp [initL.go, look]
 | cons v r ih =>
  intro i t
  simp only [initL.go, look]
  cases t with
  | zero => simp
  | succ t =>
   have : Nat.beq i (i + (t + 1)) = false := by rw [Bool.eq_false_iff]; intro q; have := Nat.eq_of_beq_eq_true q; omega
   simp only [this, cond_false, List.getD_cons_succ]
   have := ih (i + 1) t
   rw [show i + 1 + t = i + (t + 1) from by omega] at this
   exact this
theorem frm_init (args : List Value) (n : Nat) (h : Nat.ble args.length n = true) : ({ tmps := args.toArray ++ Array.replicate (n - args.toArray.size) undef, defers := [] } : Act) = frm n (initL args) := by
 have h := Nat.le_of_ble_eq_true h
 simp only [frm, Act.mk.injEq, and_true]
 apply Array.ext
 ·simp; omega
 ·intro i h1 h2
  have hl := look_go args 0 i
  simp only [Nat.zero_add] at hl
  simp only [Array.getElem_ofFn, initL, hl]
  rw [Array.getElem_append]
  by_cases hi : i < args.length
  ·simp [hi]
  ·simp [hi]
theorem calls_J {f : FuncId} {fn : Func} {c : Code} {args : List Value} {w : World} {R : Ending → World → Prop} {n : Nat} (hf : P.funcs[f]? = some fn) (hb : fn.body = some c) (hn : fn.ntmps = n) (hl : Nat.ble args.length n = true)
  (h : J P w c (bodyPost P fn R) (frm n (initL args)) []) : Calls P f args.toArray w R := by
 subst hn
 refine calls_of_wp hf hb ?_
 rw [frm_init args _ hl]
 exact h.out w (Own.start w)
theorem pure_J {f : FuncId} {fn : Func} {c : Code} {args : List Value} {v : Value} {n : Nat} (hf : P.funcs[f]? = some fn) (hb : fn.body = some c) (hn : fn.ntmps = n) (hl : Nat.ble args.length n = true)
  (h : ∀ w0, J P w0 c (bodyPost P fn (fun e w' => e = .returned v ∧ Below w0.heap.size w0 w')) (frm n (initL args)) []) : Pure P f args.toArray v :=
 fun w => calls_J hf hb hn hl (h w)
inductive HasB : List Blk → Nat → List Value → TypeId → Prop where
 | here {L g cs t} : HasB ((g, cs, t) :: L) g cs t
 | next {L g cs t b} (h : HasB L g cs t) : HasB (b :: L) g cs t
theorem HasB.mem {L : List Blk} {g : Nat} {cs : List Value} {t : TypeId} (h : HasB L g cs t) : (g, cs, t) ∈ L := by
 induction h with
 | here => exact .head _
 | next _ ih => exact .tail _ ih
inductive SetB : List Blk → Nat → List Value → TypeId → List Value → List Blk → Prop where
 | here {L g cs t cs'} : SetB ((g, cs, t) :: L) g cs t cs' ((g, cs', t) :: L)
 | next {L L' g cs t cs' b} (h : SetB L g cs t cs' L') : SetB (b :: L) g cs t cs' (b :: L')
theorem SetB.has {L L' : List Blk} {g : Nat} {cs cs' : List Value} {t : TypeId} (h : SetB L g cs t cs' L') : HasB L g cs t := by
 induction h with
 | here => exact .here
 | next _ ih => exact .next ih
theorem SetB.spec {L L' : List Blk} {g : Nat} {cs cs' : List Value} {t : TypeId} (h : SetB L g cs t cs' L') (hp : L.Pairwise (fun x y => x.1 ≠ y.1)) :
  L'.map (·.1) = L.map (·.1) ∧ ∀ b ∈ L', (b.1 = g ∧ b = (g, cs', t)) ∨ (b.1 ≠ g ∧ b ∈ L) := by
 induction h with
 | here =>
  refine ⟨rfl, fun b hb => ?_⟩
  rcases List.mem_cons.1 hb with rfl | hb
  ·exact .inl ⟨rfl, rfl⟩
  ·exact .inr ⟨fun e => (List.pairwise_cons.1 hp).1 b hb e.symm, .tail _ hb⟩
 | @next L L' g cs t cs' b h ih =>
  obtain ⟨h1, h2⟩ := ih (List.pairwise_cons.1 hp).2
  refine ⟨by simp [h1], fun x hx => ?_⟩
  rcases List.mem_cons.1 hx with rfl | hx
  ·exact .inr ⟨fun e => (List.pairwise_cons.1 hp).1 _ h.has.mem (by simpa using e), .head _⟩
  ·rcases h2 x hx with h3 | h3
   ·exact .inl h3
   ·exact .inr ⟨h3.1, .tail _ h3.2⟩
theorem Own.block {w : World} {g : Nat} {cs : List Value} {t : TypeId} (h : Own w0 L w) (hm : HasB L g cs t) : w.heap[g]? = some (.cells cs.toArray t (0, 0)) := h.held _ hm.mem
theorem Own.set {w w' : World} {L' : List Blk} {g : Nat} {cs cs' : List Value} {t : TypeId} (h : Own w0 L w) (hs : SetB L g cs t cs' L') (hg : w'.heap[g]? = some (.cells cs'.toArray t (0, 0)))
  (hk : ∀ k, k ≠ g → w'.heap[k]? = w.heap[k]?) (hz : w'.heap.size = w.heap.size) (h1 : w'.os = w.os) (h2 : w'.tape = w.tape) (h3 : w'.output = w.output) : Own w0 L' w' := by
 obtain ⟨e1, e2⟩ := hs.spec h.apart
 have hb := h.base _ hs.has.mem
 refine ⟨h.below.trans ⟨h1, h2, h3, by omega, fun k hlt => hk k (by simp only at hb; omega)⟩, ?_, ?_, ?_⟩
 ·intro b hm
  rcases e2 b hm with ⟨_, rfl⟩ | ⟨_, hb'⟩
  ·exact hb
  ·exact h.base b hb'
 ·intro b hm
  rcases e2 b hm with ⟨_, rfl⟩ | ⟨hne, hb'⟩
  ·exact hg
  ·rw [hk b.1 hne]; exact h.held b hb'
 ·have hp := h.apart
  have : (L.map (·.1)).Pairwise (· ≠ ·) := List.pairwise_map.2 hp
  rw [← e1] at this
  exact List.pairwise_map.1 this
end
end Go.Proofs.Ytedfbamihjnhhaa.Own
