/- An engine for walks: what a region does to blocks of the call's own, whatever order is drawn. -/
import Derived.Still
import Derived.Below
import Derived.Laws.Cells
import Derived.Laws.Rows
import Derived.KernelRfl
namespace Go.Proofs.Ytedfbamihjnhhaa.Own
open Go Go.RowKit
set_option linter.unusedVariables false
set_option linter.unusedSimpArgs false
abbrev Blk := Nat × List Value × TypeId
def bobj (b : Blk) : Obj := .cells b.2.1.toArray b.2.2
structure Own (w0 : World) (L : List Blk) (w : World) : Prop where
 below : Below w0.heap.size w0 w
 base : ∀ b ∈ L, w0.heap.size ≤ b.1
 held : ∀ b ∈ L, w.heap[b.1]? = some (bobj b)
 apart : L.Pairwise (fun x y => x.1 ≠ y.1)
theorem Own.start (w0 : World) : Own w0 [] w0 := ⟨Below.refl _ _, by simp, by simp, by simp⟩
theorem Own.lt {w0 w : World} {L : List Blk} (h : Own w0 L w) {b : Blk} (hb : b ∈ L) : b.1 < w.heap.size := by
 have := h.held b hb
 exact (Array.getElem?_eq_some_iff.1 this).1
theorem Own.ext {w0 w w' : World} {L : List Blk} (h : Own w0 L w) (hb : Below w.heap.size w w') : Own w0 L w' :=
 ⟨h.below.trans (hb.mono h.below.size), h.base, fun b hm => by rw [hb.block b.1 (h.lt hm)]; exact h.held b hm, h.apart⟩
theorem Own.drew {w0 w : World} {L : List Blk} (h : Own w0 L w) : Own w0 L { w with drawn := w.drawn + 1 } :=
 ⟨⟨h.below.os, h.below.tape, h.below.output, h.below.size, h.below.block⟩, h.base, h.held, h.apart⟩
theorem Own.perm {w0 w : World} {L L' : List Blk} (p : L.Perm L') (h : Own w0 L w) : Own w0 L' w :=
 ⟨h.below, fun b hb => h.base b (p.mem_iff.2 hb), fun b hb => h.held b (p.mem_iff.2 hb), (p.pairwise_iff (fun {x y} hxy => Ne.symm hxy)).1 h.apart⟩
theorem Own.tail {w0 w : World} {b : Blk} {L : List Blk} (h : Own w0 (b :: L) w) : Own w0 L w :=
 ⟨h.below, fun x hx => h.base x (.tail _ hx), fun x hx => h.held x (.tail _ hx), (List.pairwise_cons.1 h.apart).2⟩
theorem Own.new {w0 w : World} {L : List Blk} (h : Own w0 L w) (cs : List Value) (t : TypeId) : Own w0 ((w.heap.size, cs, t) :: L) (w.alloc (.cells cs.toArray t)) := by
 have hx : Below w.heap.size w (w.alloc (.cells cs.toArray t)) := (Below.refl _ _).alloc (Nat.le_refl _) _
 have h1 := h.ext hx
 refine ⟨h1.below, ?_, ?_, ?_⟩
 ·intro b hb
  rcases List.mem_cons.1 hb with rfl | hb
  ·exact h.below.size
  ·exact h.base b hb
 ·intro b hb
  rcases List.mem_cons.1 hb with rfl | hb
  ·show (w.heap.push _)[w.heap.size]? = _
   simp [bobj]
  ·exact h1.held b hb
 ·refine List.pairwise_cons.2 ⟨fun b hb => ?_, h.apart⟩
  have := h.lt hb
  show w.heap.size ≠ b.1
  omega
theorem own_join {w0 w w' : World} {L LN : List Blk} (h : Own w0 L w) (h' : Own w LN w') : Own w0 (LN ++ L) w' := by
 have h1 := h.ext h'.below
 refine ⟨h1.below, fun b hb => ?_, fun b hb => ?_, ?_⟩
 ·rcases List.mem_append.1 hb with hb | hb
  ·exact Nat.le_trans h.below.size (h'.base b hb)
  ·exact h.base b hb
 ·rcases List.mem_append.1 hb with hb | hb
  ·exact h'.held b hb
  ·exact h1.held b hb
 ·refine List.pairwise_append.2 ⟨h'.apart, h.apart, fun x hx y hy => ?_⟩
  have := h'.base x hx
  have := h.lt hy
  omega
section
variable (P : Program) (w0 : World)
def quietUpon (w : World) (v : Value) : Result Next → Prop
 | .ok (.value u) w' => w' = w ∧ u = v
 | .ok .skip w' => w' = w ∧ v = undef
 | .ok (.enter f args) w' => w' = w ∧ Calls P f args w (fun e w'' => e = .returned v ∧ Below w.heap.size w w'')
 | _ => False
def QV (o : Oper) (ρ : Operand → Value) (L : List Blk) (v : Value) : Prop := ∀ w, Own w0 L w → quietUpon P w v ((execOp ρ o).run P w)
def allocOf (o : Oper) (ρ : Operand → Value) : Option (Option Nat × List Value × TypeId) :=
 match o.op with
 | .alloc t => ((P.info? t).bind (·.zero)).map fun z => (none, z.cells.toList, t)
 | .box t x => some (none, (ρ x).cells.toList, t)
 | .buildSlice t len parts =>
  match P.underlying t with
  | some (.slice e) =>
   match P.info? e with
   | some i =>
    if len * i.size > 2 ^ 24 then none else
    match i.zero with
    | some z => (Instr.fill (fun j => some (j * i.size, i.size)) ((Array.range (len * i.size)).map (z.cells[· % z.cells.size]!)) (parts.map fun (j, x) => (j, ρ x)).toList).map fun cs => (some len, cs.toList, e)
    | none => none
   | none => none
  | _ => none
 | _ => none
def allocV (k : Option Nat) (g : Nat) : Value := match k with | none => .pointer (some ⟨g, 0, none⟩) | some n => .slice (some ⟨g, 0, none⟩) n n
theorem allocOf_run {o : Oper} {ρ : Operand → Value} {k : Option Nat} {cs : List Value} {t : TypeId} (h : allocOf P o ρ = some (k, cs, t)) (w : World) :
  (execOp ρ o).run P w = .ok (.value (allocV k w.heap.size)) (w.alloc (.cells cs.toArray t)) := by
 unfold allocOf at h
 split at h
 ·rename_i t' ho
  simp only [Option.map_eq_some_iff, Option.bind_eq_some_iff, Prod.mk.injEq] at h
  obtain ⟨z, ⟨i, hi, hz⟩, rfl, rfl, rfl⟩ := h
  have hz' : (zeroValue t').run P w = .ok z w := by simp [zeroValue, typeInfo, hi, hz, go_sem]
  simp only [execOp, ho, Instr.alloc, Sem.run_bind, hz', Result.andThen_ok]
  rfl
 ·rename_i t' x ho
  simp only [Option.some.injEq, Prod.mk.injEq] at h
  obtain ⟨rfl, rfl, rfl⟩ := h
  simp only [execOp, ho, Instr.box]
  rfl
 ·rename_i t' len parts ho
  split at h
  ·rename_i e hu
   split at h
   ·rename_i i hi
    split at h
    ·cases h
    ·rename_i hsz
     split at h
     ·rename_i z hz
      simp only [Option.map_eq_some_iff, Prod.mk.injEq] at h
      obtain ⟨cs', hf, rfl, rfl, rfl⟩ := h
      have hu' : (underlying t').run P w = .ok (.slice e) w := by simp [underlying, hu, go_sem]
      have hs' : (sizeOf e).run P w = .ok i.size w := by simp [sizeOf, typeInfo, hi, go_sem]
      have hz' : (zeroValue e).run P w = .ok z w := by simp [zeroValue, typeInfo, hi, hz, go_sem]
      have h1 : ¬ len * i.size > 2 ^ 24 := hsz
      by_cases h2 : len * i.size = 0
      ·have e0 : (Array.range (len * i.size)).map ((#[] : Array Value)[· % (#[] : Array Value).size]!) = (Array.range (len * i.size)).map (z.cells[· % z.cells.size]!) := by rw [h2]; simp
       have hx : ¬ (0 : Nat) > 2 ^ 24 := by decide
       simp only [execOp, ho, Instr.buildSlice, Sem.run_bind, hu', hs', Result.andThen_ok, h2, hx, if_false, if_true, Sem.run_pure]
       rw [h2] at e0 hf
       rw [e0, hf]
       rfl
      ·simp only [execOp, ho, Instr.buildSlice, Sem.run_bind, hu', hs', Result.andThen_ok, h1, if_false, h2, hz', Sem.run_pure, hf]
       rfl
     ·cases h
   ·cases h
  ·cases h
 ·cases h
def effUpon (R : Value → List Blk → Prop) : Result Next → Prop
 | .ok (.value u) w' => ∃ L', R u L' ∧ Own w0 L' w'
 | .ok .skip w' => ∃ L', R undef L' ∧ Own w0 L' w'
 | .ok (.enter f args) w' => Calls P f args w' (fun e w'' => ∃ v L', e = .returned v ∧ R v L' ∧ Own w0 L' w'')
 | _ => False
def EV (o : Oper) (ρ : Operand → Value) (L : List Blk) (R : Value → List Blk → Prop) : Prop := ∀ w, Own w0 L w → effUpon P w0 R ((execOp ρ o).run P w)
inductive Kind where
 | pure | base | quiet | alloc | eff0 | eff | fresh
 deriving DecidableEq
def Kind.lets : Kind → Kind → Bool
 | .pure, _ => true
 | .base, .eff => false
 | .base, _ => true
 | .quiet, .eff | .quiet, .eff0 => false
 | .quiet, _ => true
 | .alloc, .alloc => true
 | .fresh, .alloc => true
 | _, _ => false
def VK (L0 : List Blk) (k : Kind) (o : Oper) (ρ : Operand → Value) (L : List Blk) (v : Value) : Prop :=
 match k with
 | .pure => ∀ L, QV P w0 o ρ L v
 | .base => (∀ b ∈ L0, b ∈ L) ∧ ∀ M, (∀ b ∈ L0, b ∈ M) → QV P w0 o ρ M v
 | _ => QV P w0 o ρ L v
def freshUpon (w : World) (R : Value → List Blk → Prop) : Result Next → Prop
 | .ok (.value u) w' => ∃ LN, R u LN ∧ Own w LN w'
 | .ok .skip w' => ∃ LN, R undef LN ∧ Own w LN w'
 | .ok (.enter f args) w' => Calls P f args w' (fun e w'' => ∃ v LN, e = .returned v ∧ R v LN ∧ Own w LN w'')
 | _ => False
def FV (o : Oper) (ρ : Operand → Value) (L : List Blk) (R : Value → List Blk → Prop) : Prop := ∀ w, Own w0 L w → freshUpon P w R ((execOp ρ o).run P w)
def opK (L0 : List Blk) (k : Kind) (o : Oper) (a : Act) (L : List Blk) (K : Act → List Blk → Prop) : Prop :=
 match k with
 | .alloc => ∃ k cs t, allocOf P o a.eval = some (k, cs, t) ∧ ∀ g, K (a.put o.dst (allocV k g)) ((g, cs, t) :: L)
 | .eff0 => ∃ R, EV P w0 o a.eval L R ∧ (∀ v L', R v L' → ∀ b ∈ L0, b ∈ L') ∧ ∀ v L', R v L' → K (a.put o.dst v) L'
 | .eff => ∃ R, EV P w0 o a.eval L R ∧ ∀ v L', R v L' → K (a.put o.dst v) L'
 | .fresh => ∃ R, FV P w0 o a.eval L R ∧ (∃ v LN, R v LN) ∧ ∀ v LN, R v LN → K (a.put o.dst v) (LN ++ L)
 | k => ∃ v, VK P w0 L0 k o a.eval L v ∧ K (a.put o.dst v) L
def lexW (L0 : List Blk) (ops : Array Oper) (K : Act → List Blk → Prop) : List (Kind × Oper) → Act → List Blk → Prop
 | [], a, L => K a L
 | (k, o) :: rest, a, L => if Region.wanted o (yielded ops a.tmps) then opK P w0 L0 k o a L (lexW L0 ops K rest) else lexW L0 ops K rest (a.put o.dst undef) L
def mOp (L0 : List Blk) (ops : Array Oper) (k : Kind) (i : Nat) (K : Act → List Blk → Prop) (a : Act) (L : List Blk) : Prop :=
 match ops[i]? with
 | none => K a L
 | some o => if Region.wanted o (yielded ops a.tmps) then opK P w0 L0 k o a L K else K (a.put o.dst undef) L
def wpM (L0 : List Blk) (ops : Array Oper) (κ : Nat → Kind) (Q : Act → List Blk → Prop) : Nat → Array Bool → Act → List Blk → Prop
 | 0, listed, a, L => Region.ready .any ops listed = [] ∧ Q a L
 | f + 1, listed, a, L => (Region.ready .any ops listed = [] → Q a L) ∧ ∀ i ∈ Region.ready .any ops listed, mOp P w0 L0 ops (κ i) i (wpM L0 ops κ Q f (listed.setIfInBounds i true)) a L
end
section
variable {P : Program} {w0 : World} {L0 : List Blk} {ops : Array Oper}
theorem opK_mono {k : Kind} {o : Oper} {a : Act} {L : List Blk} {K K' : Act → List Blk → Prop} (h : ∀ a L, K a L → K' a L) (hh : opK P w0 L0 k o a L K) : opK P w0 L0 k o a L K' := by
 cases k
 case alloc => obtain ⟨q, cs, t, h1, h2⟩ := hh; exact ⟨q, cs, t, h1, fun g => h _ _ (h2 g)⟩
 case eff0 => obtain ⟨R, h1, h2, h3⟩ := hh; exact ⟨R, h1, h2, fun v L' hr => h _ _ (h3 v L' hr)⟩
 case eff => obtain ⟨R, h1, h2⟩ := hh; exact ⟨R, h1, fun v L' hr => h _ _ (h2 v L' hr)⟩
 case fresh => obtain ⟨R, h1, h0, h2⟩ := hh; exact ⟨R, h1, h0, fun v L' hr => h _ _ (h2 v L' hr)⟩
 all_goals (obtain ⟨v, h1, h2⟩ := hh; exact ⟨v, h1, h _ _ h2⟩)
theorem mOp_mono {k : Kind} {i : Nat} {a : Act} {L : List Blk} {K K' : Act → List Blk → Prop} (h : ∀ a L, K a L → K' a L) (hh : mOp P w0 L0 ops k i K a L) : mOp P w0 L0 ops k i K' a L := by
 unfold mOp at *
 split
 ·rename_i ho; simp only [ho] at hh; exact h _ _ hh
 ·rename_i o ho
  simp only [ho] at hh
  split
  ·rename_i hw; simp only [hw, if_true] at hh; exact opK_mono h hh
  ·rename_i hw; simp only [hw] at hh; exact h _ _ hh
theorem QV.cons {o : Oper} {ρ : Operand → Value} {L : List Blk} {v : Value} (h : QV P w0 o ρ L v) (b : Blk) : QV P w0 o ρ (b :: L) v := fun w hw => h w hw.tail
theorem VK.cons {k : Kind} {o : Oper} {ρ : Operand → Value} {L : List Blk} {v : Value} (h : VK P w0 L0 k o ρ L v) (b : Blk) : VK P w0 L0 k o ρ (b :: L) v := by
 cases k
 case pure => exact h
 case base => exact ⟨fun x hx => .tail _ (h.1 x hx), h.2⟩
 all_goals exact QV.cons h b
theorem VK.perm {k : Kind} {o : Oper} {ρ : Operand → Value} {L L' : List Blk} {v : Value} (p : L.Perm L') (h : VK P w0 L0 k o ρ L v) : VK P w0 L0 k o ρ L' v := by
 cases k
 case pure => exact h
 case base => exact ⟨fun x hx => p.mem_iff.1 (h.1 x hx), h.2⟩
 all_goals exact fun w hw => h w (hw.perm p.symm)
theorem VK.qv {k : Kind} {o : Oper} {ρ : Operand → Value} {L : List Blk} {v : Value} (h : VK P w0 L0 k o ρ L v) : QV P w0 o ρ L v := by
 cases k
 case pure => exact h L
 case base => exact h.2 L h.1
 all_goals exact h
theorem opK_perm {k : Kind} {o : Oper} {a : Act} {L L' : List Blk} {K K' : Act → List Blk → Prop} (p : L.Perm L')
  (h : ∀ a M M', M.Perm M' → K a M → K' a M') (hh : opK P w0 L0 k o a L K) : opK P w0 L0 k o a L' K' := by
 cases k
 case alloc => obtain ⟨q, cs, t, h1, h2⟩ := hh; exact ⟨q, cs, t, h1, fun g => h _ _ _ (p.cons _) (h2 g)⟩
 case eff0 => obtain ⟨R, h1, h2, h3⟩ := hh; exact ⟨R, fun w hw => h1 w (hw.perm p.symm), h2, fun v M hr => h _ _ _ (List.Perm.refl _) (h3 v M hr)⟩
 case eff => obtain ⟨R, h1, h2⟩ := hh; exact ⟨R, fun w hw => h1 w (hw.perm p.symm), fun v M hr => h _ _ _ (List.Perm.refl _) (h2 v M hr)⟩
 case fresh => obtain ⟨R, h1, h0, h2⟩ := hh; exact ⟨R, fun w hw => h1 w (hw.perm p.symm), h0, fun v LN hr => h _ _ _ (List.Perm.append_left LN p) (h2 v LN hr)⟩
 all_goals (obtain ⟨v, h1, h2⟩ := hh; exact ⟨v, h1.perm p, h _ _ _ p h2⟩)
theorem mOp_perm {k : Kind} {i : Nat} {a : Act} {L L' : List Blk} {K K' : Act → List Blk → Prop} (p : L.Perm L')
  (h : ∀ a M M', M.Perm M' → K a M → K' a M') (hh : mOp P w0 L0 ops k i K a L) : mOp P w0 L0 ops k i K' a L' := by
 unfold mOp at *
 split
 ·rename_i ho; simp only [ho] at hh; exact h _ _ _ p hh
 ·rename_i o ho
  simp only [ho] at hh
  split
  ·rename_i hw; simp only [hw, if_true] at hh; exact opK_perm p h hh
  ·rename_i hw; simp only [hw] at hh; exact h _ _ _ p hh
theorem wpM_perm {κ : Nat → Kind} {Q : Act → List Blk → Prop} (hQ : ∀ a M M', M.Perm M' → Q a M → Q a M') : ∀ (f : Nat) (listed : Array Bool) (a : Act) (L L' : List Blk), L.Perm L' →
  wpM P w0 L0 ops κ Q f listed a L → wpM P w0 L0 ops κ Q f listed a L'
 | 0, _, _, _, _, p, h => ⟨h.1, hQ _ _ _ p h.2⟩
 | f + 1, _, _, _, _, p, h => ⟨fun h0 => hQ _ _ _ p (h.1 h0), fun i hi => mOp_perm p (fun a M M' q hm => wpM_perm hQ f _ a M M' q hm) (h.2 i hi)⟩
theorem wp_of_opK {k : Kind} {o : Oper} {a : Act} {L : List Blk} {K : Act → List Blk → Prop} {K' : Act → World → Prop} {Q' : Exit → Act → World → Prop} {w : World} (hw : Own w0 L w)
  (h : ∀ a L w', Own w0 L w' → K a L → K' a w') (hh : opK P w0 L0 k o a L K) : o.wp P a w K' Q' := by
 unfold Oper.wp
 have val : ∀ v, QV P w0 o a.eval L v → K (a.put o.dst v) L → o.upon P a K' Q' ((execOp a.eval o).run P w) := by
  intro v h1 h2
  have h3 := h1 w hw
  generalize (execOp a.eval o).run P w = r at *
  cases r with
  | ok n w' =>
   cases n <;> simp only [quietUpon] at h3 <;> simp only [Oper.upon]
   case value u => obtain ⟨rfl, rfl⟩ := h3; exact h _ _ _ hw h2
   case skip => obtain ⟨rfl, rfl⟩ := h3; exact h _ _ _ hw h2
   case enter f args =>
    obtain ⟨rfl, hc⟩ := h3
    exact hc.mono fun e w'' ⟨he, hb⟩ => by subst he; exact h _ _ _ (hw.ext hb) h2
  | halt x w' => simp only [quietUpon] at h3
 have ef : ∀ R, EV P w0 o a.eval L R → (∀ v L', R v L' → K (a.put o.dst v) L') → o.upon P a K' Q' ((execOp a.eval o).run P w) := by
  intro R h1 h2
  have h3 := h1 w hw
  generalize (execOp a.eval o).run P w = r at *
  cases r with
  | ok n w' =>
   cases n <;> simp only [effUpon] at h3 <;> simp only [Oper.upon]
   case value u => obtain ⟨L', hr, ho⟩ := h3; exact h _ _ _ ho (h2 _ _ hr)
   case skip => obtain ⟨L', hr, ho⟩ := h3; exact h _ _ _ ho (h2 _ _ hr)
   case enter f args =>
    exact h3.mono fun e w'' ⟨v, L', he, hr, ho⟩ => by subst he; exact h _ _ _ ho (h2 _ _ hr)
  | halt x w' => simp only [effUpon] at h3
 cases k
 case alloc =>
  obtain ⟨q, cs, t, h1, h2⟩ := hh
  rw [allocOf_run P h1 w]
  exact h _ _ _ (hw.new cs t) (h2 _)
 case eff0 => obtain ⟨R, h1, _, h2⟩ := hh; exact ef R h1 h2
 case eff => obtain ⟨R, h1, h2⟩ := hh; exact ef R h1 h2
 case fresh =>
  obtain ⟨R, h1, _, h2⟩ := hh
  have h3 := h1 w hw
  generalize (execOp a.eval o).run P w = r at *
  cases r with
  | ok n w' =>
   cases n <;> simp only [freshUpon] at h3 <;> simp only [Oper.upon]
   case value u => obtain ⟨LN, hr, ho⟩ := h3; exact h _ _ _ (own_join hw ho) (h2 _ _ hr)
   case skip => obtain ⟨LN, hr, ho⟩ := h3; exact h _ _ _ (own_join hw ho) (h2 _ _ hr)
   case enter f args =>
    exact h3.mono fun e w'' ⟨v, LN, he, hr, ho⟩ => by subst he; exact h _ _ _ (own_join hw ho) (h2 _ _ hr)
  | halt x w' => simp only [freshUpon] at h3
 all_goals (obtain ⟨v, h1, h2⟩ := hh; exact val v h1.qv h2)
theorem wpOp_of_mOp {k : Kind} {i : Nat} {a : Act} {L : List Blk} {K : Act → List Blk → Prop} {K' : Act → World → Prop} {Q' : Exit → Act → World → Prop} {w : World} (hw : Own w0 L w)
  (h : ∀ a L w', Own w0 L w' → K a L → K' a w') (hh : mOp P w0 L0 ops k i K a L) : wpOp P ops Q' i K' a w := by
 unfold mOp at hh
 unfold wpOp
 split
 ·rename_i ho; simp only [ho] at hh; exact h _ _ _ hw hh
 ·rename_i o ho
  simp only [ho] at hh
  split
  ·rename_i hq; simp only [hq, if_true] at hh; exact .inl (wp_of_opK hw h hh)
  ·rename_i hq; simp only [hq] at hh; exact h _ _ _ hw hh
theorem wpAny_of_wpM {κ : Nat → Kind} {Q : Act → List Blk → Prop} {Q' : Exit → Act → World → Prop} (hQ : ∀ a L w, Own w0 L w → Q a L → Q' .normal a w) : ∀ (f : Nat) (listed : Array Bool) (a : Act) (L : List Blk) (w : World), Own w0 L w →
  wpM P w0 L0 ops κ Q f listed a L → wpAny P .any ops Q' f listed a w
 | 0, _, _, _, _, hw, h => ⟨h.1, hQ _ _ _ hw h.2⟩
 | f + 1, _, _, _, _, hw, h => ⟨fun h0 => hQ _ _ _ hw (h.1 h0), fun i hi => wpOp_of_mOp hw (fun a' L' w' hw' => wpAny_of_wpM hQ f _ a' L' w' hw') (h.2 i hi)⟩
/-! ### what may be taken first -/
def YQ (P : Program) (w0 : World) (L0 : List Blk) (ops : Array Oper) (k : Kind) (o : Oper) (v : Value) (a : Act) (L : List Blk) : Prop :=
 (Region.wanted o (yielded ops a.tmps) = true ∧ VK P w0 L0 k o a.eval L v) ∨ (Region.wanted o (yielded ops a.tmps) = false ∧ v = undef)
def Kind.val : Kind → Bool | .pure | .base | .quiet => true | _ => false
theorem YQ.mOp {k : Kind} (hk : k.val = true) {i : Nat} {o : Oper} {v : Value} {a : Act} {L : List Blk} (hi : ops[i]? = some o) (hy : YQ P w0 L0 ops k o v a L) {K : Act → List Blk → Prop} (h : K (a.put o.dst v) L) : mOp P w0 L0 ops k i K a L := by
 unfold Own.mOp
 simp only [hi]
 rcases hy with ⟨hw, hv⟩ | ⟨hw, rfl⟩
 ·simp only [hw, if_true]
  cases k <;> simp [Kind.val] at hk <;> exact ⟨v, hv, h⟩
 ·simp only [hw, Bool.false_eq_true, if_false]; exact h
theorem VK_put {k : Kind} {oi : Oper} {a : Act} {L : List Blk} {v : Value} (hsi : ∀ cs b, oi.op ≠ .select cs b) (d : Option Tmp) (u : Value) (h3 : ∀ x, d = some x → x ∉ oi.looksAt ops) :
  VK P w0 L0 k oi (a.put d u).eval L v = VK P w0 L0 k oi a.eval L v := by
 unfold VK QV
 rw [execOp_put oi hsi a d u h3]
theorem YQ.put {k : Kind} {oi oj : Oper} {v : Value} {a : Act} {L : List Blk} (hsi : ∀ cs b, oi.op ≠ .select cs b) (h3 : ∀ d, oj.dst = some d → d ∉ oi.looksAt ops) (hy : YQ P w0 L0 ops k oi v a L) (u : Value) : YQ P w0 L0 ops k oi v (a.put oj.dst u) L := by
 unfold YQ at *
 rw [VK_put hsi oj.dst u h3, wanted_put oi a oj.dst u h3]
 exact hy
theorem YQ.cons {k : Kind} {o : Oper} {v : Value} {a : Act} {L : List Blk} (hy : YQ P w0 L0 ops k o v a L) (b : Blk) : YQ P w0 L0 ops k o v a (b :: L) := by
 rcases hy with ⟨h1, h2⟩ | h
 ·exact .inl ⟨h1, h2.cons b⟩
 ·exact .inr h
theorem YQ.app {k : Kind} {o : Oper} {v : Value} {a : Act} {L : List Blk} (hy : YQ P w0 L0 ops k o v a L) : ∀ (LN : List Blk), YQ P w0 L0 ops k o v a (LN ++ L)
 | [] => hy
 | b :: LN => (YQ.app hy LN).cons b
theorem YQ.turn {k kj : Kind} (hl : k.lets kj = true) (hj : kj = .eff ∨ kj = .eff0) {o : Oper} {v : Value} {a : Act} {L L' : List Blk} (h0 : kj = .eff0 → ∀ b ∈ L0, b ∈ L') (hy : YQ P w0 L0 ops k o v a L) : YQ P w0 L0 ops k o v a L' := by
 rcases hy with ⟨h1, h2⟩ | h
 ·refine .inl ⟨h1, ?_⟩
  cases k
  case pure => exact h2
  case base =>
   rcases hj with rfl | rfl
   ·simp [Kind.lets] at hl
   ·exact ⟨h0 rfl, h2.2⟩
  all_goals (rcases hj with rfl | rfl <;> simp [Kind.lets] at hl)
 ·exact .inr h
theorem allocOf_put {oj : Oper} (a : Act) (d : Option Tmp) (u : Value) (h : ∀ x, d = some x → x ∉ oj.looksAt ops) : allocOf P oj (a.put d u).eval = allocOf P oj a.eval := by
 unfold allocOf
 split
 ·rfl
 ·rename_i t x ho
  have : (a.put d u).eval x = a.eval x := Act.eval_put fun d' hd hx => h d' hd (by
   subst hx
   exact List.mem_append_left _ (List.mem_filterMap.2 ⟨.tmp d', by simp [ho, Op.operands], rfl⟩))
  rw [this]
 ·rename_i t len parts ho
  have : (parts.map fun (x : Nat × Operand) => (x.1, (a.put d u).eval x.2)) = (parts.map fun (x : Nat × Operand) => (x.1, a.eval x.2)) := by
   apply Array.map_congr_left
   intro p hp
   have : (a.put d u).eval p.2 = a.eval p.2 := Act.eval_put fun d' hd hx => h d' hd (by
    refine List.mem_append_left _ (List.mem_filterMap.2 ⟨.tmp d', ?_, rfl⟩)
    simp only [ho, Op.operands, List.mem_map, Array.mem_toList_iff]
    exact ⟨p, hp, hx⟩)
   rw [this]
  rw [this]
 ·rfl
theorem mOp_put {j : Nat} {k kj : Kind} {oi oj : Oper} {v : Value} (hl : k.lets kj = true) (hj : ops[j]? = some oj) (hap : oi.apart ops oj = true)
  (hsi : ∀ cs b, oi.op ≠ .select cs b) (hsj : ∀ cs b, oj.op ≠ .select cs b) {K : Act → List Blk → Prop} {a : Act} {L : List Blk}
  (hy : YQ P w0 L0 ops k oi v a L) (h : mOp P w0 L0 ops kj j K (a.put oi.dst v) L) :
  mOp P w0 L0 ops kj j (fun a' L' => YQ P w0 L0 ops k oi v a' L' ∧ K (a'.put oi.dst v) L') a L := by
 obtain ⟨h1, h2, h3⟩ := Oper.apart_spec hap
 unfold Own.mOp at *
 simp only [hj] at *
 rw [wanted_put oj a oi.dst v h1] at h
 split
 ·rename_i hw
  simp only [hw, if_true] at h
  have val : (∃ u, VK P w0 L0 kj oj (a.put oi.dst v).eval L u ∧ K ((a.put oi.dst v).put oj.dst u) L) → ∃ u, VK P w0 L0 kj oj a.eval L u ∧ (YQ P w0 L0 ops k oi v (a.put oj.dst u) L ∧ K ((a.put oj.dst u).put oi.dst v) L) := by
   rintro ⟨u, hu, hn⟩
   rw [VK_put hsj oi.dst v h1] at hu
   exact ⟨u, hu, hy.put hsi h3 u, by rw [← Act.put_comm a v u h2]; exact hn⟩
  have hev : ∀ R, EV P w0 oj (a.put oi.dst v).eval L R → EV P w0 oj a.eval L R := fun R he => by
   unfold EV at *
   rwa [execOp_put oj hsj a oi.dst v h1] at he
  cases kj
  case alloc =>
   obtain ⟨q, cs, t, hu, hn⟩ := h
   rw [allocOf_put a oi.dst v h1] at hu
   refine ⟨q, cs, t, hu, fun g => ⟨(hy.put hsi h3 _).cons _, ?_⟩⟩
   rw [← Act.put_comm a v _ h2]; exact hn g
  case eff0 =>
   obtain ⟨R, he, h0, hn⟩ := h
   refine ⟨R, hev R he, h0, fun u L' hr => ⟨(hy.put hsi h3 u).turn hl (.inr rfl) (fun _ => h0 u L' hr), ?_⟩⟩
   rw [← Act.put_comm a v u h2]; exact hn u L' hr
  case eff =>
   obtain ⟨R, he, hn⟩ := h
   refine ⟨R, hev R he, fun u L' hr => ⟨(hy.put hsi h3 u).turn hl (.inl rfl) (fun e => by cases e), ?_⟩⟩
   rw [← Act.put_comm a v u h2]; exact hn u L' hr
  case fresh =>
   obtain ⟨R, he, h0, hn⟩ := h
   refine ⟨R, by unfold FV at *; rwa [execOp_put oj hsj a oi.dst v h1] at he, h0, fun u LN hr => ⟨(hy.put hsi h3 u).app LN, ?_⟩⟩
   rw [← Act.put_comm a v u h2]; exact hn u LN hr
  all_goals exact val h
 ·rename_i hw
  simp only [hw] at h
  exact ⟨hy.put hsi h3 _, by rw [← Act.put_comm a v undef h2]; exact h⟩
theorem not_on {i : Nat} {oj : Oper} {listed : Array Bool} (hr : i ∈ Region.ready .any ops listed) (hall : ∀ e ∈ oj.after, Region.binds .any e = true → listed.getD e.on false = true) :
  ∀ e ∈ oj.after, Region.binds .any e = true → e.on ≠ i := fun e he hb heq => by
 have h1 := hall e he hb
 have h0 := (mem_ready.1 hr).1
 rw [heq] at h1
 rcases Nat.lt_or_ge i listed.size with h' | h'
 ·simp [h'] at h0 h1; rw [h0] at h1; cases h1
 ·simp [Array.getElem?_eq_none h'] at h1
theorem wpM_firstQ {κ : Nat → Kind} {Q : Act → List Blk → Prop} {i : Nat} {oi : Oper} {v : Value} (hk : (κ i).val = true) (hi : ops[i]? = some oi) (hsel : ∀ (j : Nat) (o : Oper) cs b, ops[j]? = some o → o.op ≠ .select cs b) (B : Nat → Bool) (hB : ∀ j oj, ops[j]? = some oj → B j = true → ∃ e ∈ oj.after, Region.binds .any e = true ∧ (e.on = i ∨ B e.on = true)) :
  ∀ (fuel : Nat) (listed : Array Bool) (a : Act) (L : List Blk),
   (∀ j oj, ops[j]? = some oj → j ≠ i → listed.getD j true = false → B j = false → oi.apart ops oj = true ∧ (κ i).lets (κ j) = true) → (∀ k, listed.getD k false = true → B k = false) →
   i ∈ Region.ready .any ops listed → YQ P w0 L0 ops (κ i) oi v a L →
   wpM P w0 L0 ops κ Q fuel (listed.setIfInBounds i true) (a.put oi.dst v) L → wpM P w0 L0 ops κ Q (fuel + 1) listed a L := by
 intro fuel
 induction fuel with
 | zero =>
  intro listed a L _ _ hr hy H
  refine ⟨fun h => (by rw [h] at hr; cases hr), fun j hj => ?_⟩
  by_cases hji : j = i
  ·subst hji; exact hy.mOp hk hi H
  ·have := ready_mono hj hji
   rw [H.1] at this
   cases this
 | succ fuel ih =>
  intro listed a L hfree hinv hr hy H
  refine ⟨fun h => (by rw [h] at hr; cases hr), fun j hj => ?_⟩
  by_cases hji : j = i
  ·subst hji; exact hy.mOp hk hi H
  ·have h1 := H.2 j (ready_mono hj hji)
   obtain ⟨hjun, oj, hoj, hall⟩ := mem_ready.1 hj
   have hnot := not_on (i := i) hr hall
   have hBj : B j = false := by
    rw [Bool.eq_false_iff]; intro hb
    obtain ⟨e, he, hbd, h1 | h1⟩ := hB j oj hoj hb
    ·exact hnot e he hbd h1
    ·rw [hinv e.on (hall e he hbd)] at h1; cases h1
   have hinv' : ∀ k, (listed.setIfInBounds j true).getD k false = true → B k = false := by
    intro k hk'
    by_cases hjk : j = k
    ·subst hjk; exact hBj
    ·rw [getD_set_ne false hjk] at hk'; exact hinv k hk'
   obtain ⟨hap, hke⟩ := hfree j oj hoj hji hjun hBj
   have h2 := mOp_put hke hoj hap (fun cs b => hsel i oi cs b hi) (fun cs b => hsel j oj cs b hoj) hy h1
   refine mOp_mono (fun a' L' h3 => ih (listed.setIfInBounds j true) a' L' ?_ hinv' (ready_mono hr (Ne.symm hji)) h3.1 ?_) h2
   ·intro k ok hok hki hun hno
    refine hfree k ok hok hki ?_ hno
    by_cases hjk : j = k
    ·subst hjk; exact hjun
    ·rw [getD_set_ne true hjk] at hun; exact hun
   ·rw [Array.setIfInBounds_comm _ _ hji]
    exact h3.2
theorem wpM_firstA {κ : Nat → Kind} {Q : Act → List Blk → Prop} (hQ : ∀ a M M', M.Perm M' → Q a M → Q a M') {i : Nat} {oi : Oper} (hk : κ i = .alloc) (hi : ops[i]? = some oi) (B : Nat → Bool) (hB : ∀ j oj, ops[j]? = some oj → B j = true → ∃ e ∈ oj.after, Region.binds .any e = true ∧ (e.on = i ∨ B e.on = true)) :
  ∀ (fuel : Nat) (listed : Array Bool) (a : Act) (L : List Blk),
   (∀ j oj, ops[j]? = some oj → j ≠ i → listed.getD j true = false → B j = false → oi.apart ops oj = true ∧ κ j = .alloc) → (∀ k, listed.getD k false = true → B k = false) →
   i ∈ Region.ready .any ops listed →
   mOp P w0 L0 ops .alloc i (wpM P w0 L0 ops κ Q fuel (listed.setIfInBounds i true)) a L → wpM P w0 L0 ops κ Q (fuel + 1) listed a L := by
 intro fuel
 induction fuel with
 | zero =>
  intro listed a L hfree hinv hr H
  refine ⟨fun h => (by rw [h] at hr; cases hr), fun j hj => ?_⟩
  by_cases hji : j = i
  ·subst hji; rw [hk]; exact H
  ·exfalso
   have hm := ready_mono hj hji
   unfold Own.mOp at H
   simp only [hi] at H
   split at H
   ·obtain ⟨q, cs, t, _, h2⟩ := H
    have := (h2 0).1
    rw [this] at hm; cases hm
   ·rw [H.1] at hm; cases hm
 | succ fuel ih =>
  intro listed a L hfree hinv hr H
  refine ⟨fun h => (by rw [h] at hr; cases hr), fun j hj => ?_⟩
  by_cases hji : j = i
  ·subst hji; rw [hk]; exact H
  ·obtain ⟨hjun, oj, hoj, hall⟩ := mem_ready.1 hj
   have hnot := not_on (i := i) hr hall
   have hBj : B j = false := by
    rw [Bool.eq_false_iff]; intro hb
    obtain ⟨e, he, hbd, h1 | h1⟩ := hB j oj hoj hb
    ·exact hnot e he hbd h1
    ·rw [hinv e.on (hall e he hbd)] at h1; cases h1
   have hinv' : ∀ k, (listed.setIfInBounds j true).getD k false = true → B k = false := by
    intro k hk'
    by_cases hjk : j = k
    ·subst hjk; exact hBj
    ·rw [getD_set_ne false hjk] at hk'; exact hinv k hk'
   obtain ⟨hap, hke⟩ := hfree j oj hoj hji hjun hBj
   obtain ⟨a1, a2, a3⟩ := Oper.apart_spec hap
   have hrm := ready_mono hj hji
   rw [hke]
   have hfree' : ∀ k ok, ops[k]? = some ok → k ≠ i → (listed.setIfInBounds j true).getD k true = false → B k = false → oi.apart ops ok = true ∧ κ k = .alloc := by
    intro k ok hok hki hun hno
    refine hfree k ok hok hki ?_ hno
    by_cases hjk : j = k
    ·subst hjk; exact hjun
    ·rw [getD_set_ne true hjk] at hun; exact hun
   have hr' := ready_mono hr (Ne.symm hji)
   unfold Own.mOp at H
   simp only [hi] at H
   have key : ∀ (x : Value) (M : List Blk), wpM P w0 L0 ops κ Q (fuel + 1) (listed.setIfInBounds i true) (a.put oi.dst x) M → mOp P w0 L0 ops .alloc j (fun a' L' => wpM P w0 L0 ops κ Q fuel ((listed.setIfInBounds i true).setIfInBounds j true) (a'.put oi.dst x) L') a M := by
    intro x M hx
    have h1 := hx.2 j hrm
    rw [hke] at h1
    unfold Own.mOp at h1 ⊢
    simp only [hoj] at h1 ⊢
    rw [wanted_put oj a oi.dst x a1] at h1
    split
    ·rename_i hw
     simp only [hw, if_true] at h1
     obtain ⟨q, cs, t, hu, hn⟩ := h1
     rw [allocOf_put a oi.dst x a1] at hu
     exact ⟨q, cs, t, hu, fun g => by
      show wpM P w0 L0 ops κ Q fuel _ ((a.put oj.dst _).put oi.dst x) _
      rw [← Act.put_comm a x _ a2]; exact hn g⟩
    ·rename_i hw
     simp only [hw] at h1
     show wpM P w0 L0 ops κ Q fuel _ _ _
     rw [← Act.put_comm a x undef a2]; exact h1
   by_cases hwi : Region.wanted oi (yielded ops a.tmps) = true
   ·simp only [hwi, if_true] at H
    obtain ⟨qi, csi, ti, hui, hni⟩ := H
    have hk2 := fun g => key _ _ (hni g)
    unfold Own.mOp at hk2 ⊢
    simp only [hoj] at hk2 ⊢
    split
    ·rename_i hw
     simp only [hw, if_true] at hk2
     obtain ⟨q, cs, t, hu, _⟩ := hk2 0
     refine ⟨q, cs, t, hu, fun gj => ih _ _ _ hfree' hinv' hr' ?_⟩
     unfold Own.mOp
     simp only [hi]
     rw [wanted_put oi a oj.dst _ a3]
     simp only [hwi, if_true]
     refine ⟨qi, csi, ti, by rw [allocOf_put a oj.dst _ a3]; exact hui, fun gi => ?_⟩
     obtain ⟨q', cs', t', hu', hn'⟩ := hk2 gi
     rw [hu] at hu'
     simp only [Option.some.injEq, Prod.mk.injEq] at hu'
     obtain ⟨rfl, rfl, rfl⟩ := hu'
     have := hn' gj
     rw [Array.setIfInBounds_comm _ _ hji]
     exact wpM_perm hQ _ _ _ _ _ (List.Perm.swap _ _ _) this
    ·rename_i hw
     simp only [hw] at hk2
     refine ih _ _ _ hfree' hinv' hr' ?_
     unfold Own.mOp
     simp only [hi]
     rw [wanted_put oi a oj.dst _ a3]
     simp only [hwi, if_true]
     refine ⟨qi, csi, ti, by rw [allocOf_put a oj.dst _ a3]; exact hui, fun gi => ?_⟩
     have := hk2 gi
     rw [Array.setIfInBounds_comm _ _ hji]
     exact this
   ·simp only [hwi] at H
    have hk2 := key _ _ H
    refine mOp_mono (fun a' L' h3 => ?_) (show mOp P w0 L0 ops .alloc j (fun a' L' => Region.wanted oi (yielded ops a'.tmps) = false ∧ wpM P w0 L0 ops κ Q fuel ((listed.setIfInBounds i true).setIfInBounds j true) (a'.put oi.dst undef) L') a L from ?_)
    ·refine ih _ _ _ hfree' hinv' hr' ?_
     unfold Own.mOp
     simp only [hi, h3.1, Bool.false_eq_true, if_false]
     rw [Array.setIfInBounds_comm _ _ hji]
     exact h3.2
    ·have hwf : Region.wanted oi (yielded ops a.tmps) = false := by simpa using hwi
     unfold Own.mOp at hk2 ⊢
     simp only [hoj] at hk2 ⊢
     split
     ·rename_i hw
      simp only [hw, if_true] at hk2
      obtain ⟨q, cs, t, hu, hn⟩ := hk2
      exact ⟨q, cs, t, hu, fun g => ⟨by rw [wanted_put oi a oj.dst _ a3]; exact hwf, hn g⟩⟩
     ·rename_i hw
      simp only [hw] at hk2
      exact ⟨by rw [wanted_put oi a oj.dst _ a3]; exact hwf, hk2⟩
theorem FV.cons {o : Oper} {ρ : Operand → Value} {L : List Blk} {R : Value → List Blk → Prop} (h : FV P w0 o ρ L R) (b : Blk) : FV P w0 o ρ (b :: L) R := fun w hw => h w hw.tail
theorem wpM_firstF {κ : Nat → Kind} {Q : Act → List Blk → Prop} (hQ : ∀ a M M', M.Perm M' → Q a M → Q a M') {i : Nat} {oi : Oper} (hk : κ i = .fresh) (hi : ops[i]? = some oi) (hsi : ∀ cs b, oi.op ≠ .select cs b) (B : Nat → Bool) (hB : ∀ j oj, ops[j]? = some oj → B j = true → ∃ e ∈ oj.after, Region.binds .any e = true ∧ (e.on = i ∨ B e.on = true)) :
  ∀ (fuel : Nat) (listed : Array Bool) (a : Act) (L : List Blk),
   (∀ j oj, ops[j]? = some oj → j ≠ i → listed.getD j true = false → B j = false → oi.apart ops oj = true ∧ κ j = .alloc) → (∀ k, listed.getD k false = true → B k = false) →
   i ∈ Region.ready .any ops listed →
   mOp P w0 L0 ops .fresh i (wpM P w0 L0 ops κ Q fuel (listed.setIfInBounds i true)) a L → wpM P w0 L0 ops κ Q (fuel + 1) listed a L := by
 intro fuel
 induction fuel with
 | zero =>
  intro listed a L hfree hinv hr H
  refine ⟨fun h => (by rw [h] at hr; cases hr), fun j hj => ?_⟩
  by_cases hji : j = i
  ·subst hji; rw [hk]; exact H
  ·exfalso
   have hm := ready_mono hj hji
   unfold Own.mOp at H
   simp only [hi] at H
   split at H
   ·obtain ⟨R, _, ⟨v, LN, hr'⟩, h2⟩ := H
    have := (h2 v LN hr').1
    rw [this] at hm; cases hm
   ·rw [H.1] at hm; cases hm
 | succ fuel ih =>
  intro listed a L hfree hinv hr H
  refine ⟨fun h => (by rw [h] at hr; cases hr), fun j hj => ?_⟩
  by_cases hji : j = i
  ·subst hji; rw [hk]; exact H
  ·obtain ⟨hjun, oj, hoj, hall⟩ := mem_ready.1 hj
   have hnot := not_on (i := i) hr hall
   have hBj : B j = false := by
    rw [Bool.eq_false_iff]; intro hb
    obtain ⟨e, he, hbd, h1 | h1⟩ := hB j oj hoj hb
    ·exact hnot e he hbd h1
    ·rw [hinv e.on (hall e he hbd)] at h1; cases h1
   have hinv' : ∀ k, (listed.setIfInBounds j true).getD k false = true → B k = false := by
    intro k hk'
    by_cases hjk : j = k
    ·subst hjk; exact hBj
    ·rw [getD_set_ne false hjk] at hk'; exact hinv k hk'
   obtain ⟨hap, hke⟩ := hfree j oj hoj hji hjun hBj
   obtain ⟨a1, a2, a3⟩ := Oper.apart_spec hap
   have hrm := ready_mono hj hji
   rw [hke]
   have hfree' : ∀ k ok, ops[k]? = some ok → k ≠ i → (listed.setIfInBounds j true).getD k true = false → B k = false → oi.apart ops ok = true ∧ κ k = .alloc := by
    intro k ok hok hki hun hno
    refine hfree k ok hok hki ?_ hno
    by_cases hjk : j = k
    ·subst hjk; exact hjun
    ·rw [getD_set_ne true hjk] at hun; exact hun
   have hr' := ready_mono hr (Ne.symm hji)
   unfold Own.mOp at H
   simp only [hi] at H
   have key : ∀ (x : Value) (M : List Blk), wpM P w0 L0 ops κ Q (fuel + 1) (listed.setIfInBounds i true) (a.put oi.dst x) M → mOp P w0 L0 ops .alloc j (fun a' L' => wpM P w0 L0 ops κ Q fuel ((listed.setIfInBounds i true).setIfInBounds j true) (a'.put oi.dst x) L') a M := by
    intro x M hx
    have h1 := hx.2 j hrm
    rw [hke] at h1
    unfold Own.mOp at h1 ⊢
    simp only [hoj] at h1 ⊢
    rw [wanted_put oj a oi.dst x a1] at h1
    split
    ·rename_i hw
     simp only [hw, if_true] at h1
     obtain ⟨q, cs, t, hu, hn⟩ := h1
     rw [allocOf_put a oi.dst x a1] at hu
     exact ⟨q, cs, t, hu, fun g => by
      show wpM P w0 L0 ops κ Q fuel _ ((a.put oj.dst _).put oi.dst x) _
      rw [← Act.put_comm a x _ a2]; exact hn g⟩
    ·rename_i hw
     simp only [hw] at h1
     show wpM P w0 L0 ops κ Q fuel _ _ _
     rw [← Act.put_comm a x undef a2]; exact h1
   by_cases hwi : Region.wanted oi (yielded ops a.tmps) = true
   ·simp only [hwi, if_true] at H
    obtain ⟨R, hR, ⟨v0, LN0, hr0⟩, hni⟩ := H
    have hk2 := fun v LN (hr : R v LN) => key _ _ (hni v LN hr)
    unfold Own.mOp at hk2 ⊢
    simp only [hoj] at hk2 ⊢
    split
    ·rename_i hw
     simp only [hw, if_true] at hk2
     obtain ⟨q, cs, t, hu, _⟩ := hk2 v0 LN0 hr0
     refine ⟨q, cs, t, hu, fun gj => ih _ _ _ hfree' hinv' hr' ?_⟩
     unfold Own.mOp
     simp only [hi]
     rw [wanted_put oi a oj.dst _ a3]
     simp only [hwi, if_true]
     refine ⟨R, FV.cons (by unfold FV at *; rw [execOp_put oi hsi a oj.dst _ a3]; exact hR) _, ⟨v0, LN0, hr0⟩, fun v LN hr => ?_⟩
     obtain ⟨q', cs', t', hu', hn'⟩ := hk2 v LN hr
     rw [hu] at hu'
     simp only [Option.some.injEq, Prod.mk.injEq] at hu'
     obtain ⟨rfl, rfl, rfl⟩ := hu'
     have := hn' gj
     rw [Array.setIfInBounds_comm _ _ hji]
     exact wpM_perm hQ _ _ _ _ _ List.perm_middle.symm this
    ·rename_i hw
     simp only [hw] at hk2
     refine ih _ _ _ hfree' hinv' hr' ?_
     unfold Own.mOp
     simp only [hi]
     rw [wanted_put oi a oj.dst _ a3]
     simp only [hwi, if_true]
     refine ⟨R, by unfold FV at *; rw [execOp_put oi hsi a oj.dst _ a3]; exact hR, ⟨v0, LN0, hr0⟩, fun v LN hr => ?_⟩
     have := hk2 v LN hr
     rw [Array.setIfInBounds_comm _ _ hji]
     exact this
   ·simp only [hwi] at H
    have hk2 := key _ _ H
    refine mOp_mono (fun a' L' h3 => ?_) (show mOp P w0 L0 ops .alloc j (fun a' L' => Region.wanted oi (yielded ops a'.tmps) = false ∧ wpM P w0 L0 ops κ Q fuel ((listed.setIfInBounds i true).setIfInBounds j true) (a'.put oi.dst undef) L') a L from ?_)
    ·refine ih _ _ _ hfree' hinv' hr' ?_
     unfold Own.mOp
     simp only [hi, h3.1, Bool.false_eq_true, if_false]
     rw [Array.setIfInBounds_comm _ _ hji]
     exact h3.2
    ·have hwf : Region.wanted oi (yielded ops a.tmps) = false := by simpa using hwi
     unfold Own.mOp at hk2 ⊢
     simp only [hoj] at hk2 ⊢
     split
     ·rename_i hw
      simp only [hw, if_true] at hk2
      obtain ⟨q, cs, t, hu, hn⟩ := hk2
      exact ⟨q, cs, t, hu, fun g => ⟨by rw [wanted_put oi a oj.dst _ a3]; exact hwf, hn g⟩⟩
     ·rename_i hw
      simp only [hw] at hk2
      exact ⟨by rw [wanted_put oi a oj.dst _ a3]; exact hwf, hk2⟩
/-! ### an order that is said serves every order -/
def blkOf (ops : Array Oper) (i : Nat) : List Nat :=
 (List.range ops.size).foldl (fun bl j => match ops[j]? with
  | some oj => if oj.after.any (fun e => Region.binds .any e && (e.on == i || bl.contains e.on)) then j :: bl else bl
  | none => bl) []
def freeB (ops : Array Oper) (listed : Array Bool) (i : Nat) (ok : Nat → Bool) : Bool :=
 match ops[i]? with
 | none => false
 | some oi =>
  let bl := blkOf ops i
  (bl.all fun j => !listed.getD j false && match ops[j]? with | some oj => oj.after.any (fun e => Region.binds .any e && (e.on == i || bl.contains e.on)) | none => false) &&
  (List.range ops.size).all fun j => j == i || listed.getD j true || bl.contains j || match ops[j]? with
   | some oj => oi.apart ops oj && ok j
   | none => true
theorem freeB_spec {i : Nat} {oi : Oper} {listed : Array Bool} {ok : Nat → Bool} (hi : ops[i]? = some oi) (h : freeB ops listed i ok = true) :
  (∀ j oj, ops[j]? = some oj → j ≠ i → listed.getD j true = false → (blkOf ops i).contains j = false → oi.apart ops oj = true ∧ ok j = true) ∧
  (∀ k, listed.getD k false = true → (blkOf ops i).contains k = false) ∧
  (∀ j oj, ops[j]? = some oj → (blkOf ops i).contains j = true → ∃ e ∈ oj.after, Region.binds .any e = true ∧ (e.on = i ∨ (blkOf ops i).contains e.on = true)) := by
 simp only [freeB, hi, Bool.and_eq_true, List.all_eq_true, List.mem_range] at h
 obtain ⟨h1, h2⟩ := h
 refine ⟨fun j oj hj hne hun hb => ?_, fun k hk => ?_, fun j oj hj hb => ?_⟩
 ·have h3 := h2 j (Array.getElem?_eq_some_iff.1 hj).1
  simp only [hj, Bool.or_eq_true, beq_iff_eq, hne, false_or, hun, Bool.false_eq_true, hb] at h3
  simpa using h3
 ·rw [Bool.eq_false_iff]; intro hb
  have := (h1 k (by simpa using hb)).1
  rw [hk] at this; cases this
 ·have h3 := (h1 j (by simpa using hb)).2
  simp only [hj] at h3
  rw [Array.any_eq_true'] at h3
  obtain ⟨e, he, hbd⟩ := h3
  simp only [Bool.and_eq_true, Bool.or_eq_true, beq_iff_eq] at hbd
  exact ⟨e, he, hbd.1, hbd.2⟩
def stepB (ops : Array Oper) (κ : Nat → Kind) (listed : Array Bool) (i : Nat) : Bool :=
 match κ i with
 | .eff | .eff0 => Region.ready .any ops listed == [i]
 | k => Region.ready .any ops listed == [i] || ((Region.ready .any ops listed).contains i && freeB ops listed i fun j => k.lets (κ j))
def orderB (ops : Array Oper) (κ : Nat → Kind) : List Nat → Array Bool → Bool
 | [], listed => (Region.ready .any ops listed).isEmpty
 | i :: π, listed => stepB ops κ listed i && orderB ops κ π (listed.setIfInBounds i true)
theorem wpM_order {κ : Nat → Kind} {Q : Act → List Blk → Prop} (hQ : ∀ a M M', M.Perm M' → Q a M → Q a M') (hs : Region.noSelect ops = true) :
  ∀ (π : List Nat) (listed : Array Bool) (a : Act) (L : List Blk), orderB ops κ π listed = true →
   lexW P w0 L0 ops Q (π.map fun i => (κ i, ops.getD i default)) a L → wpM P w0 L0 ops κ Q π.length listed a L
 | [], listed, a, L, hB, h => ⟨by simpa [orderB] using hB, h⟩
 | i :: π, listed, a, L, hB, h => by
  simp only [orderB, Bool.and_eq_true] at hB
  obtain ⟨hb, hB'⟩ := hB
  have hget : ∀ oi, ops[i]? = some oi → ops.getD i default = oi := fun oi ho => by simp [ho]
  have ih := fun a L => wpM_order hQ hs π (listed.setIfInBounds i true) a L hB'
  simp only [List.map_cons, lexW] at h
  rw [List.length_cons]
  unfold stepB at hb
  have single : (Region.ready .any ops listed == [i]) = true → wpM P w0 L0 ops κ Q (π.length + 1) listed a L := by
   intro hb
   have hr : Region.ready .any ops listed = [i] := by simpa using hb
   have hr' : i ∈ Region.ready .any ops listed := by rw [hr]; simp
   obtain ⟨_, oi, hoi, _⟩ := mem_ready.1 hr'
   rw [hget oi hoi] at h
   refine ⟨fun h0 => (by rw [hr] at h0; cases h0), fun j hj => ?_⟩
   rw [hr] at hj
   obtain rfl : j = i := by simpa using hj
   unfold Own.mOp
   simp only [hoi]
   by_cases hw : Region.wanted oi (yielded ops a.tmps) = true
   ·simp only [hw, if_true] at h ⊢
    exact opK_mono ih h
   ·simp only [hw] at h ⊢
    exact ih _ _ h
  have value : (κ i).val = true → (Region.ready .any ops listed).contains i = true → freeB ops listed i (fun j => (κ i).lets (κ j)) = true → wpM P w0 L0 ops κ Q (π.length + 1) listed a L := by
   intro hk hr hf
   have hr' : i ∈ Region.ready .any ops listed := by simpa using hr
   obtain ⟨_, oi, hoi, _⟩ := mem_ready.1 hr'
   rw [hget oi hoi] at h
   obtain ⟨hf1, hf2, hf3⟩ := freeB_spec hoi hf
   by_cases hw : Region.wanted oi (yielded ops a.tmps) = true
   ·simp only [hw, if_true] at h
    have h' : ∃ v, VK P w0 L0 (κ i) oi a.eval L v ∧ lexW P w0 L0 ops Q (π.map fun i => (κ i, ops.getD i default)) (a.put oi.dst v) L := by
     revert h hk
     cases κ i <;> intro hk h <;> simp [Kind.val] at hk <;> exact h
    obtain ⟨v, hv, hn⟩ := h'
    exact wpM_firstQ hk hoi (Region.noSelect_spec hs) _ hf3 _ _ _ _ hf1 hf2 hr' (.inl ⟨hw, hv⟩) (ih _ _ hn)
   ·simp only [hw] at h
    exact wpM_firstQ hk hoi (Region.noSelect_spec hs) _ hf3 _ _ _ _ hf1 hf2 hr' (.inr ⟨by simpa using hw, rfl⟩) (ih _ _ h)
  cases hk : κ i with
  | eff => simp only [hk] at hb; exact single hb
  | eff0 => simp only [hk] at hb; exact single hb
  | alloc =>
   simp only [hk, Bool.or_eq_true, Bool.and_eq_true] at hb h
   rcases hb with hb | hb
   ·exact single hb
   obtain ⟨hr, hf⟩ := hb
   have hr' : i ∈ Region.ready .any ops listed := by simpa using hr
   obtain ⟨_, oi, hoi, _⟩ := mem_ready.1 hr'
   rw [hget oi hoi] at h
   obtain ⟨hf1, hf2, hf3⟩ := freeB_spec hoi hf
   have hfree : ∀ j oj, ops[j]? = some oj → j ≠ i → listed.getD j true = false → (blkOf ops i).contains j = false → oi.apart ops oj = true ∧ κ j = .alloc := fun j oj hj hne hun hno => (hf1 j oj hj hne hun hno).imp id (fun x => by revert x; cases κ j <;> simp [Kind.lets])
   refine wpM_firstA hQ hk hoi _ hf3 _ _ _ _ hfree hf2 hr' ?_
   unfold Own.mOp
   simp only [hoi]
   by_cases hw : Region.wanted oi (yielded ops a.tmps) = true
   ·simp only [hw, if_true] at h ⊢
    exact opK_mono ih h
   ·simp only [hw] at h ⊢
    exact ih _ _ h
  | fresh =>
   simp only [hk, Bool.or_eq_true, Bool.and_eq_true] at hb h
   rcases hb with hb | hb
   ·exact single hb
   obtain ⟨hr, hf⟩ := hb
   have hr' : i ∈ Region.ready .any ops listed := by simpa using hr
   obtain ⟨_, oi, hoi, _⟩ := mem_ready.1 hr'
   rw [hget oi hoi] at h
   obtain ⟨hf1, hf2, hf3⟩ := freeB_spec hoi hf
   have hfree : ∀ j oj, ops[j]? = some oj → j ≠ i → listed.getD j true = false → (blkOf ops i).contains j = false → oi.apart ops oj = true ∧ κ j = .alloc := fun j oj hj hne hun hno => (hf1 j oj hj hne hun hno).imp id (fun x => by revert x; cases κ j <;> simp [Kind.lets])
   refine wpM_firstF hQ hk hoi (fun cs b => Region.noSelect_spec hs i oi cs b hoi) _ hf3 _ _ _ _ hfree hf2 hr' ?_
   unfold Own.mOp
   simp only [hoi]
   by_cases hw : Region.wanted oi (yielded ops a.tmps) = true
   ·simp only [hw, if_true] at h ⊢
    exact opK_mono ih h
   ·simp only [hw] at h ⊢
    exact ih _ _ h
  | _ =>
   simp only [hk, Bool.or_eq_true, Bool.and_eq_true] at hb
   rcases hb with hb | hb
   ·exact single hb
   exact value (by rw [hk]; rfl) hb.1 (by rw [hk]; exact hb.2)
theorem wp_draws {κ : Nat → Kind} {id : Nat} {Q : Exit → Act → World → Prop} {a : Act} {L : List Blk} (π : List Nat) (hm : P.follows .mixedOrders = true) (hs : Region.noSelect ops = true) (hl : π.length = ops.size)
  (hB : orderB ops κ π (Array.replicate ops.size false) = true)
  (h : lexW P w0 L0 ops (fun a' L' => ∀ w', Own w0 L' w' → Q .normal a' w') (π.map fun i => (κ i, ops.getD i default)) a L) :
  ∀ w, Own w0 L w → (Code.region id ops true).wp P Q a w := by
 intro w hw
 have := wpM_order (κ := κ) (fun a' M M' p hq w' ho => hq w' (ho.perm p.symm)) hs π _ a L hB h
 rw [hl] at this
 exact wp_region_any hm (wpAny_of_wpM (κ := κ) (Q := fun a' L' => ∀ w', Own w0 L' w' → Q .normal a' w') (fun a' L' w' ho hq => hq w' ho) _ _ _ _ _ hw.drew this)
theorem wp_text {κ : Nat → Kind} {id : Nat} {Q : Exit → Act → World → Prop} {a : Act} {L : List Blk}
  (h : lexW P w0 L0 ops (fun a' L' => ∀ w', Own w0 L' w' → Q .normal a' w') ((List.range ops.size).map fun i => (κ i, ops.getD i default)) a L) :
  ∀ w, Own w0 L w → (Code.region id ops false).wp P Q a w := by
 intro w hw
 refine wp_region ?_
 have key : ∀ (l : List Nat), (∀ i ∈ l, i < ops.size) → ∀ (a : Act) (L : List Blk) (w : World), Own w0 L w → lexW P w0 L0 ops (fun a' L' => ∀ w', Own w0 L' w' → Q .normal a' w') (l.map fun i => (κ i, ops.getD i default)) a L → wpOps P ops Q l a w := by
  intro l
  induction l with
  | nil => intro _ a L w hw h; exact h w hw
  | cons i l ih =>
   intro hl a L w hw h
   have hi : i < ops.size := hl i (by simp)
   have hoi : ops[i]? = some (ops.getD i default) := by simp [hi]
   rw [wpOps_cons]
   simp only [List.map_cons, lexW] at h
   refine wpOp_of_mOp (L0 := L0) (k := κ i) (K := lexW P w0 L0 ops (fun a' L' => ∀ w', Own w0 L' w' → Q .normal a' w') (l.map fun i => (κ i, ops.getD i default))) hw (fun a' L' w' ho hk => ih (fun j hj => hl j (.tail _ hj)) a' L' w' ho hk) ?_
   unfold Own.mOp
   simp only [hoi]
   exact h
 exact key _ (fun i hi => List.mem_range.1 hi) a L w hw h
end
end Go.Proofs.Ytedfbamihjnhhaa.Own
