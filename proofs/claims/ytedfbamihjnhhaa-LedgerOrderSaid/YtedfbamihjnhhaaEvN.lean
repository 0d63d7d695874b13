/- A walk by reckoning: contracts of loops in use. -/
import Derived.Test.YtedfbamihjnhhaaEvM
namespace Go.Proofs.Ytedfbamihjnhhaa.Own
open Go Go.RowKit
set_option linter.unusedVariables false
set_option linter.unusedSimpArgs false

def patC : C → Bool
  | .opq (.ivar _ _) | .opq (.bvar _) => true
  | c => eqpB c c
def patV : V → Bool
  | .one c => patC c
  | .agg cs => cs.all patC
  | .tup _ => false
def patB (S : List (Nat × V)) (M : MB) : Bool := S.all (fun p => patV p.2) && M.all (fun b => b.2.1.all patC)
section
variable {E : Env} {F F' : Nat → List Int → List Int} {ws : List Int} {σ : List (Nat × Nat × Nat)} {P : Program}
theorem fillP_rel {num : Nat} {as : SE} (h : ∀ j, E.F num j (as.vals E) = ws.getD j 0) {p : C} {v : Value} (hp : patC p = true) (hr : RelC (eV (envOf F ws)) σ p v) : RelC (eV E) σ (fillP num as p) v := by
  cases p with
  | opq x =>
    cases x with
    | ivar k j =>
      cases hr
      have e : eS E (.app num j (some k) as) = eS (envOf F ws) (.ivar k j) := by simp only [eS, SE.ty, SE.val, h]; rfl
      have := rel_opq (σ := σ) (E := E) (.app num j (some k) as)
      rw [e] at this; exact this
    | bvar j =>
      cases hr
      have e : eS E (.app num j none as) = eS (envOf F ws) (.bvar j) := by simp only [eS, SE.ty, SE.val, h]; rfl
      have := rel_opq (σ := σ) (E := E) (.app num j none as)
      rw [e] at this; exact this
    | _ => cases hp
  | int k n => exact eqpB_env (a := .int k n) (b := .int k n) hp hr
  | bool x => exact eqpB_env (a := .bool x) (b := .bool x) hp hr
  | ptr k o => exact eqpB_env (a := .ptr k o) (b := .ptr k o) hp hr
  | nilp => exact eqpB_env (a := .nilp) (b := .nilp) rfl hr
  | sl k o l c => exact eqpB_env (a := .sl k o l c) (b := .sl k o l c) hp hr
  | slo k l => exact eqpB_env (a := .slo k l) (b := .slo k l) hp hr
  | slt _ _ _ _ => cases hp
  | nils => exact eqpB_env (a := .nils) (b := .nils) rfl hr
  | str s => cases hp
  | fn f c => cases hp
  | val i => cases hp
theorem fillCs_rel {num : Nat} {as : SE} (h : ∀ j, E.F num j (as.vals E) = ws.getD j 0) : ∀ {ps : List C} {vs : List Value}, ps.all patC = true → RelCs (eV (envOf F ws)) σ ps vs → RelCs (eV E) σ (ps.map (fillP num as)) vs
  | _, _, _, .nil => .nil
  | _, _, hp, .cons h1 h2 => by
    simp only [List.all_cons, Bool.and_eq_true] at hp
    exact .cons (fillP_rel h hp.1 h1) (fillCs_rel h hp.2 h2)
theorem fillV_rel {num : Nat} {as : SE} (h : ∀ j, E.F num j (as.vals E) = ws.getD j 0) {p : V} {v : Value} (hp : patV p = true) (hr : RelV (eV (envOf F ws)) σ p v) : RelV (eV E) σ (fillPV num as p) v := by
  cases p with
  | one c => exact .one (fillP_rel h hp (iv_one hr))
  | agg cs => obtain ⟨vs, h1, rfl⟩ := iv_agg hr; exact .agg (fillCs_rel h hp h1)
  | tup _ => cases hp
theorem fillM_rel {num : Nat} {as : SE} (h : ∀ j, E.F num j (as.vals E) = ws.getD j 0) : ∀ {M : MB} {L : List Blk}, (M.all fun b => b.2.1.all patC) = true → RM P (eV (envOf F ws)) σ M L → RM P (eV E) σ (M.map (fun b => (b.1, b.2.1.map (fillP num as), b.2.2))) L
  | _, _, _, .nil => .nil
  | _, _, hp, .cons hk hc ho hr t => by
    simp only [List.all_cons, Bool.and_eq_true] at hp
    exact .cons hk (fillCs_rel h hp.1 hc) ho hr (fillM_rel h hp.2 t)
/-- patterns don't speak of contracts -/
theorem patC_env {p : C} {v : Value} (hp : patC p = true) (hr : RelC (eV (envOf F ws)) σ p v) : RelC (eV (envOf F' ws)) σ p v := by
  cases p with
  | opq x =>
    cases x with
    | ivar k j => cases hr; exact rel_opq (σ := σ) (E := envOf F' ws) (.ivar k j)
    | bvar j => cases hr; exact rel_opq (σ := σ) (E := envOf F' ws) (.bvar j)
    | _ => cases hp
  | int k n => exact eqpB_env (a := .int k n) (b := .int k n) hp hr
  | bool x => exact eqpB_env (a := .bool x) (b := .bool x) hp hr
  | ptr k o => exact eqpB_env (a := .ptr k o) (b := .ptr k o) hp hr
  | nilp => exact eqpB_env (a := .nilp) (b := .nilp) rfl hr
  | sl k o l c => exact eqpB_env (a := .sl k o l c) (b := .sl k o l c) hp hr
  | slo k l => exact eqpB_env (a := .slo k l) (b := .slo k l) hp hr
  | slt _ _ _ _ => cases hp
  | nils => exact eqpB_env (a := .nils) (b := .nils) rfl hr
  | str s => cases hp
  | fn f c => cases hp
  | val i => cases hp
theorem patCs_env : ∀ {ps : List C} {vs : List Value}, ps.all patC = true → RelCs (eV (envOf F ws)) σ ps vs → RelCs (eV (envOf F' ws)) σ ps vs
  | _, _, _, .nil => .nil
  | _, _, hp, .cons h1 h2 => by
    simp only [List.all_cons, Bool.and_eq_true] at hp
    exact .cons (patC_env hp.1 h1) (patCs_env hp.2 h2)
theorem st_env {S : List (Nat × V)} {M : MB} {l : List (Nat × Value)} {L : List Blk} (hp : patB S M = true) (h : St P (eV (envOf F ws)) σ S M l L) : St P (eV (envOf F' ws)) σ S M l L := by
  simp only [patB, Bool.and_eq_true, List.all_eq_true] at hp
  refine ⟨fun p hm => ?_, ?_⟩
  · have h1 := h.1 p hm
    have h2 := hp.1 p hm
    obtain ⟨t, v⟩ := p
    cases v with
    | one c => exact .one (patC_env h2 (iv_one h1))
    | agg cs =>
      obtain ⟨vs, h3, h4⟩ := iv_agg h1
      show RelV _ σ (.agg cs) (look l t)
      have h4' : look l t = .agg (List.toArray vs) := h4
      rw [h4']
      exact .agg (patCs_env h2 h3)
    | tup _ => cases h2
  · have key : ∀ {M : MB} {L : List Blk}, (∀ b ∈ M, ∀ c ∈ b.2.1, patC c = true) → RM P (eV (envOf F ws)) σ M L → RM P (eV (envOf F' ws)) σ M L := by
      intro M
      induction M with
      | nil => intro L _ h; cases h; exact .nil
      | cons b r ih =>
        intro L hq h
        cases h with | cons hk hc ho hr t =>
        exact .cons hk (patCs_env (List.all_eq_true.2 (hq _ (.head _))) hc) ho hr (ih (fun b hb => hq b (.tail _ hb)) t)
    exact key hp.2 h.2
end
def F0 : Nat → List Int → List Int := fun _ _ => []
/-- a loop's contract -/
def LCT (P : Program) (y : LEnt) (g : List Int → List Int) : Prop := ∀ (a : Code), LoopOf P y.f a → fid a = y.id → ∀ (xs : List Int) (n : Nat), (∃ fn, P.funcs[y.f]? = some fn ∧ fn.ntmps = n) → ∀ (w0 : World) (σ : List (Nat × Nat × Nat)) (l : List (Nat × Value)) (LM : List Blk) (Q : Exit → Act → World → Prop), σ.length = y.nx →
  St P (eV (envOf F0 xs)) σ y.S0 y.M0 l LM → (∀ l' LM', St P (eV (envOf F0 (g xs))) σ y.S1 y.M1 l' LM' → X w0 Q (ex y.x) (frm n l') LM') → H P w0 a Q (frm n l) LM
theorem lHook_find : ∀ {Ls : List LEnt} {f id : Nat} {fr : Tr} {M : MB} {F : List MB} {nx : Nat} {r : Ex × Tr × MB × Nat}, lHook Ls f id fr M F nx = some r → ∃ y ∈ Ls, f = y.f ∧ id = y.id ∧ lRun y fr M F nx = some r
  | [], _, _, _, _, _, _, _, h => by cases h
  | y :: Ls, f, id, fr, M, F, nx, r, h => by
    simp only [lHook] at h
    cases hb : (Nat.beq f y.f && Nat.beq id y.id) with
    | true =>
      rw [hb, cond_true] at h
      simp only [Bool.and_eq_true] at hb
      exact ⟨y, .head _, Nat.eq_of_beq_eq_true hb.1, Nat.eq_of_beq_eq_true hb.2, h⟩
    | false =>
      rw [hb, cond_false] at h
      obtain ⟨z, h1, h2⟩ := lHook_find h
      exact ⟨z, .tail _ h1, h2⟩
theorem lHook_ok {b : Cfg} {Ls : List LEnt} (hL : b.L = lHook Ls) {Tb : List Ent} (h : ∀ y ∈ Ls, patB y.S1 y.M1 = true ∧ LCT b.P y (FT Tb y.num)) : LB b Tb := by
  intro E hE σ0 f a hla fr M F nx x fr' M' nx' hr n hnf w0 σ l LM Q hn hx0 hfr hM hF hK
  rw [hL] at hr
  obtain ⟨y, hy, rfl, hid, hrun⟩ := lHook_find hr
  obtain ⟨hp, hc⟩ := h y hy
  unfold lRun at hrun
  cases hb : Nat.beq nx y.nx with
  | false => rw [hb, cond_false] at hrun; cases hrun
  | true =>
    rw [hb, cond_true] at hrun
    have hnx := Nat.eq_of_beq_eq_true hb
    split at hrun
    · rename_i l1 h1
      split at hrun
      · rename_i l2 h2
        simp only [Option.some.injEq, Prod.mk.injEq] at hrun
        obtain ⟨rfl, rfl, rfl, rfl⟩ := hrun
        have ag : Agree (l1.map (SE.val E) ++ l2.map (SE.val E)) 0 (l1.map (SE.val E) ++ l2.map (SE.val E)) := fun j _ => by rw [Nat.zero_add]
        have ag2 := ag.right
        rw [Nat.zero_add, List.length_map] at ag2
        obtain ⟨L', a1, a2⟩ := mM_rel (F := F0) h2 ag2 hM
        have a0 := mS_rel (F := F0) h1 ag.left hfr
        refine h_sub a2 (hc a hla hid _ n hnf w0 σ l L' Q (by omega) ⟨a0, a1⟩ fun l' LM' hst => ?_)
        have hz : ∀ j, E.F y.num j ((seL (l1 ++ l2)).vals E) = (FT Tb y.num (l1.map (SE.val E) ++ l2.map (SE.val E))).getD j 0 := fun j => by rw [hE, seL_vals, List.map_append]
        simp only [patB, Bool.and_eq_true] at hp
        refine hK σ l' LM' (Ext.refl σ) (by omega) (frOf_RF fun q hq => ?_) (fillM_rel hz hp.2 hst.2)
        obtain ⟨p, hp1, rfl⟩ := List.mem_map.1 hq
        exact fillV_rel hz (List.all_eq_true.1 hp.1 p hp1) (hst.1 p hp1)
      · cases hrun
    · cases hrun
/-- one loop body of a function, by its first region -/
def bodyOf (P : Program) (f id : Nat) : Code := match P.funcs[f]? with
  | some fn => (match fn.body with | some b => ((loopsOf b).find? fun a => Nat.beq (fid a) id).getD .skip | none => .skip)
  | none => .skip
def oneB (P : Program) (f id : Nat) : Bool := match P.funcs[f]? with
  | some fn => (match fn.body with | some b => Nat.beq ((loopsOf b).filter fun a => Nat.beq (fid a) id).length 1 | none => false)
  | none => false
theorem body_eq {P : Program} {f id : Nat} (h : oneB P f id = true) {a : Code} (ha : LoopOf P f a) (hid : fid a = id) : a = bodyOf P f id := by
  obtain ⟨fn, b, hf, hb, hm⟩ := ha
  simp only [oneB, hf, hb] at h
  simp only [bodyOf, hf, hb]
  have hlen := Nat.eq_of_beq_eq_true h
  have hma : a ∈ (loopsOf b).filter fun a => Nat.beq (fid a) id := List.mem_filter.2 ⟨hm, by rw [hid]; exact Nat.beq_refl id⟩
  have hfind : (loopsOf b).find? (fun a => Nat.beq (fid a) id) = ((loopsOf b).filter fun a => Nat.beq (fid a) id).head? := by rw [List.head?_filter]
  rw [hfind]
  match hl : (loopsOf b).filter (fun a => Nat.beq (fid a) id) with
  | [] => rw [hl] at hma; cases hma
  | [x] =>
    rw [hl] at hma
    simp only [List.mem_singleton] at hma
    rw [hma]; rfl
  | x :: y :: r => rw [hl] at hlen; simp at hlen
theorem loops_sub {P : Program} {f : Nat} {a : Code} (h : LoopOf P f a) : ∀ y ∈ loopsOf a, LoopOf P f y := by
  obtain ⟨fn, b, hf, hb, hm⟩ := h
  have key : ∀ (b : Code), a ∈ loopsOf b → ∀ y ∈ loopsOf a, y ∈ loopsOf b := by
    intro b
    induction b with
    | seq x y ihx ihy =>
      intro hm z hz
      simp only [loopsOf, List.mem_append] at hm ⊢
      rcases hm with hm | hm
      · exact .inl (ihx hm z hz)
      · exact .inr (ihy hm z hz)
    | cond c x y ihx ihy =>
      intro hm z hz
      simp only [loopsOf, List.mem_append] at hm ⊢
      rcases hm with hm | hm
      · exact .inl (ihx hm z hz)
      · exact .inr (ihy hm z hz)
    | block id x ih => intro hm z hz; exact ih hm z hz
    | loop x ih =>
      intro hm z hz
      simp only [loopsOf, List.mem_cons] at hm ⊢
      rcases hm with rfl | hm
      · exact .inr hz
      · exact .inr (ih hm z hz)
    | _ => intro hm; cases hm
  exact fun y hy => ⟨fn, b, hf, hb, key b hm y hy⟩
/-- a counted loop's contract -/
theorem lct_counted {b : Cfg} {Tb : List Ent} (hb : CfgOK b) (hlb : LB b Tb) (hT : TbOK b.P Tb) {d n N : Nat} {y : LEnt} {S : Nat → List (Nat × V)} {T : Nat → RT} {ys : List SE} (hS : y.S0 = S 0)
    (h1 : oneB b.P y.f y.id = true) (hround : ∀ j, j < N → checkR b Tb d y.f n (bodyOf b.P y.f y.id) (S j) y.M0 y.nx (S (j + 1)) y.M0 (T j) [] = true) (hexit : checkX b Tb d y.f n (bodyOf b.P y.f y.id) (S N) y.M0 y.nx y.x y.S1 y.M1 ys = true)
    (hlt : ((List.range (N + 1)).all fun j => ltB y.nx (S j) y.M0) = true) (hlt1 : ltB y.nx y.S1 y.M1 = true) (hpat : patB y.S0 y.M0 = true) (hpat1 : patB y.S1 y.M1 = true) (hnt : (match b.P.funcs[y.f]? with | some fn => Nat.beq fn.ntmps n | none => false) = true) :
    LCT b.P y fun xs => ys.map (SE.val (envOf (FT Tb) (runR T (FT Tb) 0 N xs))) := by
  intro a ha hid xs n' hnf w0 σ l LM Q hn hst hK
  have hbody := body_eq h1 ha hid
  subst hbody
  have hnn : n' = n := by
    obtain ⟨fn, hf, hfn⟩ := hnf
    simp only [hf] at hnt
    rw [← hfn]; exact Nat.eq_of_beq_eq_true hnt
  subst hnn
  refine counted (T := T) (S := S) hb hlb hT hround hexit (fun j hj => List.all_eq_true.1 hlt j (List.mem_range.2 (by omega))) hlt1 (loops_sub ha) hnf hn N 0 xs l LM (by omega) ?_ fun l' LM' h2 => hK l' LM' (st_env hpat1 h2)
  rw [← hS]; exact st_env hpat hst
end Go.Proofs.Ytedfbamihjnhhaa.Own
