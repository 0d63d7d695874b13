/- A walk by reckoning: loops' contracts by their rounds; tables and loops together. -/
import Derived.Test.YtedfbamihjnhhaaFvR
namespace Go.Proofs.Ytedfbamihjnhhaa.Own
open Go Go.RowKit
set_option linter.unusedVariables false
set_option linter.unusedSimpArgs false
def bodyOf (P : Program) (f id : Nat) : Code := match P.funcs[f]? with
 | some fn => (match fn.body with | some b => ((loopsOf b).find? fun a => Nat.beq (fid a) id).getD .skip | none => .skip)
 | none => .skip
def oneB (P : Program) (f id : Nat) : Bool := match P.funcs[f]? with
 | some fn => (match fn.body with | some b => Nat.beq ((loopsOf b).filter fun a => Nat.beq (fid a) id).length 1 | none => false)
 | none => false
theorem body_eq {P : Program} {f id : Nat} (h : oneB P f id = true) {a : Code} (ha : LoopOf P f a) (hid : fid a = id) : a = bodyOf P f id := by
 obtain ⟨fn, b, hf, hb, hm⟩ := ha
 simp only [oneB, hf, hb] at h
 simp only [bodyOf, hf, hb]
 have hlen := Nat.eq_of_beq_eq_true h
 have hma : a ∈ (loopsOf b).filter fun a => Nat.beq (fid a) id := List.mem_filter.2 ⟨hm, by rw [hid]; exact Nat.beq_refl id⟩
 have hfind : (loopsOf b).find? (fun a => Nat.beq (fid a) id) = ((loopsOf b).filter fun a => Nat.beq (fid a) id).head? := by rw [List.head?_filter]
 rw [hfind]
 match hl : (loopsOf b).filter (fun a => Nat.beq (fid a) id) with
 | [] => rw [hl] at hma; cases hma
 | [x] =>
  rw [hl] at hma
  simp only [List.mem_singleton] at hma
  rw [hma]; rfl
 | x :: y :: r => rw [hl] at hlen; simp at hlen
theorem loops_sub {P : Program} {f : Nat} {a : Code} (h : LoopOf P f a) : ∀ y ∈ loopsOf a, LoopOf P f y := by
 obtain ⟨fn, b, hf, hb, hm⟩ := h
 have key : ∀ (b : Code), a ∈ loopsOf b → ∀ y ∈ loopsOf a, y ∈ loopsOf b := by
  intro b
  induction b with
  | seq x y ihx ihy =>
   intro hm z hz
   simp only [loopsOf, List.mem_append] at hm ⊢
   rcases hm with hm | hm
   ·exact .inl (ihx hm z hz)
   ·exact .inr (ihy hm z hz)
  | cond c x y ihx ihy =>
   intro hm z hz
   simp only [loopsOf, List.mem_append] at hm ⊢
   rcases hm with hm | hm
   ·exact .inl (ihx hm z hz)
   ·exact .inr (ihy hm z hz)
  | block id x ih => intro hm z hz; exact ih hm z hz
  | loop x ih =>
   intro hm z hz
   simp only [loopsOf, List.mem_cons] at hm ⊢
   rcases hm with rfl | hm
   ·exact .inr hz
   ·exact .inr (ih hm z hz)
  | _ => intro hm; cases hm
 exact fun y hy => ⟨fn, b, hf, hb, key b hm y hy⟩
noncomputable def lpFn (init : List SE) (T : Nat → RT) (fuel : List Int → Nat) (F : Nat → List Int → List Int) (xs : List Int) : List Int :=
 match runL T F 0 (fuel xs) (init.map (SE.val (envOf F xs))) with
 | some (e, ys) => (e : Int) :: ys
 | none => []
def lvB (y : LEnt) : Bool := y.lv.all fun c => match lkL y.F c.1 with
 | some (.lvar j, _, _) => Nat.beq j c.2
 | _ => (match lkL y.M c.1 with | some (.lvar j, _, _) => Nat.beq j c.2 && !(Nat.beq frmK c.1) | _ => false)
structure Pre (y : LEnt) (F : Nat → List Int → List Int) (xs : List Int) : Prop where
 lv : ∀ c ∈ y.lv, (dec (xs.getD c.2 0)).length ≤ maxLen
 sm : ∀ j ∈ y.sm, (dec (xs.getD j 0)).length ≤ 1000000
 pre : ∀ c ∈ y.pre, (c.1.val (envOf F xs) != 0) = c.2
def ntB (P : Program) (f n : Nat) : Bool := match P.funcs[f]? with | some fn => Nat.beq fn.ntmps n | none => false
section
variable {b : Cfg} {Tb : List Ent}
theorem lct_of (hb : CfgOK b) (hlb : LB b Tb) (hT : TbOK b.P Tb) {y : LEnt} {d n : Nat} {S : Nat → List (Nat × V)} {M : MB} {T : Nat → RT} {init : List SE} {fuel : List Int → Nat}
  (h1 : oneB b.P y.f y.id = true) (hnt : ntB b.P y.f n = true) (hlv : lvB y = true) (hinit : stQ (S 0) M y.F y.nx y.kk (frOf y.S) (frmE :: y.M) init = true)
  (hround : ∀ xs j, j < fuel xs → checkR b Tb d y.f n (bodyOf b.P y.f y.id) (S j) M y.F y.nx (S (j + 1)) y.outs y.kk (T j) [] = true)
  (hok : ∀ xs, Pre y (FT Tb) xs → RunOK T (FT Tb) 0 (fuel xs) (init.map (SE.val (envOf (FT Tb) xs)))) : LCT b.P y (FT Tb) (lpFn init T fuel (FT Tb)) := by
 intro a ha hid xs av frs n' hnf w0 σ l L Q hn hS hM hF hsm hpr hK
 have hbody := body_eq h1 ha hid
 subst hbody
 have hnn : n' = n := by
  obtain ⟨fn, hf, hfn⟩ := hnf
  simp only [ntB, hf] at hnt
  rw [← hfn]; exact Nat.eq_of_beq_eq_true hnt
 subst hnn
 have hlen : ∀ c ∈ y.lv, (dec (xs.getD c.2 0)).length ≤ maxLen := fun c hc => by
  have hq := List.all_eq_true.1 hlv c hc
  have len : ∀ j, (SE.lvar j).lst (envX (FT Tb) xs av frs) = dec (xs.getD j 0) := fun j => by simp only [SE.lst, SE.val]; rfl
  split at hq
  ·rename_i j ks T hl
   have := Nat.eq_of_beq_eq_true hq
   subst this
   obtain ⟨g, bb, cc, _, f2, _⟩ := hF.l c.1 (.lvar c.2) ks T (by simp only [lkLM, hl])
   rw [len] at f2; exact f2
  ·split at hq
   ·rename_i j ks T hl
    simp only [Bool.and_eq_true, Bool.not_eq_true'] at hq
    have := Nat.eq_of_beq_eq_true hq.1
    subst this
    have hl2 : lkL (frmE :: y.M) c.1 = some (.lvar c.2, ks, T) := by
     simp only [frmE, lkL, hq.2, cond_false]; exact hl
    rcases hM.lookL hl2 with ⟨g, bb, a1, a2, _⟩ | ⟨g, cc, rest, a1, a2, a3, a4, _⟩
    ·rw [len] at a2; rw [a2]; exact Nat.zero_le _
    ·rw [len] at a4; omega
   ·cases hq
 have hpre : Pre y (FT Tb) xs := ⟨hlen, hsm, fun c hc => by rw [← envX_val]; exact hpr c hc⟩
 obtain ⟨σ', L', rest, q1, q2, q3, q4, q5, q6⟩ := st_next (Fy := FT Tb) hinit (by omega) (frOf_RF hS) hM hF
 have hmap : init.map (SE.val (envX (FT Tb) xs av frs)) = init.map (SE.val (envOf (FT Tb) xs)) := List.map_congr_left fun x _ => envX_val x
 rw [hmap] at q3 q4 q5
 refine h_perm q6 (h_sub (List.sublist_append_left L' rest) ?_)
 refine loopRun hb hlb hT (N := fuel xs) (fun j hj => hround xs j hj) (loops_sub ha) hnf (fuel xs) 0 _ σ' l L' (by omega) q1 q3 q4 q5 (hok xs hpre) ?_
 intro σ2 l2 L2 e ys o hr ho hl2 hk2 hs2 hm2
 refine hK σ2 l2 L2 e ys o (by simp only [lpFn, hr]) ho hl2 (fun k hk => ?_) hs2 hm2
 rw [hk2 k hk, (q2 k hk).2]
/-! ### constants -/
def isVar (κ : Option (Option IntKind)) (j : Nat) : SE → Bool
 | .lvar i => (match κ with | none => Nat.beq i j | _ => false)
 | .ivar k i => (match κ with | some (some k') => decide (k = k') && Nat.beq i j | _ => false)
 | .bvar i => (match κ with | some none => Nat.beq i j | _ => false)
 | _ => false
def varAt (κ : Option (Option IntKind)) (j : Nat) (ys : List SE) (h : Nat) : Bool := match ys[h]? with | some x => isVar κ j x | none => false
def RT.cB (hc : List (Nat × Nat × Option (Option IntKind))) (outs : List Out) : RT → Bool
 | .next ys => hc.all fun c => varAt c.2.2 c.1 ys c.1
 | .out e ys => (match outs[e]? with | some o => o.cv.all (fun c => hc.any fun h => Nat.beq h.2.1 c.2.1 && decide (h.2.2 = c.2.2) && varAt c.2.2 h.1 ys c.1) | none => true)
 | .ask _ t e => t.cB hc outs && e.cB hc outs
 | .know _ _ t => t.cB hc outs
theorem isVar_val {κ : Option (Option IntKind)} {j : Nat} {x : SE} (h : isVar κ j x = true) (F : Nat → List Int → List Int) (xs : List Int) : eqK κ (x.val (envOf F xs)) (xs.getD j 0) := by
 unfold isVar at h
 split at h
 ·split at h
  ·rw [Nat.eq_of_beq_eq_true h]; show (SE.lvar j).val _ = _; simp only [SE.val]; rfl
  ·cases h
 ·split at h
  ·rename_i k i _ k'
   simp only [Bool.and_eq_true, decide_eq_true_eq] at h
   obtain ⟨rfl, h2⟩ := h
   rw [Nat.eq_of_beq_eq_true h2]
   show wrK (some k) ((SE.ivar k j).val _) = wrK (some k) (xs.getD j 0)
   simp only [SE.val, wrK]
   exact wrap_wrap k _
  ·cases h
 ·split at h
  ·rw [Nat.eq_of_beq_eq_true h]
   show wrK none ((SE.bvar j).val _) = wrK none (xs.getD j 0)
   simp only [SE.val, wrK, b2i_ne]; rfl
  ·cases h
 ·cases h
theorem eqK.trans {κ : Option (Option IntKind)} {a b c : Int} (h : eqK κ a b) (h' : eqK κ b c) : eqK κ a c := by
 cases κ with
 | none => exact Eq.trans h h'
 | some k => exact Eq.trans h h'
theorem varAt_val {κ : Option (Option IntKind)} {j h : Nat} {ys : List SE} (hv : varAt κ j ys h = true) (F : Nat → List Int → List Int) (xs : List Int) : eqK κ ((ys.map (SE.val (envOf F xs))).getD h 0) (xs.getD j 0) := by
 unfold varAt at hv
 split at hv
 ·rename_i x hx
  rw [List.getD_eq_getElem?_getD, List.getElem?_map, hx]
  exact isVar_val hv F xs
 ·cases hv
theorem cB_get {hc : List (Nat × Nat × Option (Option IntKind))} {outs : List Out} {F : Nat → List Int → List Int} {xs : List Int} : ∀ {t : RT}, t.cB hc outs = true →
  (∀ ys, t.get (envOf F xs) = (none, ys) → ∀ c ∈ hc, eqK c.2.2 (ys.getD c.1 0) (xs.getD c.1 0)) ∧ (∀ e ys o, t.get (envOf F xs) = (some e, ys) → outs[e]? = some o → ∀ c ∈ o.cv, ∃ h ∈ hc, h.2.1 = c.2.1 ∧ h.2.2 = c.2.2 ∧ eqK c.2.2 (ys.getD c.1 0) (xs.getD h.1 0))
 | .next zs, h => by
  refine ⟨fun ys hy c hc => ?_, fun e ys o hy => by simp [RT.get] at hy⟩
  simp only [RT.get, Prod.mk.injEq, true_and] at hy
  rw [← hy]
  exact varAt_val (List.all_eq_true.1 h c hc) F xs
 | .out e zs, h => by
  refine ⟨fun ys hy => by simp [RT.get] at hy, fun e' ys o hy ho c hc => ?_⟩
  simp only [RT.get, Prod.mk.injEq, Option.some.injEq] at hy
  obtain ⟨rfl, rfl⟩ := hy
  simp only [RT.cB, ho] at h
  have := List.all_eq_true.1 h c hc
  obtain ⟨hh, hm, hp⟩ := List.any_eq_true.1 this
  simp only [Bool.and_eq_true, decide_eq_true_eq] at hp
  exact ⟨hh, hm, Nat.eq_of_beq_eq_true hp.1.1, hp.1.2, varAt_val hp.2 F xs⟩
 | .ask x t e, h => by
  simp only [RT.cB, Bool.and_eq_true] at h
  simp only [RT.get]
  cases (x.val (envOf F xs) != 0) with
  | true => exact cB_get h.1
  | false => exact cB_get h.2
 | .know x v t, h => by simp only [RT.cB] at h; simp only [RT.get]; exact cB_get h
theorem cst_of {y : LEnt} {T : Nat → RT} {init : List SE} {fuel : List Int → Nat} {F : Nat → List Int → List Int} (hc : List (Nat × Nat × Option (Option IntKind)))
  (h0 : (hc.all fun c => varAt c.2.2 c.2.1 init c.1) = true) (h : ∀ xs j, j < fuel xs → (T j).cB hc y.outs = true) : Cst y (lpFn init T fuel F) := by
 intro xs e ys o hg ho c hcm
 have key : ∀ (k j : Nat) (cur : List Int), j + k ≤ fuel xs → (∀ c ∈ hc, eqK c.2.2 (cur.getD c.1 0) (xs.getD c.2.1 0)) → ∀ e ys o, runL T F j k cur = some (e, ys) → y.outs[e]? = some o → ∀ c ∈ o.cv, eqK c.2.2 (ys.getD c.1 0) (xs.getD c.2.1 0) := by
  intro k
  induction k with
  | zero => intro j cur _ _ e ys o hr; cases hr
  | succ k ih =>
   intro j cur hjk hinv e ys o hr ho c hcm
   simp only [runL] at hr
   obtain ⟨g1, g2⟩ := cB_get (F := F) (xs := cur) (h xs j (by omega))
   split at hr
   ·rename_i zs hz
    exact ih (j + 1) zs (by omega) (fun c hcc => (g1 zs hz c hcc).trans (hinv c hcc)) e ys o hr ho c hcm
   ·rename_i e' zs hz
    cases hr
    obtain ⟨hh, hm, q1, q2, q3⟩ := g2 _ _ o hz ho c hcm
    have := hinv hh hm
    rw [q1, q2] at this
    exact q3.trans this
 unfold lpFn at hg
 split at hg
 ·rename_i e' ys' hr
  simp only [List.cons.injEq] at hg
  obtain ⟨he, rfl⟩ := hg
  have : e' = e := by omega
  subst this
  exact key _ 0 _ (by omega) (fun c hcc => varAt_val (List.all_eq_true.1 h0 c hcc) F xs) _ _ o hr ho c hcm
 ·cases hg
/-! ### that loops end -/
def RT.free : RT → Bool
 | .next _ => true
 | .out _ _ => true
 | .ask _ t e => t.free && e.free
 | .know _ _ _ => false
def RT.ends : RT → Bool
 | .next _ => false
 | .out _ _ => true
 | .ask _ t e => t.ends && e.ends
 | .know _ _ t => t.ends
theorem RT.free_ok {E : Env} : ∀ {t : RT}, t.free = true → t.ok E
 | .next _, _ => trivial
 | .out _ _, _ => trivial
 | .ask x t e, h => by
  simp only [RT.free, Bool.and_eq_true] at h
  exact ⟨fun _ => RT.free_ok h.1, fun _ => RT.free_ok h.2⟩
 | .know _ _ _, h => by cases h
theorem RT.ends_get {E : Env} : ∀ {t : RT}, t.ends = true → ∀ ys, t.get E ≠ (none, ys)
 | .next _, h, _ => by cases h
 | .out _ _, _, ys => by simp [RT.get]
 | .ask x t e, h, ys => by
  simp only [RT.ends, Bool.and_eq_true] at h
  simp only [RT.get]
  cases (x.val E != 0) with
  | true => exact RT.ends_get h.1 ys
  | false => exact RT.ends_get h.2 ys
 | .know _ _ t, h, ys => by simp only [RT.ends] at h; simp only [RT.get]; exact RT.ends_get h ys
theorem runOK_count {T : Nat → RT} {F : Nat → List Int → List Int} {N : Nat} (h : ∀ j, j ≤ N → (T j).free = true) (hN : (T N).ends = true) : ∀ (k j : Nat) (xs : List Int), j + k = N + 1 → 0 < k → RunOK T F j k xs
 | 0, _, _, _, hk => by omega
 | k + 1, j, xs, hjk, _ => by
  refine ⟨RT.free_ok (h j (by omega)), fun ys hy => ?_⟩
  by_cases hj : j = N
  ·subst hj; exact absurd hy (RT.ends_get hN ys)
  ·exact runOK_count h hN k (j + 1) ys (by omega) (by omega)
def rgB (c lv : Nat) (ex : List (SE × Bool)) : Bool → RT → Bool
 | g, .next ys => g && ((match ys[c]? with | some y => decide (y = .bin .add .i64 (.ivar .i64 c) (.lit .i64 1)) | none => false) && (match ys[lv]? with | some y => decide (y = .lvar lv) | none => false))
 | _, .out _ _ => true
 | g, .ask x t e => rgB c lv ex (g || decide (x = .cmp .lss (.ivar .i64 c) (.len (.lvar lv)))) t && rgB c lv ex g e
 | g, .know x b t => ((decide (x = .cmp .geq (.ivar .i64 c) (.lit .i64 0)) && b) || (g && ex.any fun q => decide (q = (x, b)))) && rgB c lv ex g t
section
variable {c lv : Nat} {ex : List (SE × Bool)} {F : Nat → List Int → List Int} {xs : List Int} {i : Nat}
theorem guard_val (hc : xs.getD c 0 = (i : Int)) (hl : (dec (xs.getD lv 0)).length ≤ maxLen) (hi : i ≤ (dec (xs.getD lv 0)).length) : ((SE.cmp .lss (.ivar .i64 c) (.len (.lvar lv))).val (envOf F xs) != 0) = decide (i < (dec (xs.getD lv 0)).length) := by
 have e1 : (envOf F xs).iv c = (i : Int) := hc
 have e2 : (envOf F xs).iv lv = xs.getD lv 0 := rfl
 simp only [SE.val, b2i_ne, valCmp, e1, e2]
 rw [i64_nat (by omega), sat_of hl]
 apply decide_eq_decide.2
 omega
theorem geq_val (hc : xs.getD c 0 = (i : Int)) (hi : i ≤ maxLen) : ((SE.cmp .geq (.ivar .i64 c) (.lit .i64 0)).val (envOf F xs) != 0) = true := by
 have e1 : (envOf F xs).iv c = (i : Int) := hc
 have e0 : IntKind.i64.wrap 0 = 0 := rfl
 simp only [SE.val, b2i_ne, valCmp, e1, e0]
 rw [i64_nat hi]
 apply decide_eq_true
 omega
theorem rg_ok (hc : xs.getD c 0 = (i : Int)) (hl : (dec (xs.getD lv 0)).length ≤ maxLen) (hi : i ≤ (dec (xs.getD lv 0)).length) (hex : i < (dec (xs.getD lv 0)).length → ∀ q ∈ ex, (q.1.val (envOf F xs) != 0) = q.2) : ∀ {t : RT} {g : Bool}, rgB c lv ex g t = true → (g = true → i < (dec (xs.getD lv 0)).length) → t.ok (envOf F xs)
 | .next _, _, _, _ => trivial
 | .out _ _, _, _, _ => trivial
 | .ask x t e, g, h, hg => by
  simp only [rgB, Bool.and_eq_true] at h
  refine ⟨fun hx => rg_ok hc hl hi hex h.1 fun q => ?_, fun _ => rg_ok hc hl hi hex h.2 hg⟩
  simp only [Bool.or_eq_true, decide_eq_true_eq] at q
  rcases q with q | rfl
  ·exact hg q
  ·rw [guard_val hc hl hi] at hx; exact of_decide_eq_true hx
 | .know x b t, g, h, hg => by
  simp only [rgB, Bool.and_eq_true, Bool.or_eq_true, decide_eq_true_eq] at h
  refine ⟨?_, rg_ok hc hl hi hex h.2 hg⟩
  rcases h.1 with ⟨rfl, rfl⟩ | ⟨hg', hq⟩
  ·exact geq_val hc (by omega)
  ·obtain ⟨q, hm, hq⟩ := List.any_eq_true.1 hq
   have := of_decide_eq_true hq
   subst this
   exact hex (hg hg') _ hm
theorem rg_next (hc : xs.getD c 0 = (i : Int)) (hl : (dec (xs.getD lv 0)).length ≤ maxLen) (hi : i ≤ (dec (xs.getD lv 0)).length) : ∀ {t : RT} {g : Bool}, rgB c lv ex g t = true → (g = true → i < (dec (xs.getD lv 0)).length) → ∀ ys, t.get (envOf F xs) = (none, ys) → i < (dec (xs.getD lv 0)).length ∧ ys.getD c 0 = ((i + 1 : Nat) : Int) ∧ ys.getD lv 0 = xs.getD lv 0
 | .next zs, g, h, hg, ys, hy => by
  simp only [rgB, Bool.and_eq_true] at h
  have hlt := hg h.1
  simp only [RT.get, Prod.mk.injEq, true_and] at hy
  subst hy
  have get : ∀ (j : Nat) (y : SE), zs[j]? = some y → (zs.map (SE.val (envOf F xs))).getD j 0 = y.val (envOf F xs) := fun j y hj => by rw [List.getD_eq_getElem?_getD, List.getElem?_map, hj]; rfl
  obtain ⟨h1, h2⟩ := h.2
  refine ⟨hlt, ?_, ?_⟩
  ·split at h1
   ·rename_i y hy
    have := of_decide_eq_true h1
    subst this
    rw [get _ _ hy]
    have e1 : (envOf F xs).iv c = (i : Int) := hc
    have e0 : IntKind.i64.wrap 1 = 1 := rfl
    simp only [SE.val, valBin, e1, e0]
    rw [i64_nat (by omega), show ((i : Int) + 1) = ((i + 1 : Nat) : Int) by omega, i64_nat (by omega)]
   ·cases h1
  ·split at h2
   ·rename_i y hy
    have := of_decide_eq_true h2
    subst this
    rw [get _ _ hy]
    simp only [SE.val]; rfl
   ·cases h2
 | .out _ _, _, _, _, ys, hy => by simp [RT.get] at hy
 | .ask x t e, g, h, hg, ys, hy => by
  simp only [rgB, Bool.and_eq_true] at h
  simp only [RT.get] at hy
  cases hx : (x.val (envOf F xs) != 0) with
  | true =>
   rw [hx, cond_true] at hy
   refine rg_next hc hl hi h.1 (fun q => ?_) ys hy
   simp only [Bool.or_eq_true, decide_eq_true_eq] at q
   rcases q with q | rfl
   ·exact hg q
   ·rw [guard_val hc hl hi] at hx; exact of_decide_eq_true hx
  | false => rw [hx, cond_false] at hy; exact rg_next hc hl hi h.2 hg ys hy
 | .know x b t, g, h, hg, ys, hy => by
  simp only [rgB, Bool.and_eq_true] at h
  exact rg_next hc hl hi h.2 hg ys hy
end
theorem range_ok {T : RT} {c lv : Nat} {ex : List (SE × Bool)} (h : rgB c lv ex false T = true) {F : Nat → List Int → List Int} (J : List Int → Prop) (hJ : ∀ xs ys, J xs → T.get (envOf F xs) = (none, ys) → J ys)
  (hex : ∀ xs i, J xs → xs.getD c 0 = ((i : Nat) : Int) → (dec (xs.getD lv 0)).length ≤ maxLen → i < (dec (xs.getD lv 0)).length → ∀ q ∈ ex, (q.1.val (envOf F xs) != 0) = q.2) :
  ∀ (k i j : Nat) (xs : List Int), xs.getD c 0 = (i : Int) → i + k = (dec (xs.getD lv 0)).length + 1 → 0 < k → (dec (xs.getD lv 0)).length ≤ maxLen → J xs → RunOK (fun _ => T) F j k xs
 | 0, _, _, _, _, _, hk, _, _ => by omega
 | k + 1, i, j, xs, hc, hik, _, hl, hj => by
  have hi : i ≤ (dec (xs.getD lv 0)).length := by omega
  refine ⟨rg_ok hc hl hi (fun hlt => hex xs i hj hc hl hlt) h (fun q => by cases q), fun ys hy => ?_⟩
  obtain ⟨h1, h2, h3⟩ := rg_next hc hl hi h (fun q => by cases q) ys hy
  exact range_ok h J hJ hex k (i + 1) (j + 1) ys h2 (by rw [h3]; omega) (by omega) (by rw [h3]; exact hl) (hJ xs ys hj hy)
theorem at_lit {I : List SE} {c : Nat} {F : Nat → List Int → List Int} {xs : List Int} (h : (match I[c]? with | some x => decide (x = .lit .i64 0) | none => false) = true) : (I.map (SE.val (envOf F xs))).getD c 0 = ((0 : Nat) : Int) := by
 split at h
 ·rename_i x hx
  have := of_decide_eq_true h
  subst this
  rw [List.getD_eq_getElem?_getD, List.getElem?_map, hx]
  show (SE.lit .i64 0).val (envOf F xs) = _
  simp only [SE.val]; rfl
 ·cases h
theorem at_lvar {I : List SE} {c j0 : Nat} {F : Nat → List Int → List Int} {xs : List Int} (h : (match I[c]? with | some x => decide (x = .lvar j0) | none => false) = true) : (I.map (SE.val (envOf F xs))).getD c 0 = xs.getD j0 0 := by
 split at h
 ·rename_i x hx
  have := of_decide_eq_true h
  subst this
  rw [List.getD_eq_getElem?_getD, List.getElem?_map, hx]
  show (SE.lvar j0).val (envOf F xs) = _
  simp only [SE.val]; rfl
 ·cases h
/-! ### tables and loops -/
def LBs (P : Program) (Ls : List LEnt) (Tb : List Ent) : Prop := ∀ y ∈ Ls, entOK y = true ∧ ∃ Fy, LCT P y Fy (FT Tb y.num) ∧ Cst y (FT Tb y.num)
def Cfg.loops (b : Cfg) (Ls : List LEnt) : Cfg := { b with L := lHook Ls }
theorem loops_ok (hb : CfgOK b) (Ls : List LEnt) : CfgOK (b.loops Ls) := ⟨fun e σ0 σ hx f vs v us h1 h2 => hb.x e σ0 σ hx f vs v us h1 h2, hb.mixed, fun E σ0 D hD => hb.b E σ0 D hD⟩
theorem lb_of {Ls : List LEnt} (h : LBs b.P Ls Tb) : LB (b.loops Ls) Tb := lHook_ok (b := b.loops Ls) rfl h
theorem lbs_nil {P : Program} : LBs P [] Tb := fun _ h => by cases h
theorem lbs_cons {P : Program} {Ls : List LEnt} {x : Ent} (h : LBs P Ls Tb) (hx : (Ls.all fun y => !Nat.beq y.num x.f) = true) : LBs P Ls (x :: Tb) := fun y hy => by
 have hn : Nat.beq y.num x.f = false := by have := List.all_eq_true.1 hx y hy; simpa using this
 have e : FT (x :: Tb) y.num = FT Tb y.num := by funext xs; simp only [FT, hn, cond_false]
 rw [e]; exact h y hy
theorem lbs_loop {P : Program} {Ls : List LEnt} {x : Ent} {y : LEnt} (h : LBs P Ls Tb) (hx : (Ls.all fun y => !Nat.beq y.num x.f) = true) (hy : Nat.beq y.num x.f = true) (he : entOK y = true) {Fy : Nat → List Int → List Int} (hl : LCT P y Fy (x.fn (FT Tb))) (hc : Cst y (x.fn (FT Tb))) : LBs P (y :: Ls) (x :: Tb) := fun z hz => by
 rcases List.mem_cons.1 hz with rfl | hz
 ·have e : FT (x :: Tb) z.num = x.fn (FT Tb) := by funext xs; simp only [FT, hy, cond_true]
  rw [e]; exact ⟨he, Fy, hl, hc⟩
 ·exact lbs_cons h hx z hz
end
end Go.Proofs.Ytedfbamihjnhhaa.Own
