/- A walk by reckoning: loops, round by round, whatever lists they go through. -/
import Derived.Test.YtedfbamihjnhhaaFvP
namespace Go.Proofs.Ytedfbamihjnhhaa.Own
open Go Go.RowKit
set_option linter.unusedVariables false
set_option linter.unusedSimpArgs false
def frmK : Nat := 999999937
def frmE : Nat × List C × TypeId × Bool := (frmK, [.frm], 0, false)
inductive RT where
 | next (ys : List SE)
 | out (e : Nat) (ys : List SE)
 | ask (x : SE) (t e : RT)
 | know (x : SE) (b : Bool) (t : RT)
noncomputable def RT.get (E : Env) : RT → Option Nat × List Int
 | .next ys => (none, ys.map (SE.val E))
 | .out e ys => (some e, ys.map (SE.val E))
 | .ask x t e => bif x.val E != 0 then t.get E else e.get E
 | .know _ _ t => t.get E
def RT.ok (E : Env) : RT → Prop
 | .next _ => True
 | .out _ _ => True
 | .ask x t e => ((x.val E != 0) = true → t.ok E) ∧ ((x.val E != 0) = false → e.ok E)
 | .know x b t => (x.val E != 0) = b ∧ t.ok E
theorem RT.get_env {F : Nat → List Int → List Int} {xs : List Int} {av : Nat → Value} {fr : List Blk} : ∀ (t : RT), t.get (envX F xs av fr) = t.get (envOf F xs)
 | .next ys => by simp only [RT.get]; congr 1; exact List.map_congr_left fun x _ => envX_val x
 | .out e ys => by simp only [RT.get]; congr 1; exact List.map_congr_left fun x _ => envX_val x
 | .ask x t e => by simp only [RT.get, envX_val, RT.get_env t, RT.get_env e]
 | .know x b t => by simp only [RT.get, RT.get_env t]
theorem RT.ok_env {F : Nat → List Int → List Int} {xs : List Int} {av : Nat → Value} {fr : List Blk} : ∀ (t : RT), t.ok (envOf F xs) → t.ok (envX F xs av fr)
 | .next ys, _ => trivial
 | .out e ys, _ => trivial
 | .ask x t e, h => by
  simp only [RT.ok, envX_val] at h ⊢
  exact ⟨fun q => RT.ok_env t (h.1 q), fun q => RT.ok_env e (h.2 q)⟩
 | .know x b t, h => by
  simp only [RT.ok, envX_val] at h ⊢
  exact ⟨h.1, RT.ok_env t h.2⟩
structure Out where
 x : Ex
 S : List (Nat × V)
 M : MB
 cv : List (Nat × Nat × Option (Option IntKind)) := []
def isBool (x : SE) : Bool := match x.ty with | some none => true | _ => false
def exB : Ex → Ex → Bool
 | .ret, .ret => true
 | .exit i, .exit j => Nat.beq i j
 | _, _ => false
theorem exB_eq {x y : Ex} (h : exB x y = true) : x = y ∧ x ≠ .normal := by
 unfold exB at h
 split at h
 ·exact ⟨rfl, by simp⟩
 ·rw [Nat.eq_of_beq_eq_true h]; exact ⟨rfl, by simp⟩
 ·cases h
def stQ (S : List (Nat × V)) (M F : MB) (nx : Nat) (kk : List Nat) (fr : Tr) (m : MB) (ys : List SE) : Bool :=
 match mS false (S.filter soon) fr ⟨[], []⟩ with
 | some b1 => (match mM M m b1 with
  | some (b2, rest) => (match outB rest frmK, mF F [F] b2 with
   | some ((_, [.frm], _), _), some b3 => (match mS false (S.filter late) fr b3 with
    | some b4 => decide (b4.ts = ys) && (b4.ks.all (fun p => Nat.blt p.1 nx) && kk.all (fun k => Nat.blt k nx && (match lookR b4.ks k with | some (some k') => Nat.beq k k' | some none => false | none => true)))
    | none => false)
   | _, _ => false)
  | none => false)
 | none => false
def checkR (b : Cfg) (Tb : List Ent) (d f n : Nat) (a : Code) (S : List (Nat × V)) (M F : MB) (nx : Nat) (S' : List (Nat × V)) (outs : List Out) (kk : List Nat) : RT → List (SE × Bool) → Bool
 | .next ys, ds => (match evC (cfT b Tb ds) d f n a (frOf S) (frmE :: M) [F] nx with | some (.normal, fr, m, _) => stQ S' M F nx kk fr m ys | _ => false)
 | .out e ys, ds => (match outs[e]? with
  | some o => (match evC (cfT b Tb ds) d f n a (frOf S) (frmE :: M) [F] nx with | some (x, fr, m, _) => exB x o.x && stQ o.S o.M [] nx kk fr m ys | none => false)
  | none => false)
 | .ask x t e, ds => isBool x && (checkR b Tb d f n a S M F nx S' outs kk t ((x, true) :: ds) && checkR b Tb d f n a S M F nx S' outs kk e ((x, false) :: ds))
 | .know x v t, ds => isBool x && checkR b Tb d f n a S M F nx S' outs kk t ((x, v) :: ds)
noncomputable def runL (T : Nat → RT) (F : Nat → List Int → List Int) : Nat → Nat → List Int → Option (Nat × List Int)
 | _, 0, _ => none
 | j, k + 1, xs => match (T j).get (envOf F xs) with
  | (none, ys) => runL T F (j + 1) k ys
  | (some e, ys) => some (e, ys)
def RunOK (T : Nat → RT) (F : Nat → List Int → List Int) : Nat → Nat → List Int → Prop
 | _, 0, _ => False
 | j, k + 1, xs => (T j).ok (envOf F xs) ∧ ∀ ys, (T j).get (envOf F xs) = (none, ys) → RunOK T F (j + 1) k ys
def rebase (σ : List (Nat × Nat × Nat)) (nx : Nat) (b : Bd) : List (Nat × Nat × Nat) :=
 (List.range nx).map fun k => match lookR b.ks k with
  | some (some ka) => (σ[ka]?).getD (0, 0, 0)
  | some none => (0, 0, 0)
  | none => (σ[k]?).getD (0, 0, 0)
theorem lookR_mem : ∀ {ks : List (Nat × Option Nat)} {k : Nat} {o : Option Nat}, lookR ks k = some o → (k, o) ∈ ks
 | [], _, _, h => by cases h
 | (k', y) :: r, k, o, h => by
  simp only [lookR] at h
  cases hb : Nat.beq k' k with
  | true => rw [hb, cond_true] at h; cases h; rw [Nat.eq_of_beq_eq_true hb]; exact .head _
  | false => rw [hb, cond_false] at h; exact .tail _ (lookR_mem h)
section
variable {b : Cfg} {Tb : List Ent} {P : Program}
theorem h_perm {w0 : World} {c : Code} {Q : Exit → Act → World → Prop} {a : Act} {L L' : List Blk} (p : L.Perm L') (h : H P w0 c Q a L') : H P w0 c Q a L := ⟨fun w hw => h.out w (hw.perm p)⟩
theorem x_perm {w0 : World} {e : Exit} {Q : Exit → Act → World → Prop} {a : Act} {L L' : List Blk} (p : L.Perm L') (h : X w0 Q e a L') : X w0 Q e a L := ⟨fun w hw => h.out w (hw.perm p)⟩
theorem Tgt.rebase {bd : Bd} {E : Env} {F : Nat → List Int → List Int} {σ : List (Nat × Nat × Nat)} {nx : Nat} {av : Nat → Value} {frs : List Blk} (hlt : (bd.ks.all fun p => Nat.blt p.1 nx) = true) : Tgt bd E (envX F (bd.ts.map (SE.val E)) av frs) σ (Own.rebase σ nx bd) := by
 have get : ∀ j x, bd.ts[j]? = some x → (bd.ts.map (SE.val E)).getD j 0 = x.val E := fun j x hx => by
  rw [List.getD_eq_getElem?_getD, List.getElem?_map, hx]; rfl
 have lt : ∀ k o, lookR bd.ks k = some o → k < nx := fun k o hk => by
  have := List.all_eq_true.1 hlt _ (lookR_mem hk)
  simpa [Nat.blt_eq] using this
 refine ⟨get, fun j x hx => ?_, fun kp ka hk y hy => ?_, fun kp hk => ?_⟩
 ·show ((bd.ts.map (SE.val E)).getD j 0 != 0) = _
  rw [get j x hx]
 ·unfold Own.rebase
  rw [List.getElem?_map, List.getElem?_range (lt _ _ hk)]
  simp only [Option.map_some, hk, hy, Option.getD_some]
 ·refine ⟨0, 0, ?_⟩
  unfold Own.rebase
  rw [List.getElem?_map, List.getElem?_range (lt _ _ hk)]
  simp only [Option.map_some, hk]
theorem frm_one {E : Env} {σ : List (Nat × Nat × Nat)} {k : Nat} {T : TypeId} {o : Bool} {Lb : List Blk} (h : RM P E σ [(k, [.frm], T, o)] Lb) : Lb = E.fr := by
 cases h with
 | cons hk hc ho hr t => cases hc.notBig
 | frm t => cases t; simp
theorem FR.none {E : Env} {σ : List (Nat × Nat × Nat)} (w : World) : FR P E σ [[]] w := ⟨fun k cs T o hk => (by cases hk), fun k x ks T hk => (by cases hk)⟩
theorem st_next {E : Env} {Fy : Nat → List Int → List Int} {σ : List (Nat × Nat × Nat)} {S : List (Nat × V)} {M F : MB} {nx : Nat} {kk : List Nat} {fr : Tr} {m : MB} {ys : List SE} (h : stQ S M F nx kk fr m ys = true) {l : List (Nat × Value)} {L : List Blk} {w0 : World} (hn : nx ≤ σ.length) (hf : RF E σ fr l) (hm : RM P E σ m L) (hF : FR P E σ [F] w0) :
  ∃ σ' L' rest, σ'.length = nx ∧ (∀ k ∈ kk, k < nx ∧ σ'[k]? = σ[k]?) ∧ (∀ p ∈ S, RelV (envX Fy (ys.map (SE.val E)) E.av E.fr) σ' p.2 (look l p.1)) ∧ RM P (envX Fy (ys.map (SE.val E)) E.av E.fr) σ' (frmE :: M) L' ∧ FR P (envX Fy (ys.map (SE.val E)) E.av E.fr) σ' [F] w0 ∧ L.Perm (L' ++ rest) := by
 unfold stQ at h
 split at h
 ·rename_i b1 h1
  split at h
  ·rename_i b2 rest h2
   split at h
   ·rename_i k' T r2 b3 h3 h4
    split at h
    rotate_left
    ·cases h
    rename_i b4 h5
    simp only [Bool.and_eq_true] at h
    obtain ⟨hys, hlt, hkk⟩ := h
    have hys := of_decide_eq_true hys
    subst hys
    have g := Tgt.rebase (E := E) (F := Fy) (σ := σ) (av := E.av) (frs := E.fr) hlt
    have s3 := mS_sub h5
    have s2 := (mF_sub h4).trans s3
    have s1 := mM_sub h2
    obtain ⟨Lp, Lr, c2, c3, c1⟩ := mM_rel h2 hm
    have c1 := c1 _ _ (g.sub s2)
    obtain ⟨Lb, L2, d1, d2, d3⟩ := outB_rel2 c2 h3
    have hLb := frm_one d1
    subst hLb
    refine ⟨Own.rebase σ nx b4, E.fr ++ Lp, L2, by simp [Own.rebase], fun k hk => ?_, soon_late (mS_rel h1 (g.sub (s1.trans s2)) (fun q => by cases q) (fun q => by cases q) (fun _ => rfl) hf) (mS_rel h5 g (fun q => by cases q) (fun q => by cases q) (fun _ => rfl) hf), .frm c1, mF_rel hF h4 (g.sub s3), ?_⟩
    ·have := List.all_eq_true.1 hkk k hk
     simp only [Bool.and_eq_true] at this
     have hlt' : k < nx := by simpa [Nat.blt_eq] using this.1
     refine ⟨hlt', ?_⟩
     have hk2 := this.2
     unfold Own.rebase
     rw [List.getElem?_map, List.getElem?_range hlt', List.getElem?_eq_getElem (by omega : k < σ.length)]
     simp only [Option.map_some]
     split at hk2
     ·rename_i k2 hl
      have := Nat.eq_of_beq_eq_true hk2
      subst this
      simp only [hl, List.getElem?_eq_getElem (by omega : k < σ.length), Option.getD_some]
     ·cases hk2
     ·rename_i hl
      simp only [hl, List.getElem?_eq_getElem (by omega : k < σ.length), Option.getD_some]
    ·refine c3.trans ?_
     refine (List.Perm.append_left Lp d3).trans ?_
     rw [← List.append_assoc]
     exact List.perm_append_comm.append_right _
   ·cases h
  ·cases h
 ·cases h
theorem loopRun (hb : CfgOK b) (hlb : LB b Tb) (hT : TbOK b.P Tb) {d f n nx N : Nat} {a : Code} {S : Nat → List (Nat × V)} {M F : MB} {T : Nat → RT} {outs : List Out} {kk : List Nat}
  (hround : ∀ j, j < N → checkR b Tb d f n a (S j) M F nx (S (j + 1)) outs kk (T j) [] = true) (hsub : ∀ y ∈ loopsOf a, LoopOf b.P f y) (hnf : ∃ fn, b.P.funcs[f]? = some fn ∧ fn.ntmps = n) {w0 : World} {av : Nat → Value} {frs : List Blk} {Q : Exit → Act → World → Prop} :
  ∀ (k j : Nat) (xs : List Int) (σ : List (Nat × Nat × Nat)) (l : List (Nat × Value)) (L : List Blk), j + k ≤ N → σ.length = nx → (∀ p ∈ S j, RelV (envX (FT Tb) xs av frs) σ p.2 (look l p.1)) → RM b.P (envX (FT Tb) xs av frs) σ (frmE :: M) L → FR b.P (envX (FT Tb) xs av frs) σ [F] w0 → RunOK T (FT Tb) j k xs →
   (∀ σ' l' L' e ys o, runL T (FT Tb) j k xs = some (e, ys) → outs[e]? = some o → σ'.length = nx → (∀ k ∈ kk, σ'[k]? = σ[k]?) → (∀ p ∈ o.S, RelV (envX (FT Tb) ys av frs) σ' p.2 (look l' p.1)) → RM b.P (envX (FT Tb) ys av frs) σ' (frmE :: o.M) L' → X w0 Q (ex o.x) (frm n l') L') → H b.P w0 a Q (frm n l) L
 | 0, _, _, _, _, _, _, _, _, _, _, h, _ => by cases h
 | k + 1, j, xs, σ, l, L, hjk, hn, hS, hM, hF, hok, hK => by
  refine j_round_k fun NN hN => ?_
  have hE : (envX (FT Tb) xs av frs).F = fun f i ys => (FT Tb f ys).getD i 0 := rfl
  have hgo : runL T (FT Tb) j (k + 1) xs = (match (T j).get (envOf (FT Tb) xs) with | (none, ys) => runL T (FT Tb) (j + 1) k ys | (some e, ys) => some (e, ys)) := rfl
  obtain ⟨hok1, hok2⟩ := hok
  have key : ∀ (t : RT) (ds : List (SE × Bool)), checkR b Tb d f n a (S j) M F nx (S (j + 1)) outs kk t ds = true → Knows (envX (FT Tb) xs av frs) ds → t.ok (envX (FT Tb) xs av frs) → t.get (envX (FT Tb) xs av frs) = (T j).get (envOf (FT Tb) xs) → J b.P w0 a (Exit.then NN Q) (frm n l) L := by
   intro t
   induction t with
   | next zs =>
    intro ds hc hk _ heq
    simp only [checkR] at hc
    split at hc
    ·rename_i fr m nx' hev
     refine (evC_sound (okT hb hlb hT hE hk) d f n a _ _ [F] nx _ fr m nx' hev hsub hnf w0 σ l L _ hn (Ext.refl σ) (frOf_RF hS) hM hF fun σ1 l1 L1 hx hlen hfr hm => ?_).1
     obtain ⟨σ', L', rest, q1, q2, q3, q4, q5, q6⟩ := st_next (Fy := FT Tb) hc (show nx ≤ σ1.length by obtain ⟨τ, rfl⟩ := hx; rw [List.length_append]; omega) hfr hm (hF.mono hx)
     simp only [RT.get] at heq
     have hys := heq.symm
     rw [hys] at hgo
     refine hN _ _ (h_perm q6 (h_sub (List.sublist_append_left L' rest) ?_))
     refine loopRun hb hlb hT hround hsub hnf k (j + 1) _ σ' l1 L' (by omega) q1 q3 q4 q5 (hok2 _ hys) ?_
     intro σ2 l2 L2 e ys o hr ho hl2 hk2 hs2 hm2
     refine hK σ2 l2 L2 e ys o (by rw [hgo]; exact hr) ho hl2 (fun k hk => ?_) hs2 hm2
     obtain ⟨a1, a2⟩ := q2 k hk
     rw [hk2 k hk, a2, hx.back (by omega)]
    ·cases hc
   | out e zs =>
    intro ds hc hk _ heq
    simp only [checkR] at hc
    split at hc
    ·rename_i o ho
     split at hc
     ·rename_i x fr m nx' hev
      simp only [Bool.and_eq_true] at hc
      obtain ⟨hxe, hxn⟩ := exB_eq hc.1
      refine (evC_sound (okT hb hlb hT hE hk) d f n a _ _ [F] nx _ fr m nx' hev hsub hnf w0 σ l L _ hn (Ext.refl σ) (frOf_RF hS) hM hF fun σ1 l1 L1 hx hlen hfr hm => ?_).1
      obtain ⟨σ', L', rest, q1, q2, q3, q4, q5, q6⟩ := st_next (Fy := FT Tb) hc.2 (show nx ≤ σ1.length by obtain ⟨τ, rfl⟩ := hx; rw [List.length_append]; omega) hfr hm (FR.none w0)
      simp only [RT.get] at heq
      have hys := heq.symm
      rw [hys] at hgo
      have hX := hK σ' l1 L' e _ o hgo ho q1 (fun k hk => by
       obtain ⟨a1, a2⟩ := q2 k hk
       rw [a2, hx.back (by omega)]) q3 q4
      have hX2 := x_perm q6 (x_sub (List.sublist_append_left L' rest) hX)
      subst hxe
      cases hox : o.x with
      | normal => exact absurd hox hxn
      | ret => rw [hox] at hX2; exact x_then_ret hX2
      | exit id => rw [hox] at hX2; exact x_then_exit hX2
     ·cases hc
    ·cases hc
   | ask q t e iht ihe =>
    intro ds hc hk hok heq
    simp only [checkR, Bool.and_eq_true] at hc
    obtain ⟨h0, h1, h2⟩ := hc
    have hty : q.ty = some none := by
     unfold isBool at h0
     split at h0
     ·assumption
     ·cases h0
    have e0 : eS (envX (FT Tb) xs av frs) q = .bool (q.val (envX (FT Tb) xs av frs) != 0) := by simp only [eS, hty]
    cases hb' : (q.val (envX (FT Tb) xs av frs) != 0) with
    | true => exact iht _ h1 (.cons (by rw [e0, hb']) hk) (hok.1 hb') (by rw [← heq]; simp only [RT.get, hb', cond_true])
    | false => exact ihe _ h2 (.cons (by rw [e0, hb']) hk) (hok.2 hb') (by rw [← heq]; simp only [RT.get, hb', cond_false])
   | know q v t iht =>
    intro ds hc hk hok heq
    simp only [checkR, Bool.and_eq_true] at hc
    obtain ⟨h0, h1⟩ := hc
    have hty : q.ty = some none := by
     unfold isBool at h0
     split at h0
     ·assumption
     ·cases h0
    have e0 : eS (envX (FT Tb) xs av frs) q = .bool (q.val (envX (FT Tb) xs av frs) != 0) := by simp only [eS, hty]
    exact iht _ h1 (.cons (by rw [e0, hok.1]) hk) hok.2 (by rw [← heq]; rfl)
  exact key (T j) [] (hround j (by omega)) .nil (RT.ok_env _ hok1) (RT.get_env _)
end
end Go.Proofs.Ytedfbamihjnhhaa.Own
