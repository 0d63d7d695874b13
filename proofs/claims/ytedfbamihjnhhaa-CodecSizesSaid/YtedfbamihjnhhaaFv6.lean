/- A walk by reckoning: what is reckoned is what the program does. -/
import Derived.Test.YtedfbamihjnhhaaFv5
namespace Go.Proofs.Ytedfbamihjnhhaa.Own
open Go Go.RowKit
set_option linter.unusedVariables false
set_option linter.unusedSimpArgs false
section
variable {c : Cfg} {e : Vl} {σ σ0 : List (Nat × Nat × Nat)} {w0 : World}
theorem outB_rel : ∀ {M : MB} {LM : List Blk}, RM c.P e σ M LM → ∀ {k : Nat} {b : Nat × List C × TypeId × Bool} {M' : MB}, outB M k = some (b, M') → ∃ Lb LM', RM c.P e σ [b] Lb ∧ RM c.P e σ M' LM' ∧ LM.Perm (Lb ++ LM')
 | _, _, .nil, _, _, _, h => by cases h
 | _, _, .cons (k := k') hk hc ho hr t, k, b, M', h => by
  simp only [outB] at h
  cases hb : Nat.beq k' k with
  | true =>
   simp only [hb, cond_true, Option.some.injEq, Prod.mk.injEq] at h
   obtain ⟨rfl, rfl⟩ := h
   exact ⟨_, _, .cons hk hc ho hr .nil, t, List.Perm.refl _⟩
  | false =>
   simp only [hb, cond_false] at h
   split at h
   ·rename_i b' r' hr'
    cases h
    obtain ⟨Lb, LM', h1, h2, h3⟩ := outB_rel t hr'
    exact ⟨Lb, _, h1, .cons hk hc ho hr h2, (h3.cons _).trans List.perm_middle.symm⟩
   ·cases h
 | _, _, .big (k := k') hk hc hi hn hr t, k, b, M', h => by
  simp only [outB] at h
  cases hb : Nat.beq k' k with
  | true =>
   simp only [hb, cond_true, Option.some.injEq, Prod.mk.injEq] at h
   obtain ⟨rfl, rfl⟩ := h
   exact ⟨_, _, .big hk hc hi hn hr .nil, t, List.Perm.refl _⟩
  | false =>
   simp only [hb, cond_false] at h
   split at h
   ·rename_i b' r' hr'
    cases h
    obtain ⟨Lb, LM', h1, h2, h3⟩ := outB_rel t hr'
    exact ⟨Lb, _, h1, .big hk hc hi hn hr h2, (h3.cons _).trans List.perm_middle.symm⟩
   ·cases h
 | _, _, .big0 (k := k') hk he t, k, b, M', h => by
  simp only [outB] at h
  cases hb : Nat.beq k' k with
  | true =>
   simp only [hb, cond_true, Option.some.injEq, Prod.mk.injEq] at h
   obtain ⟨rfl, rfl⟩ := h
   exact ⟨[], _, .big0 hk he .nil, t, List.Perm.refl _⟩
  | false =>
   simp only [hb, cond_false] at h
   split at h
   ·rename_i b' r' hr'
    cases h
    obtain ⟨Lb, LM', h1, h2, h3⟩ := outB_rel t hr'
    exact ⟨Lb, _, h1, .big0 hk he h2, h3⟩
   ·cases h
 | _, _, .frm (k := k') t, k, b, M', h => by
  simp only [outB] at h
  cases hb : Nat.beq k' k with
  | true =>
   simp only [hb, cond_true, Option.some.injEq, Prod.mk.injEq] at h
   obtain ⟨rfl, rfl⟩ := h
   exact ⟨e.fr ++ [], _, .frm .nil, t, by simp⟩
  | false =>
   simp only [hb, cond_false] at h
   split at h
   ·rename_i b' r' hr'
    cases h
    obtain ⟨Lb, LM', h1, h2, h3⟩ := outB_rel t hr'
    refine ⟨Lb, _, h1, .frm h2, (List.Perm.append_left e.fr h3).trans ?_⟩
    rw [← List.append_assoc, ← List.append_assoc]
    exact List.perm_append_comm.append_right _
   ·cases h
theorem moveOut_rel {fr : Tr} : ∀ (S : List Nat) {Mr M0 Mr' M0' : MB} {LMr LM0 : List Blk}, moveOut fr S Mr M0 = (Mr', M0') → RM c.P e σ Mr LMr → RM c.P e σ M0 LM0 → ∃ LMr' LM0', RM c.P e σ Mr' LMr' ∧ RM c.P e σ M0' LM0' ∧ (LMr ++ LM0).Perm (LMr' ++ LM0')
 | [], _, _, _, _, LMr, LM0, h, h1, h2 => by cases h; exact ⟨LMr, LM0, h1, h2, List.Perm.refl _⟩
 | t :: r, Mr, M0, Mr', M0', LMr, LM0, h, h1, h2 => by
  simp only [moveOut] at h
  split at h
  ·split at h
   ·rename_i b M1 hb
    obtain ⟨Lb, LM', h3, h4, h5⟩ := outB_rel h2 hb
    have h6 : RM c.P e σ (b :: Mr) (Lb ++ LMr) := h3.app h1
    obtain ⟨a1, a2, a3, a4, a5⟩ := moveOut_rel r h h6 h4
    refine ⟨a1, a2, a3, a4, List.Perm.trans ?_ a5⟩
    refine (List.Perm.append_left LMr h5).trans ?_
    rw [← List.append_assoc]
    exact List.perm_append_comm.append_right _
   ·exact moveOut_rel r h h1 h2
  ·exact moveOut_rel r h h1 h2
theorem j_perm {P : Program} {co : Code} {Q : Exit → Act → World → Prop} {a : Act} {L L' : List Blk} (p : L.Perm L') (h : J P w0 co Q a L') : J P w0 co Q a L := ⟨fun w hw => h.out w (hw.perm p)⟩
def SoundC (c : Cfg) (e : Vl) (σ0 : List (Nat × Nat × Nat)) (d : Nat) : Prop := ∀ (f n : Nat) (code : Code) (fr : Tr) (M : MB) (F : List MB) (nx : Nat) (x : Ex) (fr' : Tr) (M' : MB) (nx' : Nat), evC c d f n code fr M F nx = some (x, fr', M', nx') → (∀ a ∈ loopsOf code, LoopOf c.P f a) → (∃ fn, c.P.funcs[f]? = some fn ∧ fn.ntmps = n) →
 ∀ (w0 : World) (σ : List (Nat × Nat × Nat)) (l : List (Nat × Value)) (LM : List Blk) (Q : Exit → Act → World → Prop), σ.length = nx → Ext σ0 σ → RF e σ fr l → RM c.P e σ M LM → FR c.P e σ F w0 →
  (∀ σ' l' LM', Ext σ σ' → σ'.length = nx' → RF e σ' fr' l' → RM c.P e σ' M' LM' → X w0 Q (ex x) (frm n l') LM') →
  J c.P w0 code Q (frm n l) LM ∧ ∀ a, code = .loop a → H c.P w0 a Q (frm n l) LM
theorem resV_sound {n : Nat} {fr : Tr} {l : List (Nat × Value)} (hfr : RF e σ fr l) {m : List MB} {L : List Blk} (hm : FS c.P e σ m) (hh : ∀ w, Own w0 L w → FR c.P e σ m w) : ∀ {rs : List ResultVar} {vs : List V}, resV c.P n fr m rs = some vs →
  ∃ us, RelVs e σ vs us ∧ ∀ w, Own w0 L w → (rs.mapM (resF (frm n l).tmps)).run c.P w = .ok us w
 | [], vs, h => by cases h; exact ⟨[], .nil, fun w _ => by simp⟩
 | r :: rs, vs, h => by
  have hρ : ∀ x v, gv n fr x = some v → RelV e σ v (evL n l x) := fun x v hx => gv_rel hfr hx
  simp only [resV] at h
  split at h
  ·rename_i v vl hv hvl
   cases h
   obtain ⟨us, h1, h2⟩ := resV_sound hfr hm hh hvl
   have key : ∃ u, RelV e σ v u ∧ RV c.P w0 n l L r u := by
    split at hv
    ·rename_i t; exact ⟨_, hρ _ _ hv, rv_tmp rfl⟩
    ·rename_i a t
     split at hv
     ·rename_i k off hx
      obtain ⟨g, gb, gc, hg, hx'⟩ := iv_ptr (hρ _ _ hx)
      split at hv
      ·rename_i cs T op hl
       obtain ⟨g', gb', gc', vs, a1, a2, _⟩ := hm.n _ _ _ _ hl
       rw [hg] at a1; cases a1
       have rd : ∀ w, Own w0 L w → ∀ (j : Nat) (v : Value), vs[j]? = some v → w.cell? ⟨g, gb + j, none⟩ = some v := fun w hw j v hj => by
        obtain ⟨g2, gb2, gc2, vs2, c1, c2, c3, c4, _⟩ := (hh w hw).n _ _ _ _ hl
        rw [hg] at c1; cases c1
        rw [a2.det c2] at hj
        exact c4 j v hj
       rcases partC_rel hv a2 with ⟨n', us', b1, b2, b3, b4, _⟩ | ⟨n', u, b1, b2, b3, b4⟩
       ·exact ⟨_, b4, fun w hw => ⟨_, hx', run_loadVar_agg b1 b3 fun j v hj => by rw [Nat.add_assoc]; exact rd w hw _ _ (take_drop_get b2 j v hj)⟩⟩
       ·exact ⟨_, b3, fun w hw => ⟨_, hx', run_loadVar_one b1 (rd w hw _ _ b2)⟩⟩
      ·cases hv
     ·cases hv
   obtain ⟨u, hu, hrv⟩ := key
   refine ⟨u :: us, .cons hu h1, fun w hw => ?_⟩
   simp only [List.mapM_cons, Sem.run_bind, rv_run hrv hw, Result.andThen_ok, h2 w hw, Sem.run_pure]
  ·cases h
def oneU : List Value → Value
 | [u] => u
 | us => .tuple (List.toArray us)
theorem oneV_rel {vs : List V} {us : List Value} (h : RelVs e σ vs us) : RelV e σ (oneV vs) (oneU us) := by
 match h with
 | .nil => exact .tup .nil
 | .cons h .nil => exact h
 | .cons h (.cons h' t) => exact .tup (.cons h (.cons h' t))
theorem results_run {fn : Func} {n : Nat} {l : List (Nat × Value)} {us : List Value} {w : World} {P : Program} (h : (fn.results.toList.mapM (resF (frm n l).tmps)).run P w = .ok us w) : (results fn (frm n l).tmps).run P w = .ok (oneU us) w := by
 rw [results_eq]
 simp only [Sem.run_bind]
 rw [Array.mapM_eq_mapM_toList]
 simp only [Sem.run_map, h]
 cases us with
 | nil => rfl
 | cons u us => cases us with
  | nil => rfl
  | cons u' us => rfl
theorem calls_JL {P : Program} {f : FuncId} {fn : Func} {co : Code} {args : List Value} {w : World} {L : List Blk} {R : Ending → World → Prop} (hw : Own w0 L w) (hf : P.funcs[f]? = some fn) (hb : fn.body = some co) (hl : Nat.ble args.length fn.ntmps = true)
  (h : J P w0 co (bodyPost P fn R) (frm fn.ntmps (initL args)) L) : Calls P f args.toArray w R := by
 refine calls_of_wp hf hb ?_
 rw [frm_init args _ hl]
 exact h.out w hw
theorem evF_sound (ok : OK c e σ0) {d : Nat} (hs : SoundC c e σ0 d) : CallOK c e σ0 (evF c d) := by
 intro f vs M F nx v M' nx' h
 unfold evF at h
 split at h
 ·rename_i fn hf
  cases hb : (isFn c.P f && Nat.ble vs.length fn.ntmps) with
  | false => simp only [hb, cond_false] at h; cases h
  | true =>
   simp only [hb, cond_true] at h
   simp only [Bool.and_eq_true] at hb
   refine ⟨hb.1, fun w0 σ us LM hn hx0 hus hM hF w hw => ?_⟩
   split at h
   ·rename_i b hbody
    have fin : ∀ (x : Ex) (fr' : Tr) (M1 : MB) (nx1 : Nat), (x = .ret ∨ x = .normal) → evC c d f fn.ntmps b (initT vs) M F nx = some (x, fr', M1, nx1) →
      (match resV c.P fn.ntmps fr' (M1 :: F) fn.results.toList with | some vs => some (oneV vs, M1, nx1) | none => none) = some (v, M', nx') →
      Calls c.P f (List.toArray us) w fun en w' => ∃ u σ' LM', en = .returned u ∧ Ext σ σ' ∧ σ'.length = nx' ∧ RelV e σ' v u ∧ RM c.P e σ' M' LM' ∧ Own w0 LM' w' := by
     intro x fr' M1 nx1 hx hev hres
     split at hres
     ·rename_i rs hrs
      cases hres
      refine calls_JL hw hf hbody (by rw [hus.len]; exact hb.2) ?_
      refine (hs f fn.ntmps b _ M F nx x fr' M' nx' hev (fun a ha => ⟨fn, b, hf, hbody, ha⟩) ⟨fn, hf, rfl⟩ w0 σ _ LM _ hn hx0 (initT_RF hus) hM hF ?_).1
      intro σ' l' LM' hxt hlen hfr' hM'
      have hh : ∀ w, Own w0 LM' w → FR c.P e σ' (M' :: F) w := fun w hw => FR.cons hM' hw (fun b hb => hb) ((hF.mono hxt).later hw.below (Nat.le_refl _))
      obtain ⟨us', h1, h2⟩ := resV_sound hfr' (FS.cons hM' (hF.mono hxt).fs) hh hrs
      rcases hx with rfl | rfl
      ·exact ⟨fun w' hw' => ⟨rfl, oneU us', results_run (h2 w' hw'), ⟨oneU us', σ', LM', rfl, hxt, hlen, oneV_rel h1, hM', hw'⟩⟩⟩
      ·exact ⟨fun w' hw' => ⟨rfl, oneU us', results_run (h2 w' hw'), ⟨oneU us', σ', LM', rfl, hxt, hlen, oneV_rel h1, hM', hw'⟩⟩⟩
     ·cases hres
    split at h
    ·rename_i fr' M1 nx1 hev; exact fin _ _ _ _ (.inl rfl) hev h
    ·rename_i fr' M1 nx1 hev; exact fin _ _ _ _ (.inr rfl) hev h
    ·cases h
   ·cases h
 ·cases h
theorem evC_sound (ok : OK c e σ0) : ∀ d, SoundC c e σ0 d
 | 0 => fun _ _ _ _ _ _ _ _ _ _ _ h => by cases h
 | d + 1 => by
  have ih := evC_sound ok d
  have hcall : CallOK c e σ0 (fun f vs M F nx => match c.B c.D f vs M F nx with | some r => some r | none => evF c d f vs M F nx) := by
   intro f vs M F nx v M' nx' h
   cases hb : c.B c.D f vs M F nx with
   | some r => simp only [hb, Option.some.injEq] at h; exact ok.b f vs M F nx _ _ _ (hb.trans (by rw [h]))
   | none => simp only [hb] at h; exact evF_sound ok ih f vs M F nx v M' nx' h
  intro f n code fr M F nx x fr' M' nx' h hlp hnf w0 σ l LM Q hn hx0 hfr hM hF hK
  unfold evC at h
  simp only at h
  split at h
  ·cases h
   exact ⟨j_skip (hK σ l LM (Ext.refl σ) hn hfr hM), fun a ha => by cases ha⟩
  ·cases h
   exact ⟨j_ret (hK σ l LM (Ext.refl σ) hn hfr hM), fun a ha => by cases ha⟩
  ·cases h
   exact ⟨j_exit (hK σ l LM (Ext.refl σ) hn hfr hM), fun a ha => by cases ha⟩
  ·rename_i a b
   refine ⟨j_seq ?_, fun a ha => by cases ha⟩
   split at h
   ·rename_i fr1 M1 nx1 h1
    refine (ih f n a fr M F nx _ fr1 M1 nx1 h1 (fun y hy => hlp y (List.mem_append_left _ hy)) hnf w0 σ l LM _ hn hx0 hfr hM hF fun σ' l' LM' hx hlen hfr' hM' => ?_).1
    exact x_then (ih f n b fr1 M1 F nx1 _ _ _ _ h (fun y hy => hlp y (List.mem_append_right _ hy)) hnf w0 σ' l' LM' Q hlen (hx0.trans hx) hfr' hM' (hF.mono hx) fun σ2 l2 L2 hx' a1 a2 a3 => hK σ2 l2 L2 (hx.trans hx') a1 a2 a3).1
   ·rename_i hne
    refine (ih f n a fr M F nx _ _ _ _ h (fun y hy => hlp y (List.mem_append_left _ hy)) hnf w0 σ l LM _ hn hx0 hfr hM hF fun σ' l' LM' hx hlen hfr' hM' => ?_).1
    cases x with
    | normal => exact absurd h (hne _ _ _)
    | ret => exact x_then_ret (hK σ' l' LM' hx hlen hfr' hM')
    | exit id => exact x_then_exit (hK σ' l' LM' hx hlen hfr' hM')
  ·rename_i cx a b
   refine ⟨?_, fun a ha => by cases ha⟩
   split at h
   ·rename_i xv hx
    split at h
    rotate_left
    ·cases h
    rename_i t ht
    have hv := asB_sound ok.d ht (gv_rel hfr hx)
    cases t with
    | true => exact j_true hv (ih f n a fr M F nx _ _ _ _ h (fun y hy => hlp y (List.mem_append_left _ hy)) hnf w0 σ l LM Q hn hx0 hfr hM hF hK).1
    | false => exact j_false hv (ih f n b fr M F nx _ _ _ _ h (fun y hy => hlp y (List.mem_append_right _ hy)) hnf w0 σ l LM Q hn hx0 hfr hM hF hK).1
   ·cases h
  ·rename_i id a
   refine ⟨j_block ?_, fun a ha => by cases ha⟩
   split at h
   ·rename_i id' fr1 M1 nx1 h1
    refine (ih f n a fr M F nx _ fr1 M1 nx1 h1 hlp hnf w0 σ l LM _ hn hx0 hfr hM hF fun σ' l' LM' hx hlen hfr' hM' => ?_).1
    cases hb : Nat.beq id' id with
    | true =>
     simp only [hb, cond_true, Option.some.injEq, Prod.mk.injEq] at h
     obtain ⟨rfl, rfl, rfl, rfl⟩ := h
     have := Nat.eq_of_beq_eq_true hb
     subst this
     exact x_block_hit (hK σ' l' LM' hx hlen hfr' hM')
    | false =>
     simp only [hb, cond_false, Option.some.injEq, Prod.mk.injEq] at h
     obtain ⟨rfl, rfl, rfl, rfl⟩ := h
     exact x_block_miss hb (hK σ' l' LM' hx hlen hfr' hM')
   ·rename_i hne
    refine (ih f n a fr M F nx _ _ _ _ h hlp hnf w0 σ l LM _ hn hx0 hfr hM hF fun σ' l' LM' hx hlen hfr' hM' => ?_).1
    cases x with
    | normal => exact x_block (hK σ' l' LM' hx hlen hfr' hM')
    | ret => exact x_block_ret (hK σ' l' LM' hx hlen hfr' hM')
    | exit id => exact absurd h (hne _ _ _ _)
  ·rename_i a
   have key : H c.P w0 a Q (frm n l) LM := by
    split at h
    ·rename_i r hr
     cases h
     exact ok.l f a (hlp a (.head _)) fr M F nx x fr' M' nx' hr n hnf w0 σ l LM Q hn hx0 hfr hM hF hK
    refine j_round_k fun N hN => ?_
    split at h
    ·rename_i fr1 M1 nx1 h1
     refine (ih f n a fr M F nx _ fr1 M1 nx1 h1 (fun y hy => hlp y (.tail _ hy)) hnf w0 σ l LM _ hn hx0 hfr hM hF fun σ' l' LM' hx hlen hfr' hM' => ?_).1
     exact hN _ _ ((ih f n (.loop a) fr1 M1 F nx1 _ _ _ _ h hlp hnf w0 σ' l' LM' Q hlen (hx0.trans hx) hfr' hM' (hF.mono hx) fun σ2 l2 L2 hx' a1 a2 a3 => hK σ2 l2 L2 (hx.trans hx') a1 a2 a3).2 a rfl)
    ·rename_i hne
     refine (ih f n a fr M F nx _ _ _ _ h (fun y hy => hlp y (.tail _ hy)) hnf w0 σ l LM _ hn hx0 hfr hM hF fun σ' l' LM' hx hlen hfr' hM' => ?_).1
     cases x with
     | normal => exact absurd h (hne _ _ _)
     | ret => exact x_then_ret (hK σ' l' LM' hx hlen hfr' hM')
     | exit id => exact x_then_exit (hK σ' l' LM' hx hlen hfr' hM')
   exact ⟨j_head key, fun a' ha => by cases ha; exact key⟩
  ·rename_i id ops q
   refine ⟨?_, fun a ha => by cases ha⟩
   obtain ⟨ol⟩ := ops
   cases q with
   | true =>
    simp only at h
    cases hd : drawOK ol (c.E f id) with
    | false => simp only [hd, cond_false] at h; cases h
    | true =>
     simp only [hd, cond_true] at h
     cases hmo : moveOut fr (c.S f id) [] M with
     | mk Mr M0 =>
      simp only [hmo] at h
      split at h
      ·rename_i fr1 M1 nx1 h1
       cases h
       obtain ⟨LMr, LM0, a1, a2, a3⟩ := moveOut_rel _ hmo (.nil : RM c.P e σ [] []) hM
       refine j_perm a3 (j_drawB (c.E f id) LM0 ok.mixed (drawOK_spec hd) ?_)
       exact evOps_sound ok hcall ol fr Mr M0 nx false h1 σ l LMr LM0 hn hx0 hfr a1 a2 hF (fun _ _ => rfl) hK
      ·cases h
   | false =>
    simp only at h
    split at h
    ·rename_i fr1 M1 nx1 h1
     cases h
     refine j_text ?_
     have := evOps_sound (L0 := LM) ok hcall ol fr M [] nx false h1 σ l LM [] hn hx0 hfr hM .nil hF (fun hq => by cases hq) hK
     simpa using this
    ·cases h
  ·cases h
theorem pure_ev (ok : OK c e []) {d f : Nat} {vs : List V} {us : List Value} {v : V} {u : Value} (h : (evF c d f vs [] [] 0).map (·.1) = some v) (hus : RelVs e [] vs us) (hu : RelV e [] v u) : Pure c.P f (List.toArray us) u := by
 intro w
 cases hf : evF c d f vs [] [] 0 with
 | none => rw [hf] at h; cases h
 | some r =>
  obtain ⟨v', M', nx'⟩ := r
  rw [hf] at h
  cases h
  refine ((evF_sound ok (evC_sound ok d) f vs [] [] 0 _ M' nx' hf).2 w [] us [] rfl (Ext.refl _) hus .nil FR.nil w (Own.start w)).mono ?_
  rintro en w' ⟨u', σ', LM', h2, h3, h4, h5, h6, h7⟩
  rw [h2, (hu.mono h3).det h5]
  exact ⟨rfl, h7.below⟩
theorem calls_ev {σ0 : List (Nat × Nat × Nat)} (ok : OK c e σ0) {d f nx : Nat} {F : List MB} {vs : List V} {us : List Value} {v : V} {u : Value} {w : World} (hn : σ0.length = nx) (hF : FR c.P e σ0 F w) (h : (evF c d f vs [] F nx).map (·.1) = some v) (hus : RelVs e σ0 vs us) (hu : RelV e σ0 v u) :
  Calls c.P f (List.toArray us) w fun en w' => en = .returned u ∧ Below w.heap.size w w' := by
 cases hf : evF c d f vs [] F nx with
 | none => rw [hf] at h; cases h
 | some r =>
  obtain ⟨v', M', nx'⟩ := r
  rw [hf] at h
  cases h
  refine ((evF_sound ok (evC_sound ok d) f vs [] F nx _ M' nx' hf).2 w σ0 us [] hn (Ext.refl _) hus .nil hF w (Own.start w)).mono ?_
  rintro en w' ⟨u', σ', LM', h2, h3, h4, h5, h6, h7⟩
  rw [h2, (hu.mono h3).det h5]
  exact ⟨rfl, h7.below⟩
end
end Go.Proofs.Ytedfbamihjnhhaa.Own
