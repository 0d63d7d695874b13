/- A world made: the document's loops that find nothing. -/
/- A world made: what is known. -/
/- A world made: what is known of the document's loops. -/
/- A walk by reckoning: an argument of a struct type opened into numbers and lists. -/
/- Slices as arguments, opened. -/
/- A world made: the law. -/
import Derived.Test.YtedfbamihjnhhaaWmH
import Derived.Test.YtedfbamihjnhhaaFvO
section
namespace Go.Proofs.Ytedfbamihjnhhaa.Own
open Go Go.RowKit Go.Proofs Go.Proofs.Ytedfbamihjnhhaa.Plain
set_option linter.unusedVariables false
set_option linter.unusedSectionVars false
set_option linter.unusedSimpArgs false
set_option maxRecDepth 100000
end Go.Proofs.Ytedfbamihjnhhaa.Own
end
section
namespace Go.Proofs.Ytedfbamihjnhhaa.Own
open Go Go.RowKit Go.Proofs Go.Proofs.Ytedfbamihjnhhaa.Plain
set_option linter.unusedVariables false
set_option linter.unusedSectionVars false
set_option linter.unusedSimpArgs false
set_option maxRecDepth 100000
noncomputable def wmE (xs : List Int) : Env := envOf (FT Lm7_T) xs
theorem wm_old (xs : List Int) (x : SE) (h : x.fsB (fun f => (Lm7_T.take 28).all fun e => !Nat.beq f e.f) = true) : x.val (wmE xs) = x.val (wtEnv xs) :=
 val_drop 28 (by kernel_rfl) xs x h
theorem wm_fact {xs : List Int} {x : SE} {b : Bool} (h : x.fsB (fun f => (Lm7_T.take 28).all fun e => !Nat.beq f e.f) = true) (hx : (x.val (wtEnv xs) != 0) = b) : (x.val (wmE xs) != 0) = b := by
 rw [wm_old xs x h]; exact hx
theorem fm31 : FT Lm7_T 20031 = mrG (FT Tr5_T) := (FT_at 28 (by kernel_rfl) (by kernel_rfl)).trans ft31
theorem fm61 : FT Lm7_T 20061 = ib2G (FT Lm5_T) := (FT_at 28 (by kernel_rfl) (by kernel_rfl)).trans ft61
theorem fm33 : FT Lm7_T 20033 = itG (FT Lm1_Tib) := (FT_at 44 (Tb' := Lm1_Tit) (by kernel_rfl) (by kernel_rfl)).trans (FT_hd (Tb := Lm1_Tit) rfl rfl)
theorem fm34 : FT Lm7_T 20034 = iaG (FT Lm1_Tit) := (FT_at 43 (Tb' := Lm1_Tia) (by kernel_rfl) (by kernel_rfl)).trans (FT_hd (Tb := Lm1_Tia) rfl rfl)
theorem e42 : FT Tr5_T 42 = FT Tr5_T42 42 := FT_at 15 (by kernel_rfl) (by kernel_rfl)
theorem eql_1 {F : Nat → List Int → List Int} {xs : List Int} {f : Nat} {zs : SE} {w : List Int} (h : F f (zs.vals (envOf F xs)) = 1 :: w) : ((SE.cmp .eql (.app f 0 (some .i64) zs) (.lit .i64 0)).val (envOf F xs) != 0) = false := by
 rw [v_cmp, v_app, h, List.getD_cons_zero, l_i0]; rfl
theorem al_wr (el : List Int) : al (wr el) = wr el := rfl
theorem f44n (el : List Int) : FT Lm5_T 44 (wr el) = [b2i (!mayB (wr el))] := by
 have e : (SE.not (.app 45 0 none aB)).val (envOf (FT Tr5_T45) (wr el)) = b2i (!((SE.app 45 0 none aB).val (envOf (FT Tr5_T45) (wr el)) != 0)) := by simp only [SE.val]
 have t : tr44 = .leaf (.one (.opq (.not (.app 45 0 none aB)))) := rfl
 have h := f45n (wr_in el)
 rw [g44, t]
 refine tf_1 ?_
 rw [e, ap_b (b := mayB (wr el)) (by rw [aB_v (wr_in el), al_wr]; exact h), b2i_ne]
section
variable {xs : List Int} (hl : WtLen xs)
include hl
theorem bd0 (i : Nat) (hi : i < (dec (wtL0.val (wtEnv xs))).length) : BdT ((dec (wtL0.val (wtEnv xs))).getD i []) := by
 refine bdT_of ((wt_L0 hl).2 _ ?_)
 rw [List.getD_eq_getElem?_getD, List.getElem?_eq_getElem hi, Option.getD_some]
 exact List.getElem_mem hi
theorem bd5 (i : Nat) (hi : i < (dec (wtL0.val (wtEnv xs))).length) : BdT ((dec (wtL5.val (wtEnv xs))).getD i []) := bdT_th ((wt_L5 hl).2 i) (bd0 hl i hi)
theorem bd10 (i : Nat) (hi : i < (dec (wtL0.val (wtEnv xs))).length) : BdT ((dec (wtL10.val (wtEnv xs))).getD i []) := by
 refine bdT_th ((wt_L10 hl).2 i) ?_
 have : (dec (wtL7.val (wtEnv xs))).getD i [] = nearB ((dec (wtL0.val (wtEnv xs))).getD i []) := by
  rw [wt_L7 hl, List.getD_eq_getElem?_getD, List.getD_eq_getElem?_getD, List.getElem?_map, List.getElem?_eq_getElem hi]; rfl
 rw [this]; exact bdT_near (bd0 hl i hi)
theorem wt_ra : ∀ (j : Nat) (el : List Int), (dec (wtL6.val (wtEnv xs)))[j]? = some el → isRa (FT Lm5_Twl) j el := by
 have e : wtL6.val (wtEnv xs) = (raG (FT Lm5_Twl) [xs.getD 2 0]).getD 1 0 := by
  unfold wtL6 wtEnv; rw [lap_at, ft57]; simp only [vals_c, vals_n, lvar_at]
 have hp : Pre raL (FT Lm5_Twl) [xs.getD 2 0] := ⟨fun c hc => by
  have hc : c ∈ [(0, 0)] := hc
  simp only [List.mem_singleton] at hc; subst hc; exact hl.l2, fun c hc => (by cases hc), fun c hc => (by cases hc)⟩
 obtain ⟨ys, h1, h2, h3⟩ := ra_val (FT Lm5_Twl) [xs.getD 2 0] hp
 rw [e, h1]; exact h3
theorem rail_ok (i : Nat) (hi : i < (dec (wtL6.val (wtEnv xs))).length) : mayR (wrR ((dec (wtL6.val (wtEnv xs))).getD i []) (i : Int)) = true := by
 have h6 := wt_L6 hl
 have hF : FT Lm5_Twl 22 = FT Tr5_T22 22 := FT_at 44 (by kernel_rfl) (by kernel_rfl)
 refine mayR_ok (by omega) hF (wt_ra hl i _ ?_)
 rw [List.getD_eq_getElem?_getD, List.getElem?_eq_getElem hi, Option.getD_some]
theorem rail_in (i : Nat) (hi : i < (dec (wtL6.val (wtEnv xs))).length) : RaIn (wrR ((dec (wtL6.val (wtEnv xs))).getD i []) (i : Int)) := by
 have h6 := wt_L6 hl
 exact wrR_in _ (by show IntKind.i64.wrap _ = _; rw [IntKind.wrap_i64]; omega)
theorem rep_get (n i : Nat) (hi : i < n) : (List.replicate n [(-1 : Int)]).getD i [] = [-1] := by
 rw [List.getD_eq_getElem?_getD, List.getElem?_replicate, if_pos hi]; rfl
theorem te_ok {f g : List Int → List Int} (hf : ∀ a b c : Int, inK (some .i64) a → inK (some .i64) b → inK (some .i64) c → f [a, b, c] = [b2i (decide (b ≤ a) && decide (a ≤ c))])
  (hg : ∀ a b c : Int, inK (some .i64) a → inK (some .u64) b → 0 ≤ c ∧ c ≤ 1152921504606846976 → g [a, b, c] = [b2i (inF a b 0 (nn c 0))])
  (i : Nat) (hi : i < (dec (wtL9.val (wtEnv xs))).length) : TeOK f g ((dec (wtL0.val (wtEnv xs))).length : Int) ((dec (wtL9.val (wtEnv xs))).getD i []) := by
 have hn := n_in hl
 have hmem : (dec (wtL9.val (wtEnv xs))).getD i [] ∈ dec (wtL9.val (wtEnv xs)) := by
  rw [List.getD_eq_getElem?_getD, List.getElem?_eq_getElem hi, Option.getD_some]
  exact List.getElem_mem hi
 obtain ⟨a, b, h, q, ha, hb, hne, hh, hq, hel⟩ := (wt_L9 hl).2 _ hmem
 have hF : FT Lm4_T 22 = FT Tr5_T22 22 := FT_at 41 (by kernel_rfl) (by kernel_rfl)
 have wi : ∀ v : Int, -1000000000 ≤ v ∧ v ≤ 1000000000 → IntKind.i64.wrap v = v := fun v h => by rw [IntKind.wrap_i64]; omega
 rw [hF, f22b (n := q) ⟨by omega, by omega⟩] at hel
 have e3 : wrK (some .i64) (([q, 0] : List Int).getD 0 0) = q := by show IntKind.i64.wrap q = _; exact wi _ (by omega)
 have e4 : wrK (some .u64) (([q, 0] : List Int).getD 1 0) = 0 := rfl
 rw [e3, e4] at hel
 rw [hel]
 have wa := wi a (by omega)
 have wb := wi b (by omega)
 have wh := wi h (by omega)
 have wq := wi q (by omega)
 have w3 : IntKind.u64.wrap 2305843009213693952 = 2305843009213693952 := rfl
 have w5 : IntKind.u64.wrap 0 = 0 := rfl
 have kn : inK (some .i64) (((dec (wtL0.val (wtEnv xs))).length : Int) - 1) := wi _ (by omega)
 refine ⟨?_, ?_, ?_, ?_, ?_, ?_⟩ <;> simp only [List.getD_cons_zero, List.getD_cons_succ]
 ·rw [wa, hf a 0 (((dec (wtL0.val (wtEnv xs))).length : Int) - 1) wa rfl kn, decide_eq_true ha.1, decide_eq_true (by omega)]; rfl
 ·rw [wb, hf b 0 (((dec (wtL0.val (wtEnv xs))).length : Int) - 1) wb rfl kn, decide_eq_true hb.1, decide_eq_true (by omega)]; rfl
 ·rw [wa, wb]; exact hne
 ·rw [wh, w3, hg h 2305843009213693952 1073741824 wh rfl ⟨by decide, by decide⟩, inF_ok (by omega) (by unfold nn; omega) (by unfold nn; omega)]; rfl
 ·rw [w3]; decide
 ·rw [wq, w5, hg q 0 1099511627776 wq rfl ⟨by decide, by decide⟩, inF_ok (by omega) (by unfold nn; omega) (by unfold nn; omega)]; rfl
end
section
variable {xs : List Int} (hl : WtLen xs)
include hl
theorem mf0 : (wmF0.val (wmE xs) != 0) = false := by
 have h6 := wt_L6 hl
 have e := wm_old xs wtL6 (by kernel_rfl)
 obtain ⟨ys, h⟩ := mr_all (FT Tr5_T) (wtL6.val (wtEnv xs)) (by omega) fun i hi => by
  rw [e42, f42n (rail_in hl i hi), rail_ok hl i hi]; rfl
 unfold wmF0
 exact eql_1 (F := FT Lm7_T) (xs := xs) (w := ys) (by rw [fm31, vals_c, vals_n]; show mrG _ [wtL6.val (wmE xs)] = _; rw [e]; exact h)
theorem mf1 : (wmF1.val (wmE xs) != 0) = false := by
 have hn := n_in hl
 have e0 := wm_old xs wtL0 (by kernel_rfl)
 have e5 := wm_old xs wtL5 (by kernel_rfl)
 obtain ⟨ys, h⟩ := ib2_all (FT Lm5_T) (wtL0.val (wtEnv xs)) (wtL5.val (wtEnv xs)) (by omega) fun i hi => by
  rw [f44n, mayB_ok (bd5 hl i hi)]; rfl
 unfold wmF1
 exact eql_1 (F := FT Lm7_T) (xs := xs) (w := ys) (by rw [fm61, vals_c, vals_c, vals_n]; show ib2G _ [wtL0.val (wmE xs), wtL5.val (wmE xs)] = _; rw [e0, e5]; exact h)
theorem mf11 : (wmF11.val (wmE xs) != 0) = false := by
 have hn := n_in hl
 have e0 := wm_old xs wtL0 (by kernel_rfl)
 have e5 := wm_old xs wtL10 (by kernel_rfl)
 obtain ⟨ys, h⟩ := ib2_all (FT Lm5_T) (wtL0.val (wtEnv xs)) (wtL10.val (wtEnv xs)) (by omega) fun i hi => by
  rw [f44n, mayB_ok (bd10 hl i hi)]; rfl
 unfold wmF11
 exact eql_1 (F := FT Lm7_T) (xs := xs) (w := ys) (by rw [fm61, vals_c, vals_c, vals_n]; show ib2G _ [wtL0.val (wmE xs), wtL10.val (wmE xs)] = _; rw [e0, e5]; exact h)
theorem in51 (n : Int) (hn : 0 ≤ n ∧ n ≤ 1000000) : FT Lm1_Tit 51 [IntKind.i64.wrap (([-1] : List Int).getD 0 0), -1, n - 1] = [1] := by
 have e : FT Lm1_Tit 51 = FT Tr5_T51 51 := FT_at 20 (by kernel_rfl) (by kernel_rfl)
 have w : IntKind.i64.wrap (([-1] : List Int).getD 0 0) = -1 := rfl
 rw [e, w, f51n (a0 := -1) (b0 := -1) (c := n - 1) rfl rfl (show IntKind.i64.wrap (n - 1) = n - 1 by rw [IntKind.wrap_i64]; omega), decide_eq_true (by omega), decide_eq_true (by omega)]; rfl
theorem mf2 : (wmF2.val (wmE xs) != 0) = false := by
 have hn := n_in hl
 have h6 := wt_L6 hl
 have e4 := wm_old xs wtL4 (by kernel_rfl)
 have e6 := wm_old xs wtL6 (by kernel_rfl)
 have el : (SE.len wtL6).val (wmE xs) = ((dec (wtL6.val (wtEnv xs))).length : Int) := len_v (by rw [e6]) (by omega)
 have hd := wt_L4 hl
 obtain ⟨ys, h⟩ := ia_all (FT Lm1_Tit) (wtL4.val (wtEnv xs)) ((dec (wtL6.val (wtEnv xs))).length : Int) (by rw [hd, List.length_replicate]; omega) (by omega) fun i hi => by
  rw [hd, List.length_replicate] at hi
  rw [hd, rep_get hl _ i hi]
  exact in51 hl _ (by omega)
 unfold wmF2
 exact eql_1 (F := FT Lm7_T) (xs := xs) (w := ys) (by rw [fm34, vals_c, vals_c, vals_n]; show iaG _ [wtL4.val (wmE xs), (SE.len wtL6).val (wmE xs)] = _; rw [e4, el]; exact h)
theorem mf13 : (wmF13.val (wmE xs) != 0) = false := by
 have hn := n_in hl
 have h6 := wt_L6 hl
 have e4 := wm_old xs wtL8 (by kernel_rfl)
 have e6 := wm_old xs wtL6 (by kernel_rfl)
 have el : (SE.len wtL6).val (wmE xs) = ((dec (wtL6.val (wtEnv xs))).length : Int) := len_v (by rw [e6]) (by omega)
 have hd := wt_L8 hl
 obtain ⟨ys, h⟩ := ia_all (FT Lm1_Tit) (wtL8.val (wtEnv xs)) ((dec (wtL6.val (wtEnv xs))).length : Int) (by rw [hd, List.length_replicate]; omega) (by omega) fun i hi => by
  rw [hd, List.length_replicate] at hi
  rw [hd, rep_get hl _ i hi]
  exact in51 hl _ (by omega)
 unfold wmF13
 exact eql_1 (F := FT Lm7_T) (xs := xs) (w := ys) (by rw [fm34, vals_c, vals_c, vals_n]; show iaG _ [wtL8.val (wmE xs), (SE.len wtL6).val (wmE xs)] = _; rw [e4, el]; exact h)
theorem mf12 : (wmF12.val (wmE xs) != 0) = false := by
 have hn := n_in hl
 have h9 := (wt_L9 hl).1
 have e9 := wm_old xs wtL9 (by kernel_rfl)
 have e0 := wm_old xs wtL0 (by kernel_rfl)
 have el : (SE.len wtL0).val (wmE xs) = ((dec (wtL0.val (wtEnv xs))).length : Int) := len_v (by rw [e0]) (by omega)
 have e51 : FT Lm1_Tib 51 = FT Tr5_T51 51 := FT_at 19 (by kernel_rfl) (by kernel_rfl)
 have e75 : FT Lm1_Tib 75 = FT Tr5_T75 75 := FT_at 20 (by kernel_rfl) (by kernel_rfl)
 obtain ⟨ys, h⟩ := it_all (FT Lm1_Tib) (wtL9.val (wtEnv xs)) ((dec (wtL0.val (wtEnv xs))).length : Int) (by omega) (by omega) fun i hi =>
  te_ok hl (fun a b c ha hb hc => by rw [e51]; exact f51n ha hb hc) (fun a b c ha hb hc => by rw [e75]; exact f75n ha hb hc) i hi
 unfold wmF12
 exact eql_1 (F := FT Lm7_T) (xs := xs) (w := ys) (by rw [fm33, vals_c, vals_c, vals_n]; show itG _ [wtL9.val (wmE xs), (SE.len wtL0).val (wmE xs)] = _; rw [e9, el]; exact h)
end
theorem e53 : FT Lm7_T 53 = FT Tr7_T53 53 := FT_at 22 (by kernel_rfl) (by kernel_rfl)
end Go.Proofs.Ytedfbamihjnhhaa.Own
end
section
namespace Go.Proofs.Ytedfbamihjnhhaa.Own
open Go Go.RowKit Go.Proofs Go.Proofs.Ytedfbamihjnhhaa.Plain
set_option linter.unusedVariables false
set_option linter.unusedSectionVars false
set_option linter.unusedSimpArgs false
set_option maxRecDepth 100000
section
variable {xs : List Int} (hl : WtLen xs)
include hl
end
end Go.Proofs.Ytedfbamihjnhhaa.Own
end
section
namespace Go.Proofs.Ytedfbamihjnhhaa.Own
open Go Go.RowKit Go.Proofs Go.ChangeShapes Go.WideShapes Go.ChangeAt
set_option linter.unusedVariables false
set_option linter.unusedSimpArgs false
theorem cell_spot {P : Program} {w : World} {base : Nat} {t : TypeId} {v : Value} (h : Cell.okWide P w .any base t v) : spotOK v := by
 intro a n c hv
 subst hv
 unfold Cell.okWide at h
 split at h
 ·rename_i h2; cases h2
 ·rename_i h2; cases h2
 ·rename_i h2; cases h2
 ·rename_i h2; cases h2
 ·rename_i h2; cases h2
 ·rename_i h2; cases h2
 ·rename_i h2; cases h2
 ·unfold Cell.ok at h
  split at h
  all_goals first
   | (rename_i h2; cases h2; done)
   | (rename_i h2 h3; cases h3; done)
   | (rename_i h2 h3; cases h3; exact h.2.2.2.1)
   | exact h.elim
section
variable {H : Type} {enc' : TypeId × Value → H} {P : Program} {w : World} {base b2 : Nat} {sp : Nat → Bool} {held : Bool}
end
theorem LfsOK.atL {w : World} {e : TypeId} {ks : Ks} : ∀ {ls : List Lf} {cs : List Value} {xs : List Int} {ss : List (Nat × Nat × Nat)} (i : Nat), LfsOK w ls cs xs ss → ls[i]? = some (.sl e ks) → (dec (xs.getD i 0)).length ≤ maxLen
 | _, _, _, _, i, .nil, h => by cases i <;> cases h
 | _, _, _, _, 0, .num hk t, h => by cases h
 | _, _, _, _, i + 1, .num hk t, h => by rw [List.getD_cons_succ]; exact LfsOK.atL i t h
 | _, _, _, _, 0, .sl hk t, h => by rw [List.getD_cons_zero, dec_enc]; exact hk.l
 | _, _, _, _, i + 1, .sl hk t, h => by rw [List.getD_cons_succ]; exact LfsOK.atL i t h
def slN : List Lf → Nat
 | [] => 0
 | .num _ :: r => slN r
 | .sl _ _ :: r => slN r + 1
theorem LfsOK.slen {w : World} : ∀ {ls : List Lf} {cs : List Value} {xs : List Int} {ss : List (Nat × Nat × Nat)}, LfsOK w ls cs xs ss → ss.length = slN ls
 | _, _, _, _, .nil => rfl
 | _, _, _, _, .num _ t => by rw [slN]; exact LfsOK.slen t
 | _, _, _, _, .sl _ t => by rw [slN, List.length_cons, LfsOK.slen t]
end Go.Proofs.Ytedfbamihjnhhaa.Own
end
section
namespace Go.Proofs.Ytedfbamihjnhhaa.Own
open Go Go.RowKit Go.Proofs Go.ChangeShapes Go.WideShapes Go.ChangeAt
set_option linter.unusedVariables false
set_option linter.unusedSectionVars false
set_option linter.unusedSimpArgs false
section
variable {H : Type} {enc' : TypeId × Value → H} {P : Program} {w : World} {base b2 : Nat} {sp : Nat → Bool} {held : Bool}
theorem open_slice {t e : TypeId} {v : Value} {d : DataW H} {ps : List MemPlace} {ls : List Lf} {dd : Nat} (hu : P.underlying t = some (.slice e)) (hok : Value.okWide P w .any b2 t v) (h : DataW.Trod enc' P w base sp held t v d ps) (hlf : lfOf P dd t = some ls) :
  ∃ xs ss, LfsOK w ls [v] xs ss := by
 unfold Value.okWide at hok
 rw [hu] at hok
 obtain ⟨fuel, hf⟩ := h
 have hv : v.cells.toList = [v] := by
  unfold Cell.okWide at hok
  cases v <;> first | rfl | skip
  all_goals simp [Cell.ok, hu] at hok
 rw [hv] at hf
 exact trod_lf dd hlf hf (.inr fun u hu2 => by
  simp only [List.mem_singleton] at hu2
  subst hu2
  exact cell_spot hok)
end
theorem rel_ones {e : Vl} {σ : List (Nat × Nat × Nat)} : ∀ {cs : List C} {us : List Value}, RelCs e σ cs us → RelVs e σ (cs.map .one) us
 | _, _, .nil => .nil
 | _, _, .cons h t => .cons (.one h) (rel_ones t)
end Go.Proofs.Ytedfbamihjnhhaa.Own
end
section
namespace Go.Proofs.Ytedfbamihjnhhaa.Own
open Go Go.RowKit Go.Proofs Go.Proofs.Ytedfbamihjnhhaa.Plain
set_option linter.unusedVariables false
set_option linter.unusedSectionVars false
set_option linter.unusedSimpArgs false
set_option maxRecDepth 100000
def AllM (xs : List Int) : List (SE × Bool) → Prop
 | [] => True
 | p :: r => (isBool p.1 = true ∧ (p.1.val (wmE xs) != 0) = p.2) ∧ AllM xs r
theorem AllM.knows {xs : List Int} : ∀ {l : List (SE × Bool)}, AllM xs l → Knows (wmE xs) l
 | [], _ => .nil
 | (x, b) :: r, h => .cons (by rw [eS_k (isBool_ty h.1.1)]; show Value.bool _ = _; rw [show (x.val (wmE xs) != 0) = b from h.1.2]) (AllM.knows h.2)
section
variable {xs : List Int} (hl : WtLen xs)
include hl
end
section
variable {xs : List Int} {σ : List (Nat × Nat × Nat)} {us : List Value} {w : World} (hl : WtLen xs) (hn : σ.length = 4) (hus : RelVs (eV (wmE xs)) σ wmA us) (hF : FR (bW.loops Lm7_L).P (eV (wmE xs)) σ [wtM] w)
include hl hn hus hF
end
noncomputable def wmLs : List Lf := [.sl 5 [some .u8], .sl 5 [some .u8], .sl 5 [some .u8], .sl 5 [some .u8], .num (some .u8)]
end Go.Proofs.Ytedfbamihjnhhaa.Own
end
