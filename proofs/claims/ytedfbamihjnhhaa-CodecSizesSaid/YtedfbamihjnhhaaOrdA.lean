/- A walk by reckoning: closed values that are known beforehand. -/
/- A quotient of numbers with a point: what the code computes. -/
/- One more: what the code computes. -/
/- Which of two is the larger: what the code computes. -/
import Derived.Test.YtedfbamihjnhhaaFvO
import Derived.Test.YtedfbamihjnhhaaLimbX
section
namespace Go.Proofs.Ytedfbamihjnhhaa.Own
open Go Go.RowKit Go.Proofs
set_option linter.unusedVariables false
set_option linter.unusedSimpArgs false
def cfK (b : Cfg) (Tb : List Ent) (K : Hook) (ds : List (SE × Bool)) : Cfg := { cfT b Tb ds with H := fun f vs => match K f vs with | some v => some v | none => hT Tb f vs }
def KOK (P : Program) (K : Hook) : Prop := ∀ (e : Vl) (σ : List (Nat × Nat × Nat)) (f : Nat) (vs : List V) (v : V) (us : List Value), K f vs = some v → RelVs e σ vs us → isFn P f = true ∧ ∃ u, RelV e σ v u ∧ Pure P f (List.toArray us) u
theorem okK {b : Cfg} (hb : CfgOK b) {E : Env} {Tb : List Ent} {K : Hook} (hK : KOK b.P K) (hlb : LB b Tb) (h : TbOK b.P Tb) (hE : E.F = fun f i ys => (FT Tb f ys).getD i 0) {ds : List (SE × Bool)} (hk : Knows E ds) {σ0 : List (Nat × Nat × Nat)} : OK (cfK b Tb K ds) (eV E) σ0 :=
 have o := okT hb hlb h hE hk (σ0 := σ0)
 ⟨o.he, o.x, fun σ hx f vs v us h1 h2 => by
  change (match K f vs with | some v => some v | none => hT Tb f vs) = some v at h1
  cases hf : K f vs with
  | some x => rw [hf] at h1; cases h1; exact hK _ σ f vs _ us hf h2
  | none => rw [hf] at h1; exact o.h σ hx f vs v us h1 h2, o.g, o.d, o.l, o.b, o.mixed⟩
def checkK (b : Cfg) (Tb : List Ent) (K : Hook) (d f : Nat) (args : List V) (F : MB) (nx : Nat) : LT → List (SE × Bool) → Bool
 | .done, ds => (match evF (cfK b Tb K ds) d f args [] [F] nx with | some (.one (.bool r), _, _) => r | _ => false)
 | .ask x t e, ds => isBool x && (checkK b Tb K d f args F nx t ((x, true) :: ds) && checkK b Tb K d f args F nx e ((x, false) :: ds))
 | .know x v t, ds => isBool x && checkK b Tb K d f args F nx t ((x, v) :: ds)
theorem law_soundK {b : Cfg} {Tb : List Ent} {K : Hook} (hb : CfgOK b) (hK : KOK b.P K) (hlb : LB b Tb) (hT : TbOK b.P Tb) {E : Env} (hE : E.F = fun f i ys => (FT Tb f ys).getD i 0) {σ : List (Nat × Nat × Nat)} {d f nx : Nat} {args : List V} {us : List Value} {F : MB} {w : World} (hn : σ.length = nx) (hus : RelVs E σ args us) (hF : FR b.P E σ [F] w) :
  ∀ (T : LT) (ds : List (SE × Bool)), checkK b Tb K d f args F nx T ds = true → Knows E ds → T.ok E → Calls b.P f (List.toArray us) w fun en w' => en = .returned (.bool true) ∧ Below w.heap.size w w'
 | .done, ds, h, hk, _ => by
  simp only [checkK] at h
  split at h
  ·rename_i r M n hev
   subst h
   exact calls_ev (c := cfK b Tb K ds) (σ0 := σ) (okK hb hK hlb hT hE hk) hn hF (by rw [hev]; rfl) hus (.one .bool)
  ·cases h
 | .ask x t e, ds, h, hk, hok => by
  simp only [checkK, Bool.and_eq_true] at h
  obtain ⟨h0, h1, h2⟩ := h
  have e0 : eS E x = .bool (x.val E != 0) := by rw [eS_k (isBool_ty h0)]; rfl
  cases hb' : (x.val E != 0) with
  | true => exact law_soundK hb hK hlb hT hE hn hus hF t _ h1 (.cons (by rw [e0, hb']) hk) (hok.1 hb')
  | false => exact law_soundK hb hK hlb hT hE hn hus hF e _ h2 (.cons (by rw [e0, hb']) hk) (hok.2 hb')
 | .know x v t, ds, h, hk, hok => by
  simp only [checkK, Bool.and_eq_true] at h
  obtain ⟨h0, h1⟩ := h
  have e0 : eS E x = .bool (x.val E != 0) := by rw [eS_k (isBool_ty h0)]; rfl
  exact law_soundK hb hK hlb hT hE hn hus hF t _ h1 (.cons (by rw [e0, hok.1]) hk) hok.2
/-! ### literals -/
def litC : C → Option Value
 | .int k n => some (.int k n)
 | .bool b => some (.bool b)
 | .nils => some (.slice none 0 0)
 | _ => none
def litCs : List C → Option (List Value)
 | [] => some []
 | c :: cs => match litC c, litCs cs with | some v, some vs => some (v :: vs) | _, _ => none
def litV : V → Option Value
 | .one c => litC c
 | .agg cs => (match litCs cs with | some vs => some (.agg (List.toArray vs)) | none => none)
 | _ => none
def litVs : List V → Option (List Value)
 | [] => some []
 | c :: cs => match litV c, litVs cs with | some v, some vs => some (v :: vs) | _, _ => none
section
variable {e : Vl} {σ : List (Nat × Nat × Nat)}
theorem litC_rel {c : C} {u v : Value} (h : litC c = some u) (hr : RelC e σ c v) : v = u := by
 cases hr <;> cases h <;> rfl
theorem litC_mk {c : C} {u : Value} (h : litC c = some u) : RelC e σ c u := by
 cases c <;> cases h <;> constructor
theorem litCs_rel : ∀ {cs : List C} {us vs : List Value}, litCs cs = some us → RelCs e σ cs vs → vs = us
 | _, us, _, h, .nil => by cases h; rfl
 | c :: cs, us, _, h, .cons hc ht => by
  simp only [litCs] at h
  split at h
  ·rename_i v vs h1 h2
   cases h
   rw [litC_rel h1 hc, litCs_rel h2 ht]
  ·cases h
theorem litCs_mk : ∀ {cs : List C} {us : List Value}, litCs cs = some us → RelCs e σ cs us
 | [], us, h => by cases h; exact .nil
 | c :: cs, us, h => by
  simp only [litCs] at h
  split at h
  ·rename_i v vs h1 h2
   cases h
   exact .cons (litC_mk h1) (litCs_mk h2)
  ·cases h
theorem litV_rel {x : V} {u v : Value} (h : litV x = some u) (hr : RelV e σ x v) : v = u := by
 cases hr with
 | one hc => exact litC_rel h hc
 | agg hc =>
  simp only [litV] at h
  split at h
  ·rename_i vs h1; cases h; rw [litCs_rel h1 hc]
  ·cases h
 | tup _ => cases h
 | any => cases h
theorem litV_mk {x : V} {u : Value} (h : litV x = some u) : RelV e σ x u := by
 cases x with
 | one c => exact .one (litC_mk h)
 | agg cs =>
  simp only [litV] at h
  split at h
  ·rename_i vs h1; cases h; exact .agg (litCs_mk h1)
  ·cases h
 | tup _ => cases h
 | any => cases h
theorem litVs_rel : ∀ {xs : List V} {us vs : List Value}, litVs xs = some us → RelVs e σ xs vs → vs = us
 | _, us, _, h, .nil => by cases h; rfl
 | c :: cs, us, _, h, .cons hc ht => by
  simp only [litVs] at h
  split at h
  ·rename_i v vs h1 h2
   cases h
   rw [litV_rel h1 hc, litVs_rel h2 ht]
  ·cases h
theorem litVs_mk : ∀ {xs : List V} {us : List Value}, litVs xs = some us → RelVs e σ xs us
 | [], us, h => by cases h; exact .nil
 | c :: cs, us, h => by
  simp only [litVs] at h
  split at h
  ·rename_i v vs h1 h2
   cases h
   exact .cons (litV_mk h1) (litVs_mk h2)
  ·cases h
end
def eqcK : C → C → Bool
 | .nils, .nils => true
 | a, b => eqcB a b
theorem eqcK_eq {a b : C} (h : eqcK a b = true) : a = b := by
 unfold eqcK at h
 split at h
 ·rfl
 ·exact eqcB_eq h
def eqlK : List C → List C → Bool
 | [], [] => true
 | a :: az, b :: bs => eqcK a b && eqlK az bs
 | _, _ => false
theorem eqlK_eq : ∀ {a b : List C}, eqlK a b = true → a = b
 | [], [], _ => rfl
 | a :: az, b :: bs, h => by simp only [eqlK, Bool.and_eq_true] at h; rw [eqcK_eq h.1, eqlK_eq h.2]
 | [], b :: bs, h => by cases h
 | a :: az, [], h => by cases h
def eqvK : V → V → Bool
 | .one a, .one b => eqcK a b
 | .agg a, .agg b => eqlK a b
 | _, _ => false
theorem eqvK_eq {a b : V} (h : eqvK a b = true) : a = b := by
 unfold eqvK at h
 split at h
 ·rw [eqcK_eq h]
 ·rw [eqlK_eq h]
 ·cases h
def eqvsB : List V → List V → Bool
 | [], [] => true
 | a :: az, b :: bs => eqvK a b && eqvsB az bs
 | _, _ => false
theorem eqvsB_eq : ∀ {a b : List V}, eqvsB a b = true → a = b
 | [], [], _ => rfl
 | a :: az, b :: bs, h => by
  simp only [eqvsB, Bool.and_eq_true] at h
  rw [eqvK_eq h.1, eqvsB_eq h.2]
 | [], _ :: _, h => by cases h
 | _ :: _, [], h => by cases h
structure KEnt where
 f : Nat
 vs : List V
 v : V
def kL : List KEnt → Hook
 | [], _, _ => none
 | k :: r, f, vs => bif Nat.beq k.f f && eqvsB k.vs vs then some k.v else kL r f vs
def KE (P : Program) (k : KEnt) : Prop := isFn P k.f = true ∧ ∃ us u, litVs k.vs = some us ∧ litV k.v = some u ∧ Pure P k.f (List.toArray us) u
theorem kL_ok {P : Program} : ∀ {l : List KEnt}, (∀ k ∈ l, KE P k) → KOK P (kL l)
 | [], _ => fun _ _ _ _ _ _ h => by cases h
 | k :: r, hl => fun e σ f vs v us h hr => by
  simp only [kL] at h
  cases hb : (Nat.beq k.f f && eqvsB k.vs vs) with
  | true =>
   rw [hb, cond_true] at h
   cases h
   simp only [Bool.and_eq_true] at hb
   obtain ⟨h1, us', u, h2, h3, h4⟩ := hl k (.head _)
   have e1 := Nat.eq_of_beq_eq_true hb.1
   have e2 := eqvsB_eq hb.2
   subst e1; subst e2
   rw [litVs_rel h2 hr]
   exact ⟨h1, u, litV_mk h3, h4⟩
  | false =>
   rw [hb, cond_false] at h
   exact kL_ok (fun k hk => hl k (.tail _ hk)) e σ f vs v us h hr
end Go.Proofs.Ytedfbamihjnhhaa.Own
end
section
namespace Go.Proofs.Ytedfbamihjnhhaa.Own
open Go Go.RowKit Go.Proofs Go.Proofs.Ytedfbamihjnhhaa.Plain
open Go.Proofs.Ytedfbamihjnhhaa.Limb (n2 n4)
set_option linter.unusedVariables false
set_option linter.unusedSimpArgs false
set_option maxRecDepth 100000
theorem rel_at {E : Env} {σ : List (Nat × Nat × Nat)} {k : IntKind} {x : SE} {a : Int} (hk : x.ty = some (some k)) (h : x.val E = a) : RelC (eV E) σ (.opq x) (.int k a) := by
 have := rel_opq (e := E) (σ := σ) x
 rw [eS_k (k := some k) hk] at this
 rw [h] at this
 exact this
def shX1 : SE := .bin .or .u64 (.lit .u64 0) (.bin .shr .u64 (.bin .shr .u64 (.ivar .u64 0) (.lit .u64 1)) (.lit .i64 63))
def shX2 : SE := .bin .or .u64 (.bin .shl .u64 (.ivar .u64 0) (.lit .i64 0)) (.bin .shr .u64 (.bin .shr .u64 (.ivar .u64 1) (.lit .u64 1)) (.lit .i64 63))
def shX3 : SE := .bin .shl .u64 (.ivar .u64 1) (.lit .i64 0)
theorem sh_run : (evF (cfT bW [] []) 300 143 [.agg [.int .u64 0, .int .u64 0, .opq (.ivar .u64 0), .opq (.ivar .u64 1)], .one (.int .i64 64)] [] [] 0).map (·.1) = some (.agg [.opq shX1, .opq shX2, .opq shX3, .int .u64 0]) := by kernel_rfl
theorem u64_in {x : Int} (h : 0 ≤ x ∧ x < 18446744073709551616) : IntKind.u64.wrap x = x := by rw [IntKind.wrap_u64]; omega
theorem or_zero {x : Int} (h : 0 ≤ x ∧ x < 18446744073709551616) : bits .or .u64 x 0 = x := by
 obtain ⟨n, rfl⟩ := Int.eq_ofNat_of_zero_le h.1
 have := u64_or_nat n 0 (by omega) (by decide)
 simpa using this
theorem shr_64 {x : Int} (h : 0 ≤ x ∧ x < 18446744073709551616) : IntKind.u64.wrap ((IntKind.u64.wrap (x.fdiv (2 ^ (min (IntKind.u64.wrap 1).toNat IntKind.u64.bits)))).fdiv (2 ^ (min (IntKind.i64.wrap 63).toNat IntKind.u64.bits))) = 0 := by
 have e1 : x.fdiv (2 ^ (min (IntKind.u64.wrap 1).toNat IntKind.u64.bits)) = x / 2 := by rw [Int.fdiv_eq_ediv_of_nonneg _ (Int.pow_nonneg (by decide))]; rfl
 have h2 : 0 ≤ x / 2 ∧ x / 2 < 9223372036854775808 := by omega
 have e3 : IntKind.u64.wrap (x / 2) = x / 2 := u64_in (by omega)
 rw [e1, e3]
 generalize x / 2 = y at *
 have e2 : y.fdiv (2 ^ (min (IntKind.i64.wrap 63).toNat IntKind.u64.bits)) = y / 9223372036854775808 := by rw [Int.fdiv_eq_ediv_of_nonneg _ (Int.pow_nonneg (by decide))]; rfl
 rw [e2, show y / 9223372036854775808 = 0 by omega]; rfl
theorem shl_0 {x : Int} (h : 0 ≤ x ∧ x < 18446744073709551616) : IntKind.u64.wrap (x * 2 ^ (min (IntKind.i64.wrap 0).toNat IntKind.u64.bits)) = x := by
 have e1 : x * 2 ^ (min (IntKind.i64.wrap 0).toNat IntKind.u64.bits) = x * 1 := rfl
 rw [e1, Int.mul_one, u64_in h]
theorem shl64_words {h l : Int} (hh : 0 ≤ h ∧ h < 18446744073709551616) (hl : 0 ≤ l ∧ l < 18446744073709551616) : Pure Try.prog 143 #[.agg #[.int .u64 0, .int .u64 0, .int .u64 h, .int .u64 l], .int .i64 64] (.agg #[.int .u64 0, .int .u64 h, .int .u64 l, .int .u64 0]) := by
 have f0 : (envOf (FT []) [h, l]).iv 0 = h := rfl
 have f1 : (envOf (FT []) [h, l]).iv 1 = l := rfl
 have w0 : IntKind.u64.wrap 0 = 0 := rfl
 have v1 : shX1.val (envOf (FT []) [h, l]) = 0 := by
  simp only [shX1, SE.val, valBin, f0, u64_in hh, shr_64 hh, w0]; rfl
 have v2 : shX2.val (envOf (FT []) [h, l]) = h := by
  simp only [shX2, SE.val, valBin, f0, f1, u64_in hh, u64_in hl, shr_64 hl, shl_0 hh, or_zero hh]
 have v3 : shX3.val (envOf (FT []) [h, l]) = l := by
  simp only [shX3, SE.val, valBin, f1, u64_in hl, shl_0 hl]
 exact pure_ev (c := cfT bW [] []) (d := 300) (vs := [.agg [.int .u64 0, .int .u64 0, .opq (.ivar .u64 0), .opq (.ivar .u64 1)], .one (.int .i64 64)]) (v := .agg [.opq shX1, .opq shX2, .opq shX3, .int .u64 0]) (okT bW_ok bW_l tb_nil rfl .nil) sh_run
  (.cons (.agg (.cons .int (.cons .int (.cons (rel_at rfl (by simp only [SE.val, f0, u64_in hh])) (.cons (rel_at rfl (by simp only [SE.val, f1, u64_in hl])) .nil))))) (.cons (.one .int) .nil))
  (.agg (.cons (rel_at rfl v1) (.cons (rel_at rfl v2) (.cons (rel_at rfl v3) (.cons .int .nil)))))
end Go.Proofs.Ytedfbamihjnhhaa.Own
end
section
namespace Go.Proofs.Ytedfbamihjnhhaa.Own
open Go Go.RowKit Go.Proofs Go.Proofs.Ytedfbamihjnhhaa.Plain
set_option linter.unusedVariables false
set_option linter.unusedSimpArgs false
set_option maxRecDepth 100000
theorem shl_one : Pure Try.prog 143 #[.agg #[.int .u64 0, .int .u64 0, .int .u64 0, .int .u64 1], .int .i64 0] (.agg #[.int .u64 0, .int .u64 0, .int .u64 0, .int .u64 1]) :=
 pure_ev (c := cf0) (d := 300) (vs := [.agg [.int .u64 0, .int .u64 0, .int .u64 0, .int .u64 1], .one (.int .i64 0)]) (v := .agg [.int .u64 0, .int .u64 0, .int .u64 0, .int .u64 1]) ok0 (by kernel_rfl) (litVs_mk rfl) (litV_mk rfl)
set_option maxHeartbeats 4000000 in
theorem more_run (q : Four) : Pure Try.prog 145 #[q.v, .int .i64 0] (if 340282366920938463463374607431768211456 ≤ q.lo.n + 1 then (.agg #[.int .u64 (Two.of ((Two.of (q.hi.n + 0)).n + 1)).hi, .int .u64 (Two.of ((Two.of (q.hi.n + 0)).n + 1)).lo, .int .u64 (Two.of (q.lo.n + 1)).hi, .int .u64 (Two.of (q.lo.n + 1)).lo]) else (.agg #[.int .u64 (Two.of (q.hi.n + 0)).hi, .int .u64 (Two.of (q.hi.n + 0)).lo, .int .u64 (Two.of (q.lo.n + 1)).hi, .int .u64 (Two.of (q.lo.n + 1)).lo])) := by
 have h1 := shl_one
 have h2 := wide_pure ⟨0, 1, by decide⟩
 have h3 := add_pure q.lo ⟨0, 1, by decide⟩
 have h4 := add_pure q.hi ⟨0, 0, by decide⟩
 have h5 := add_pure (Two.of (q.hi.n + 0)) ⟨0, 1, by decide⟩
 have z1 : (⟨0, 1, by decide⟩ : Two).n = 1 := by kernel_rfl
 have z0 : (⟨0, 0, by decide⟩ : Two).n = 0 := by kernel_rfl
 rw [z1] at h3 h5
 rw [z0] at h4
 generalize hc : decide (340282366920938463463374607431768211456 ≤ q.lo.n + 1) = c at *
 have hcc : (340282366920938463463374607431768211456 ≤ q.lo.n + 1) ↔ c = true := by rw [← hc]; exact decide_eq_true_iff.symm
 simp only [hcc]
 generalize Two.of ((Two.of (q.hi.n + 0)).n + 1) = C at *
 generalize Two.of (q.hi.n + 0) = B at *
 generalize Two.of (q.lo.n + 1) = A at *
 refine pure_q Try.func145 rfl Try.ntmps145 rfl rfl (fun w0 Q hQ => ?_)
 repeat' (
  first
   | refine j_seq_k (fun N hN => ?_)
   | refine j_text ?_
   | refine j_block ?_
   | refine j_skip ?_
   | refine j_ret ?_
   | refine j_exit ?_
   | refine s_nil (show X _ _ _ _ _ from ?_)
   | (refine x_next hN ?_; clear hN N)
   | (refine x_then_ret ?_; clear hN N)
   | (refine x_then_exit ?_; clear hN N)
   | refine x_block ?_
   | refine x_block_ret ?_
   | refine x_block_hit ?_
   | refine x_block_miss (by eq_refl) ?_
   | refine k_skip (h := ?_)
   | refine k_fieldAddr (h := ?_)
   | refine k_load_one (h := ?_)
   | refine k_load_agg (h := ?_)
   | refine k_bin (h := ?_)
   | refine k_move (h := ?_)
   | refine k_assign (h := ?_)
   | refine k_extract (h := ?_)
   | refine k_call (hp := h1) (h := ?_)
   | refine k_call (hp := h2) (h := ?_)
   | refine k_call (hp := h3) (h := ?_)
   | refine k_call (hp := h4) (h := ?_)
   | refine k_call (hp := h5) (h := ?_)
   | (refine k_box (h := ?_); intro g)
   | (refine k_alloc (h := ?_); intro g)
   | refine k_store (h := ?_)
   | refine k_field_agg (h := ?_)
   | refine k_build (h := ?_)
   | refine k_conv (h := ?_)
   | refine k_not (h := ?_)
   | refine k_eqb (h := ?_)
   | refine k_neb (h := ?_)
   | refine k_eqs (h := ?_)
   | refine k_nes (h := ?_)
   | refine k_pick_t (h := ?_)
   | refine k_pick_f (h := ?_)
   | refine k_shl (h := ?_)
   | refine k_shr (h := ?_)
   | refine k_len_slice (h := ?_)
   | refine k_quo (h := ?_)
   | refine k_rem (h := ?_)
   | (refine k_buildSlice (h := ?_); intro g)
   | refine k_indexAddr_arr (h := ?_)
   | refine c_true (h := ?_)
   | refine c_false (h := ?_)
   | (refine s_ask (by eq_refl) (by eq_refl) (evO_eq (by eq_refl)) (fun hask => ?_) (fun hask => ?_))
   | (refine c_split (by eq_refl) (fun hif => ?_) (fun hif => ?_))
  )
 all_goals refine hQ _ _ (ret1 rfl (by (first | exact v_tmp | exact v_agg)) ?_)
 all_goals (rw [hif]; rfl)
end Go.Proofs.Ytedfbamihjnhhaa.Own
end
section
namespace Go.Proofs.Ytedfbamihjnhhaa.Own
open Go Go.RowKit Go.Proofs Go.Proofs.Ytedfbamihjnhhaa.Plain
set_option linter.unusedVariables false
set_option linter.unusedSimpArgs false
def cmpI (x y : Int) : Int := if x < y then -1 else if x > y then 1 else 0
def orI (a b c d : Int) : Int := if a ≠ 0 then a else if b ≠ 0 then b else if c ≠ 0 then c else d
set_option maxRecDepth 100000 in
set_option maxHeartbeats 4000000 in
theorem isnan_pure (x : Int) : Pure Try.prog 127 #[.int .u64 x] (.bool false) := by
 have e1 : arith .neq .u64 x x = some (.bool false) := by simp [arith]
 refine pure_q Try.func127 rfl Try.ntmps127 rfl rfl (fun w0 Q hQ => ?_)
 repeat (
  first
   | refine j_seq_k (fun N hN => ?_)
   | refine j_text ?_
   | refine j_block ?_
   | refine j_skip ?_
   | refine j_ret ?_
   | refine j_exit ?_
   | refine s_nil (show X _ _ _ _ _ from ?_)
   | (refine x_next hN ?_; clear hN N)
   | (refine x_then_ret ?_; clear hN N)
   | (refine x_then_exit ?_; clear hN N)
   | refine x_block ?_
   | refine x_block_ret ?_
   | refine x_block_hit ?_
   | refine x_block_miss (by eq_refl) ?_
   | refine k_skip (h := ?_)
   | refine k_fieldAddr (h := ?_)
   | refine k_load_one (h := ?_)
   | refine k_load_agg (h := ?_)
   | refine k_bin (h := ?_)
   | refine k_move (h := ?_)
   | refine k_assign (h := ?_)
   | refine k_extract (h := ?_)
   | (refine k_box (h := ?_); intro g)
   | (refine k_alloc (h := ?_); intro g)
   | refine k_store (h := ?_)
   | refine k_field_agg (h := ?_)
   | refine k_build (h := ?_)
   | refine k_conv (h := ?_)
   | refine k_not (h := ?_)
   | refine k_eqb (h := ?_)
   | refine k_neb (h := ?_)
   | refine k_eqs (h := ?_)
   | refine k_nes (h := ?_)
   | refine k_pick_t (h := ?_)
   | refine k_pick_f (h := ?_)
   | refine k_shl (h := ?_)
   | refine k_shr (h := ?_)
   | refine k_len_slice (h := ?_)
   | refine k_quo (h := ?_)
   | refine k_rem (h := ?_)
   | (refine k_buildSlice (h := ?_); intro g)
   | refine k_indexAddr_arr (h := ?_)
   | refine c_true (h := ?_)
   | refine c_false (h := ?_)
   | (refine s_ask (by eq_refl) (by eq_refl) (evO_eq (by eq_refl)) (fun hask => ?_) (fun hask => ?_))
   | (refine c_split (by eq_refl) (fun hif => ?_) (fun hif => ?_))
  )
 refine hQ _ _ (ret1 rfl (by (first | exact v_tmp | exact v_agg)) ?_)
 rfl
set_option maxRecDepth 100000 in
set_option maxHeartbeats 4000000 in
theorem compare_pure (x y : Int) : Pure Try.prog 103 #[.int .u64 x, .int .u64 y] (.int .i64 (cmpI x y)) := by
 have n1 := isnan_pure x
 have n2 := isnan_pure y
 obtain ⟨b1, h1⟩ : ∃ b, decide (x < y) = b := ⟨_, rfl⟩
 obtain ⟨b2, h2⟩ : ∃ b, decide (x > y) = b := ⟨_, rfl⟩
 have e1 : arith .lss .u64 x y = some (.bool b1) := by simp only [arith, h1]
 have e2 : arith .gtr .u64 x y = some (.bool b2) := by simp only [arith, h2]
 refine pure_q Try.func103 rfl Try.ntmps103 rfl rfl (fun w0 Q hQ => ?_)
 repeat' (
  first
   | refine j_seq_k (fun N hN => ?_)
   | refine j_text ?_
   | refine j_block ?_
   | refine j_skip ?_
   | refine j_ret ?_
   | refine j_exit ?_
   | refine s_nil (show X _ _ _ _ _ from ?_)
   | (refine x_next hN ?_; clear hN N)
   | (refine x_then_ret ?_; clear hN N)
   | (refine x_then_exit ?_; clear hN N)
   | refine x_block ?_
   | refine x_block_ret ?_
   | refine x_block_hit ?_
   | refine x_block_miss (by eq_refl) ?_
   | refine k_skip (h := ?_)
   | refine k_fieldAddr (h := ?_)
   | refine k_load_one (h := ?_)
   | refine k_load_agg (h := ?_)
   | refine k_bin (h := ?_)
   | refine k_move (h := ?_)
   | refine k_assign (h := ?_)
   | refine k_extract (h := ?_)
   | refine k_call (hp := n1) (h := ?_)
   | refine k_call (hp := n2) (h := ?_)
   | (refine k_box (h := ?_); intro g)
   | (refine k_alloc (h := ?_); intro g)
   | refine k_store (h := ?_)
   | refine k_field_agg (h := ?_)
   | refine k_build (h := ?_)
   | refine k_conv (h := ?_)
   | refine k_not (h := ?_)
   | refine k_eqb (h := ?_)
   | refine k_neb (h := ?_)
   | refine k_eqs (h := ?_)
   | refine k_nes (h := ?_)
   | refine k_pick_t (h := ?_)
   | refine k_pick_f (h := ?_)
   | refine k_shl (h := ?_)
   | refine k_shr (h := ?_)
   | refine k_len_slice (h := ?_)
   | refine k_quo (h := ?_)
   | refine k_rem (h := ?_)
   | (refine k_buildSlice (h := ?_); intro g)
   | refine k_indexAddr_arr (h := ?_)
   | refine c_true (h := ?_)
   | refine c_false (h := ?_)
   | (refine s_ask (by eq_refl) (by eq_refl) (evO_eq (by eq_refl)) (fun hask => ?_) (fun hask => ?_))
   | (refine c_split (by eq_refl) (fun hif => ?_) (fun hif => ?_))
  )
 all_goals refine hQ _ _ (ret1 rfl (by (first | exact v_tmp | exact v_agg)) ?_)
 all_goals (clear hQ; simp only [cmpI, Value.int.injEq, true_and]; (repeat' split) <;> simp_all <;> omega)
set_option maxRecDepth 100000 in
set_option maxHeartbeats 4000000 in
theorem or_calls (w0 : World) (g : Nat) (a b c d : Int) (hr : OldRow w0 g 0 [.int .i64 a, .int .i64 b, .int .i64 c, .int .i64 d]) :
  Calls Try.prog 101 #[.slice (some ⟨g, 0, none⟩) 4 4] w0 fun e w' => e = .returned (.int .i64 (orI a b c d)) ∧ Below w0.heap.size w0 w' := by
 refine calls_q Try.func101 rfl Try.ntmps101 rfl rfl (fun Q hQ => ?_)
 repeat' (
  first
   | refine k_load_row1 (hr := hr) (ho2 := by simp) (hv := by simp; rfl) (hin := Or.inr (by (repeat (first | apply Incl.refl | apply Incl.cons)); first | done | fail)) (h := ?_)
   | refine k_indexAddr (hb := by decide) (h := ?_)
   | refine j_seq_k (fun N hN => ?_)
   | refine j_text ?_
   | refine j_block ?_
   | refine j_skip ?_
   | refine j_ret ?_
   | refine j_exit ?_
   | refine s_nil (show X _ _ _ _ _ from ?_)
   | (refine x_next hN ?_; clear hN N)
   | (refine x_then_ret ?_; clear hN N)
   | (refine x_then_exit ?_; clear hN N)
   | refine x_block ?_
   | refine x_block_ret ?_
   | refine x_block_hit ?_
   | refine x_block_miss (by eq_refl) ?_
   | (refine x_again hN (j_round_k ?_); clear hN N; intro N hN)
   | refine j_head (j_round_k (fun N hN => ?_))
   | refine k_skip (h := ?_)
   | refine k_fieldAddr (h := ?_)
   | refine k_load_one (h := ?_)
   | refine k_load_agg (h := ?_)
   | refine k_bin (hv := (by simp [arith, bits, IntKind.wrap_u64, IntKind.wrap_i64, IntKind.bits]; rfl)) (h := ?_)
   | refine k_move (h := ?_)
   | refine k_assign (h := ?_)
   | refine k_extract (h := ?_)
   | (refine k_box (h := ?_); intro g)
   | (refine k_alloc (h := ?_); intro g)
   | refine k_store (h := ?_)
   | refine k_field_agg (h := ?_)
   | refine k_build (h := ?_)
   | refine k_conv (h := ?_)
   | refine k_not (h := ?_)
   | refine k_eqb (h := ?_)
   | refine k_neb (h := ?_)
   | refine k_eqs (h := ?_)
   | refine k_nes (h := ?_)
   | refine k_pick_t (hb := by first | with_reducible assumption | with_reducible eq_refl | decide | fail) (h := ?_)
   | refine k_pick_f (hb := by first | with_reducible assumption | with_reducible eq_refl | decide | fail) (h := ?_)
   | refine k_shl (hc := (by simp [IntKind.wrap_u64, IntKind.wrap_i64, IntKind.bits]; rfl)) (h := ?_)
   | refine k_shr (hc := (by simp [IntKind.wrap_u64, IntKind.wrap_i64, IntKind.bits]; rfl)) (h := ?_)
   | refine k_len_slice (h := ?_)
   | refine k_quo (hc := (by simp [IntKind.wrap_u64, IntKind.wrap_i64, IntKind.bits]; rfl)) (h := ?_)
   | refine k_rem (hc := (by simp [IntKind.wrap_u64, IntKind.wrap_i64, IntKind.bits]; rfl)) (h := ?_)
   | (refine k_buildSlice (h := ?_); intro g)
   | refine k_indexAddr_arr (h := ?_)
   | refine c_true (he := by first | with_reducible assumption | with_reducible eq_refl | decide | fail) (h := ?_)
   | refine c_false (he := by first | with_reducible assumption | with_reducible eq_refl | decide | fail) (h := ?_)
   | (refine s_ask (by eq_refl) (by eq_refl) (evO_eq (by eq_refl)) (fun hask => ?_) (fun hask => ?_))
   | (refine c_split (by eq_refl) (fun hif => ?_) (fun hif => ?_))
  )
 all_goals refine hQ _ _ (ret1 rfl (by (first | exact v_tmp | exact v_agg)) ?_)
 all_goals (clear hQ; simp only [orI, Value.int.injEq, true_and]; simp_all)
theorem own_row {w0 w : World} {L : List Blk} {g : Nat} {cs : List Value} {T : TypeId} (hw : Own w0 L w) (hm : HasB L g cs T) : OldRow w g 0 cs := by
 have hb := hw.block hm
 refine ⟨(Array.getElem?_eq_some_iff.1 hb).1, fun j v hj => ?_⟩
 simp [World.cell?, hb, hj]
set_option maxRecDepth 100000 in
set_option maxHeartbeats 4000000 in
theorem cmp4_pure (a b : Four) : Pure Try.prog 144 #[a.v, b.v] (.int .i64 (orI (cmpI a.hi.hi b.hi.hi) (cmpI a.hi.lo b.hi.lo) (cmpI a.lo.hi b.lo.hi) (cmpI a.lo.lo b.lo.lo))) := by
 have c1 := compare_pure a.hi.hi b.hi.hi
 have c2 := compare_pure a.hi.lo b.hi.lo
 have c3 := compare_pure a.lo.hi b.lo.hi
 have c4 := compare_pure a.lo.lo b.lo.lo
 refine pure_q Try.func144 rfl Try.ntmps144 rfl rfl (fun w0 Q hQ => ?_)
 repeat (
  first
   | refine j_draw (id := 1) [(1101, .quiet)] (by kernel_rfl) (by kernel_rfl) ?_
   | refine k_callw (hp := fun w hw => or_calls w _ _ _ _ _ (own_row hw (by (repeat (first | apply HasB.here | apply HasB.next)); first | done | fail))) (h := ?_)
   | refine j_seq_k (fun N hN => ?_)
   | refine j_text ?_
   | refine j_block ?_
   | refine j_skip ?_
   | refine j_ret ?_
   | refine j_exit ?_
   | refine s_nil (show X _ _ _ _ _ from ?_)
   | (refine x_next hN ?_; clear hN N)
   | (refine x_then_ret ?_; clear hN N)
   | (refine x_then_exit ?_; clear hN N)
   | refine x_block ?_
   | refine x_block_ret ?_
   | refine x_block_hit ?_
   | refine x_block_miss (by eq_refl) ?_
   | refine k_skip (h := ?_)
   | refine k_fieldAddr (h := ?_)
   | refine k_load_one (h := ?_)
   | refine k_load_agg (h := ?_)
   | refine k_bin (h := ?_)
   | refine k_move (h := ?_)
   | refine k_assign (h := ?_)
   | refine k_extract (h := ?_)
   | refine k_call (hp := c1) (h := ?_)
   | refine k_call (hp := c2) (h := ?_)
   | refine k_call (hp := c3) (h := ?_)
   | refine k_call (hp := c4) (h := ?_)
   | (refine k_box (h := ?_); intro g)
   | (refine k_alloc (h := ?_); intro g)
   | refine k_store (h := ?_)
   | refine k_field_agg (h := ?_)
   | refine k_build (h := ?_)
   | refine k_conv (h := ?_)
   | refine k_not (h := ?_)
   | refine k_eqb (h := ?_)
   | refine k_neb (h := ?_)
   | refine k_eqs (h := ?_)
   | refine k_nes (h := ?_)
   | refine k_pick_t (h := ?_)
   | refine k_pick_f (h := ?_)
   | refine k_shl (h := ?_)
   | refine k_shr (h := ?_)
   | refine k_len_slice (h := ?_)
   | refine k_quo (h := ?_)
   | refine k_rem (h := ?_)
   | (refine k_buildSlice (h := ?_); intro g)
   | refine k_indexAddr_arr (h := ?_)
   | refine c_true (h := ?_)
   | refine c_false (h := ?_)
   | (refine s_ask (by eq_refl) (by eq_refl) (evO_eq (by eq_refl)) (fun hask => ?_) (fun hask => ?_))
   | (refine c_split (by eq_refl) (fun hif => ?_) (fun hif => ?_))
  )
 refine hQ _ _ (ret1 rfl (by (first | exact v_tmp | exact v_agg)) ?_)
 rfl
end Go.Proofs.Ytedfbamihjnhhaa.Own
end
