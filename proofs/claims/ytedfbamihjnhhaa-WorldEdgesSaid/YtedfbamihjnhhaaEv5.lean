/- A walk by reckoning: regions, code, functions. -/
import Derived.Test.YtedfbamihjnhhaaEv4
namespace Go.Proofs.Ytedfbamihjnhhaa.Own
open Go Go.RowKit
set_option linter.unusedVariables false
set_option linter.unusedSimpArgs false

def XOK (c : Cfg) (e : Nat → Value) : Prop := ∀ (σ : List (Nat × Nat)) (f : Nat) (vs : List V) (v : V) (us : List Value), c.X f vs = some v → RelVs e σ vs us → ∃ u, RelV e σ v u ∧ ∀ w, (callFunc f (List.toArray us)).run c.P w = .ok (.value u) w
def HOK (c : Cfg) (e : Nat → Value) : Prop := ∀ (σ : List (Nat × Nat)) (f : Nat) (vs : List V) (v : V) (us : List Value), c.H f vs = some v → RelVs e σ vs us → isFn c.P f = true ∧ ∃ u, RelV e σ v u ∧ Pure c.P f (List.toArray us) u
structure OK (c : Cfg) (e : Nat → Value) : Prop where
  he : ∀ i, oneC (e i) = true
  x : XOK c e
  h : HOK c e
  b2 : B2OK c e
  b1 : B1OK c e
  mixed : c.P.follows .mixedOrders = true
def CallOK (c : Cfg) (e : Nat → Value) (call : CallF) : Prop := ∀ (f : Nat) (vs : List V) (M : MB) (F : List MB) (nx : Nat) (v : V) (M' : MB) (nx' : Nat), call f vs M F nx = some (v, M', nx') → isFn c.P f = true ∧
  ∀ (w0 : World) (σ : List (Nat × Nat)) (us : List Value) (LM LF : List Blk), σ.length = nx → RelVs e σ vs us → RM c.P e σ M LM → RMs c.P e σ F LF → Old w0 LF → ∀ w, Own w0 LM w →
    Calls c.P f (List.toArray us) w fun en w' => ∃ u σ' LM', en = .returned u ∧ Ext σ σ' ∧ σ'.length = nx' ∧ RelV e σ' v u ∧ RM c.P e σ' M' LM' ∧ Own w0 LM' w'
section
variable {c : Cfg} {e : Nat → Value} {σ : List (Nat × Nat)} {w0 : World} {ρ' : Operand → Option V} {ρ : Operand → Value} {o : Oper} {call : CallF}
def Post (c : Cfg) (e : Nat → Value) (σ : List (Nat × Nat)) (nx' : Nat) (v : V) (M' : MB) (LX : List Blk) : Value → List Blk → Prop := fun u L' => ∃ σ' LM', Ext σ σ' ∧ σ'.length = nx' ∧ RelV e σ' v u ∧ RM c.P e σ' M' LM' ∧ L' = LM' ++ LX
theorem ev_of_qv {P : Program} {L : List Blk} {u : Value} {R : Value → List Blk → Prop} (h : QV P w0 o ρ L u) (hR : R u L) : EV P w0 o ρ L R := fun w hw => by
  have h1 := h w hw
  generalize (execOp ρ o).run P w = r at *
  cases r with
  | ok x w' =>
    cases x <;> simp only [quietUpon] at h1 <;> simp only [effUpon]
    case value u => obtain ⟨rfl, rfl⟩ := h1; exact ⟨L, hR, hw⟩
    case skip => obtain ⟨rfl, rfl⟩ := h1; exact ⟨L, hR, hw⟩
    case enter f args => obtain ⟨rfl, hc⟩ := h1; exact hc.mono fun e w'' ⟨he, hb⟩ => ⟨u, L, he, hR, hw.ext hb⟩
  | halt x w' => simp only [quietUpon] at h1
theorem callee_sound (hρ : ∀ x v, ρ' x = some v → RelV e σ v (ρ x)) {cl : Call} {f : Nat} {vs : List V} (h : callee ρ' cl = some (f, vs)) (ho : o.op = .call cl) :
    ∃ us, RelVs e σ vs us ∧ ∀ w, (execOp ρ o).run c.P w = (callFunc f (List.toArray us)).run c.P w := by
  unfold callee at h
  split at h
  · rename_i x hc
    split at h
    · rename_i f' cap as hx ha
      cases h
      obtain ⟨cv, h1, h2⟩ := iv_fn (hρ _ _ hx)
      refine ⟨cl.args.toList.map ρ ++ cv, (argsL_rel hρ ha).app h1.ofOnes, fun w => ?_⟩
      rw [exec_callv ho hc h2 w]
      congr 2
      apply Array.ext'; simp
    · cases h
  · cases h
def HoldO (w0 : World) (L LB : List Blk) : Prop := ∀ w, Own w0 L w → Old w LB
theorem HoldO.hold {L LB : List Blk} (h : HoldO w0 L LB) : Hold w0 L LB := fun w hw g cs T hm j v hj => by
  have h1 := h w hw g cs T hm
  rw [cell_of_row w g j cs.toArray T (0, 0) h1]; simpa using hj
theorem HoldO.app {L A B : List Blk} (ha : HoldO w0 L A) (hb : HoldO w0 L B) : HoldO w0 L (A ++ B) := fun w hw => old_app (ha w hw) (hb w hw)
theorem HoldO.sub {L A : List Blk} (h : ∀ b ∈ A, b ∈ L) : HoldO w0 L A := fun w hw => old_of_own hw h
theorem HoldO.old {L A : List Blk} (h : Old w0 A) : HoldO w0 L A := fun w hw => old_later hw h
theorem HoldO.nil {L : List Blk} : HoldO w0 L [] := fun w hw g cs T hm => by cases hm

theorem evBase_sound (ok : OK c e) (hc : CallOK c e call) (hρ : ∀ x v, ρ' x = some v → RelV e σ v (ρ x)) {F : List MB} {LB : List Blk} (hm : RMs c.P e σ F LB) {nx : Nat} (hn : σ.length = nx) {v : V} (h : evBase c call ρ' o F nx = some v) :
    ∃ u, RelV e σ v u ∧ ∀ L, HoldO w0 L LB → QV c.P w0 o ρ L u := by
  have val : ∀ v, evQ c ρ' F o = some v → ∃ u, RelV e σ v u ∧ ∀ L, HoldO w0 L LB → QV c.P w0 o ρ L u := fun v h => by
    obtain ⟨u, h1, h2⟩ := evQ_sound (w0 := w0) hρ ok.b2 ok.b1 hm h
    exact ⟨u, h1, fun L hl => h2 L hl.hold⟩
  unfold evBase at h
  split at h
  · rename_i cl ho
    split at h
    · rename_i f vs hcl
      obtain ⟨us, hus, hrun⟩ := callee_sound (c := c) hρ hcl ho
      split at h
      · rename_i v' hx; cases h
        obtain ⟨u, h1, h2⟩ := ok.x σ f vs _ us hx hus
        exact ⟨u, h1, fun L _ => q_of fun w _ => by rw [hrun w]; exact h2 w⟩
      · split at h
        · rename_i v' hh; cases h
          obtain ⟨hf, u, h1, h2⟩ := ok.h σ f vs _ us hh hus
          exact ⟨u, h1, fun L _ w hw => by rw [hrun w, run_callFunc_in hf]; exact ⟨rfl, h2 w⟩⟩
        · split at h
          · rename_i v' M' nx' hcc
            cases hl : v'.lt nx with
            | false => simp only [hl, cond_false] at h; cases h
            | true =>
              simp only [hl, cond_true, Option.some.injEq] at h
              subst h
              obtain ⟨hf, h1⟩ := hc f vs [] F nx v' M' nx' hcc
              obtain ⟨u, hu⟩ := V.ex (σ := σ) ok.he v' (by rw [hn]; exact hl)
              refine ⟨u, hu, fun L hL w hw => ?_⟩
              rw [hrun w, run_callFunc_in hf]
              refine ⟨rfl, (h1 w σ us [] LB hn hus .nil hm (hL w hw) w (Own.start w)).mono ?_⟩
              rintro en w' ⟨u', σ', LM', h2, h3, h4, h5, h6, h7⟩
              rw [h2, (hu.mono h3).det h5]
              exact ⟨rfl, h7.below⟩
          · cases h
    · exact val _ h
  · exact val _ h
/-! stores -/
theorem SetB.left {L L' : List Blk} {g : Nat} {cs cs' : List Value} {T : TypeId} (h : SetB L g cs T cs' L') (X : List Blk) : SetB (L ++ X) g cs T cs' (L' ++ X) := by
  induction h with
  | here => exact .here
  | next _ ih => exact .next ih
theorem stB_rel : ∀ {M : MB} {LM : List Blk}, RM c.P e σ M LM → ∀ {k : Nat} {cs cs' : List C} {T : TypeId} {op : Bool} {M' : MB}, lkB M k = some (cs, T, op) → stB M k cs' = some M' → cs'.length = cs.length →
    ∃ g gc vs rest, σ[k]? = some (g, gc) ∧ RelCs e σ cs vs ∧ ∀ vs', RelCs e σ cs' vs' → ∃ LM', SetB LM g (vs ++ rest) T (vs' ++ rest) LM' ∧ RM c.P e σ M' LM'
  | _, _, .nil, k, cs, cs', T, op, M', hk, _, _ => by cases hk
  | _, _, .cons (k := k') (T := T') (o := o') hk' hc ho hr t, k, cs, cs', T, op, M', hk, hs, hl => by
    simp only [lkB] at hk
    simp only [stB] at hs
    cases hb : Nat.beq k' k with
    | true =>
      simp only [hb, cond_true, Option.some.injEq, Prod.mk.injEq] at hk hs
      obtain ⟨rfl, rfl, rfl⟩ := hk
      subst hs
      rw [← Nat.eq_of_beq_eq_true hb]
      refine ⟨_, _, _, _, hk', hc, fun vs' hv => ⟨_, .here, .cons hk' hv ho (fun hq => ?_) t⟩⟩
      obtain ⟨b, s, h1, h2⟩ := hr hq
      exact ⟨b, s, h1, by rw [hv.len, hl, ← hc.len]; exact h2⟩
    | false =>
      simp only [hb, cond_false] at hk hs
      split at hs
      · rename_i r' hr'
        cases hs
        obtain ⟨g, gc, vs, rest, a1, a2, a3⟩ := stB_rel t hk hr' hl
        refine ⟨g, gc, vs, rest, a1, a2, fun vs' hv => ?_⟩
        obtain ⟨LM', b1, b2⟩ := a3 vs' hv
        exact ⟨_, .next b1, .cons hk' hc ho hr b2⟩
      · cases hs
theorem splice_app {vs rest us : List Value} {off : Nat} (h : off + us.length ≤ vs.length) : splice (vs ++ rest) off us = splice vs off us ++ rest := by
  unfold splice
  rw [List.take_append_of_le_length (by omega), List.drop_append_of_le_length (by omega)]
  simp
theorem spliceC_len {cs us : List C} {off : Nat} (h : off + us.length ≤ cs.length) : (spliceC cs off us).length = cs.length := by
  unfold spliceC; simp; omega
theorem evStore_sound (hρ : ∀ x v, ρ' x = some v → RelV e σ v (ρ x)) {t : TypeId} {x y : Operand} (ho : o.op = .store t x y) {M : MB} {LM : List Blk} (hm : RM c.P e σ M LM) {F : List MB} {nx : Nat} (hn : σ.length = nx) {v : V} {M' : MB} {nx' : Nat}
    (h : evE c call ρ' o M F nx = some (v, M', nx')) (LX : List Blk) : EV c.P w0 o ρ (LM ++ LX) (Post c e σ nx' v M' LX) := by
  unfold evE at h
  simp only [ho] at h
  split at h
  · rename_i k off xv b n hx hy hi
    obtain ⟨g, gc, hg, hx'⟩ := iv_ptr (hρ _ _ hx)
    split at h
    · rename_i cs T op us hl hus
      cases hb : (Nat.beq us.length n && Nat.ble (off + us.length) cs.length) with
      | false => simp only [hb, cond_false] at h; cases h
      | true =>
        simp only [hb, cond_true, fCs_eq] at h
        simp only [Bool.and_eq_true] at hb
        have hle := Nat.le_of_ble_eq_true hb.2
        split at h
        · rename_i M1 hs
          cases h
          obtain ⟨g', gc', vs, rest, a1, a2, a3⟩ := stB_rel hm hl hs (spliceC_len hle)
          rw [hg] at a1; cases a1
          have hu := cells_rel hus (hρ _ _ hy)
          obtain ⟨LM', b1, b2⟩ := a3 _ (spliceC_rel a2 hu off)
          have hl2 : off + (ρ y).cells.toList.length ≤ vs.length := by rw [hu.len, a2.len]; exact hle
          have := e_store (w0 := w0) (hi := hi) ho hx' rfl (b1.left LX) (by rw [hu.len]; exact hb.1) hu.ones (by rw [Nat.ble_eq]; simp only [List.length_append]; omega) (splice_app hl2)
          intro w hw
          have h1 := this w hw
          have key : ∀ u L', u = undef ∧ L' = LM' ++ LX → Post c e σ nx (.tup []) M' LX u L' := fun u L' ⟨h1, h2⟩ => ⟨σ, LM', Ext.refl σ, hn, by rw [h1]; exact .tup .nil, b2, h2⟩
          generalize (execOp ρ o).run c.P w = r at *
          cases r with
          | ok x w' =>
            cases x <;> simp only [effUpon] at h1 ⊢
            case value u => obtain ⟨L', h2, h3⟩ := h1; exact ⟨L', key _ _ h2, h3⟩
            case skip => obtain ⟨L', h2, h3⟩ := h1; exact ⟨L', key _ _ ⟨rfl, h2.2⟩, h3⟩
            case enter f args => exact h1.mono fun en w'' ⟨v, L', h2, h3, h4⟩ => ⟨v, L', h2, key _ _ h3, h4⟩
          | halt x w' => simp only [effUpon] at h1
        · cases h
    · cases h
  · cases h
theorem evE_sound (ok : OK c e) (hc : CallOK c e call) (hρ : ∀ x v, ρ' x = some v → RelV e σ v (ρ x)) {M : MB} {LM : List Blk} (hm : RM c.P e σ M LM) {F : List MB} {LF : List Blk} (hF : RMs c.P e σ F LF) (hO : Old w0 LF) {nx : Nat} (hn : σ.length = nx) {v : V} {M' : MB} {nx' : Nat}
    (h : evE c call ρ' o M F nx = some (v, M', nx')) : EV c.P w0 o ρ LM (Post c e σ nx' v M' []) := by
  have hh : Hold w0 LM (LM ++ LF) := hold_app (hold_sub fun b hb => hb) (hold_old hO)
  have val : ∀ v, evQ c ρ' (M :: F) o = some v → EV c.P w0 o ρ LM (Post c e σ nx v M []) := fun v h => by
    obtain ⟨u, h1, h2⟩ := evQ_sound (w0 := w0) hρ ok.b2 ok.b1 (.cons hm hF) h
    exact ev_of_qv (h2 _ hh) ⟨σ, LM, Ext.refl σ, hn, h1, hm, by simp⟩
  cases hop : o.op
  case store t x y =>
    have := evStore_sound (w0 := w0) hρ hop hm hn h []
    simpa using this
  case call cl =>
    unfold evE at h
    simp only [hop] at h
    split at h
    · rename_i f vs hcl
      obtain ⟨us, hus, hrun⟩ := callee_sound (c := c) hρ hcl hop
      split at h
      · rename_i v' hx; cases h
        obtain ⟨u, h1, h2⟩ := ok.x σ f vs _ us hx hus
        exact ev_of_qv (q_of fun w _ => by rw [hrun w]; exact h2 w) ⟨σ, LM, Ext.refl σ, hn, h1, hm, by simp⟩
      · split at h
        · rename_i v' hh'; cases h
          obtain ⟨hf, u, h1, h2⟩ := ok.h σ f vs _ us hh' hus
          exact ev_of_qv (fun w hw => by rw [hrun w, run_callFunc_in hf]; exact ⟨rfl, h2 w⟩) ⟨σ, LM, Ext.refl σ, hn, h1, hm, by simp⟩
        · obtain ⟨hf, h1⟩ := hc f vs M F nx v M' nx' h
          intro w hw
          rw [hrun w, run_callFunc_in hf]
          refine (h1 w0 σ us LM LF hn hus hm hF hO w hw).mono ?_
          rintro en w' ⟨u, σ', LM', h2, h3, h4, h5, h6, h7⟩
          exact ⟨u, LM', h2, ⟨σ', LM', h3, h4, h5, h6, by simp⟩, h7⟩
    · split at h
      · rename_i v' hv; cases h; exact val _ hv
      · cases h
  all_goals
    unfold evE at h
    simp only [hop] at h
    split at h
    · rename_i v' hv; cases h; exact val _ hv
    · cases h
theorem own_join {w w' : World} {L LN : List Blk} (h : Own w0 L w) (h' : Own w LN w') : Own w0 (LN ++ L) w' := by
  have h1 := h.ext h'.below
  refine ⟨h1.below, fun b hb => ?_, fun b hb => ?_, ?_⟩
  · rcases List.mem_append.1 hb with hb | hb
    · exact Nat.le_trans h.below.size (h'.base b hb)
    · exact h.base b hb
  · rcases List.mem_append.1 hb with hb | hb
    · exact h'.held b hb
    · exact h1.held b hb
  · refine List.pairwise_append.2 ⟨h'.apart, h.apart, fun x hx y hy => ?_⟩
    have := h'.base x hx
    have := h.lt hy
    omega
theorem evFresh_sound (ok : OK c e) (hc : CallOK c e call) (hρ : ∀ x v, ρ' x = some v → RelV e σ v (ρ x)) {L LB : List Blk} {F : List MB} (hm : RMs c.P e σ F LB) (hL : HoldO w0 L LB) {nx : Nat} (hn : σ.length = nx) {v : V} {M' : MB} {nx' : Nat}
    (h : evFresh c call ρ' o F nx = some (v, M', nx')) : EV c.P w0 o ρ L (Post c e σ nx' v M' L) := by
  unfold evFresh at h
  split at h
  · rename_i cl ho
    split at h
    · rename_i f vs hcl
      obtain ⟨us, hus, hrun⟩ := callee_sound (c := c) hρ hcl ho
      split at h
      · rename_i v' hh'; cases h
        obtain ⟨hf, u, h1, h2⟩ := ok.h σ f vs _ us hh' hus
        exact ev_of_qv (fun w hw => by rw [hrun w, run_callFunc_in hf]; exact ⟨rfl, h2 w⟩) ⟨σ, [], Ext.refl σ, hn, h1, .nil, by simp⟩
      · obtain ⟨hf, h1⟩ := hc f vs [] F nx v M' nx' h
        intro w hw
        rw [hrun w, run_callFunc_in hf]
        refine (h1 w σ us [] LB hn hus .nil hm (hL w hw) w (Own.start w)).mono ?_
        rintro en w' ⟨u, σ', LM', h2, h3, h4, h5, h6, h7⟩
        exact ⟨u, LM' ++ L, h2, ⟨σ', LM', h3, h4, h5, h6, rfl⟩, own_join hw h7⟩
    · cases h
  · cases h

/-! ### the operations of a region -/
theorem want_sound {fr : Tr} {l : List (Nat × Value)} (h : RF e σ fr l) {n : Nat} {ops : List Oper} {b : Bool} (hw : want n ops fr o = some b) : wantL ops n l o = b := by
  unfold want at hw
  unfold wantL
  split at hw
  · rename_i hg; cases hw; simp [hg]
  · rename_i j w hg
    simp only [hg]
    split at hw
    · cases hw
    · rename_i d hd
      simp only [hd]
      split at hw
      · rename_i b' hb'
        rw [iv_bool (gv_rel h hb')]
        simpa using hw
      · rename_i hb'
        cases hw
        obtain ⟨vs, h1, h2⟩ := iv_tup (gv_rel h hb')
        rw [h2]
      · cases hw
theorem evOps_sound (ok : OK c e) (hc : CallOK c e call) {q : Bool} {E : List (Nat × Kind)} {n : Nat} {ops : List Oper} {F : List MB} {LF L0 : List Blk} (hO : Old w0 LF) {Q : Exit → Act → World → Prop} :
    ∀ (r : List Oper) (fr : Tr) (Mr M0 : MB) (nx : Nat) (br : Bool) {fr' : Tr} {M' : MB} {nx' : Nat}, evOps c call q E n ops F r fr Mr M0 nx br = some (fr', M', nx') →
    ∀ (σ : List (Nat × Nat)) (l : List (Nat × Value)) (LMr LM0 : List Blk), σ.length = nx → RF e σ fr l → RM c.P e σ Mr LMr → RM c.P e σ M0 LM0 → RMs c.P e σ F LF → (q = true → br = false → L0 = LM0) →
      (∀ σ' l' L', Ext σ σ' → σ'.length = nx' → RF e σ' fr' l' → RM c.P e σ' M' L' → X w0 Q .normal (frm n l') L') →
      lexO c.P w0 L0 ops q E (fun a' L' => X w0 Q .normal a' L') r (frm n l) (LMr ++ LM0)
  | [], fr, Mr, M0, nx, br, fr', M', nx', h, σ, l, LMr, LM0, hn, hfr, hMr, hM0, hF, hL, hK => by
    simp only [evOps, Option.some.injEq, Prod.mk.injEq] at h
    obtain ⟨rfl, rfl, rfl⟩ := h
    exact s_nil (hK σ l _ (Ext.refl σ) hn hfr (hMr.app2 hM0))
  | o :: r, fr, Mr, M0, nx, br, fr', M', nx', h, σ, l, LMr, LM0, hn, hfr, hMr, hM0, hF, hL, hK => by
    have hρ : ∀ x v, gv n fr x = some v → RelV e σ v (evL n l x) := fun x v hx => gv_rel hfr hx
    simp only [evOps] at h
    cases hw : want n ops fr o with
    | none => simp only [hw] at h; cases h
    | some b =>
      have hwl := want_sound hfr hw
      cases b with
      | false =>
        simp only [hw] at h
        exact s_skip hwl (evOps_sound ok hc hO r _ _ _ _ _ h σ _ LMr LM0 hn (hfr.put (.tup .nil)) hMr hM0 hF hL hK)
      | true =>
        simp only [hw] at h
        have hkq : q = false → kf q E o = .alloc ∨ kf q E o = .eff := fun hq => by
          subst hq
          by_cases ha : kf false E o = .alloc
          · exact .inl ha
          · exact .inr (kf_text ha)
        cases hk : kf q E o with
        | alloc =>
          simp only [hk] at h
          split at h
          · rename_i k cs t ha
            simp only [fN_eq, fCs_eq] at h
            obtain ⟨vs, h1, h2⟩ := evAlloc_sound hρ ha
            refine s_alloc hwl hk h2 fun g => ?_
            have hx : Ext σ (σ ++ [(g, k.getD 0)]) := Ext.snoc σ _
            have hget : (σ ++ [(g, k.getD 0)])[nx]? = some (g, k.getD 0) := by rw [← hn]; simp
            have hv : RelV e (σ ++ [(g, k.getD 0)]) (.one (allocC k nx)) (allocV k g) := by
              cases k with
              | none => exact .one (.ptr hget)
              | some m => exact .one (.sl hget)
            have hM : RM c.P e (σ ++ [(g, k.getD 0)]) ((nx, cs, t, false) :: Mr) ((g, vs, t) :: LMr) := by
              have := RM.cons (P := c.P) (T := t) (o := false) hget (h1.mono hx) (rest := []) (fun _ => rfl) (fun hq => by cases hq) (hMr.mono hx)
              simpa using this
            exact evOps_sound ok hc hO r _ _ _ _ _ h _ _ ((g, vs, t) :: LMr) LM0 (by simp [hn]) ((hfr.mono hx).put hv) hM (hM0.mono hx) (hF.mono hx) hL
              (fun σ' l' L' hx' h1 h2 h3 => hK σ' l' L' (hx.trans hx') h1 h2 h3)
          · cases h
        | eff =>
          simp only [hk] at h
          split at h
          · rename_i v M1 nx1 hE
            simp only [fV_eq] at h
            have hev := evE_sound ok hc hρ (hMr.app2 hM0) hF hO hn hE
            refine s_eff hwl (.inl hk) hev (fun hq => by rw [hk] at hq; cases hq) ?_
            rintro u L' ⟨σ', LM', hx, hlen, hv, hM, rfl⟩
            have := evOps_sound (L0 := L0) ok hc hO r _ _ _ _ _ h σ' (putL o.dst u l) LM' [] hlen ((hfr.mono hx).put hv) hM .nil (hF.mono hx) (fun _ hq => by cases hq) (fun σ2 l2 L2 hx' h1 h2 h3 => hK σ2 l2 L2 (hx.trans hx') h1 h2 h3)
            exact this
          · cases h
        | eff0 =>
          simp only [hk] at h
          have hq : q = true := by
            cases q with
            | true => rfl
            | false => rcases hkq rfl with h1 | h1 <;> rw [hk] at h1 <;> cases h1
          cases br with
          | true => simp only [cond_true] at h; cases h
          | false =>
            simp only [cond_false] at h
            have hL0 := hL hq rfl
            split at h
            · rename_i v M1 nx1 hE
              simp only [fV_eq] at h
              have hho : HoldO w0 (LMr ++ LM0) (LMr ++ (LM0 ++ LF)) := HoldO.app (HoldO.sub fun b hb => List.mem_append_left _ hb) (HoldO.app (HoldO.sub fun b hb => List.mem_append_right _ hb) (HoldO.old hO))
              have hev := evFresh_sound ok hc hρ (.cons hMr (.cons hM0 hF)) hho hn hE
              refine s_eff hwl (.inr hk) hev (fun _ u L' hr b hb => ?_) ?_
              · obtain ⟨σ', LM', _, _, _, _, rfl⟩ := hr
                rw [hL0] at hb
                exact List.mem_append_right _ (List.mem_append_right _ hb)
              · rintro u L' ⟨σ', LM', hx, hlen, hv, hM, rfl⟩
                rw [← List.append_assoc]
                exact evOps_sound ok hc hO r _ _ _ _ _ h σ' _ (LM' ++ LMr) LM0 hlen ((hfr.mono hx).put hv) (hM.app2 (hMr.mono hx)) (hM0.mono hx) (hF.mono hx) hL (fun σ2 l2 L2 hx' h1 h2 h3 => hK σ2 l2 L2 (hx.trans hx') h1 h2 h3)
            · split at h
              · rename_i v M1 nx1 t x y hE hop
                simp only [fV_eq] at h
                have hev := evStore_sound (w0 := w0) hρ hop hMr hn hE LM0
                refine s_eff hwl (.inr hk) hev (fun _ u L' hr b hb => ?_) ?_
                · obtain ⟨σ', LM', _, _, _, _, rfl⟩ := hr
                  rw [hL0] at hb
                  exact List.mem_append_right _ hb
                · rintro u L' ⟨σ', LM', hx, hlen, hv, hM, rfl⟩
                  exact evOps_sound ok hc hO r _ _ _ _ _ h σ' _ LM' LM0 hlen ((hfr.mono hx).put hv) hM (hM0.mono hx) (hF.mono hx) hL (fun σ2 l2 L2 hx' h1 h2 h3 => hK σ2 l2 L2 (hx.trans hx') h1 h2 h3)
              · cases h
        | base =>
          simp only [hk] at h
          have hq : q = true := by
            cases q with
            | true => rfl
            | false => rcases hkq rfl with h1 | h1 <;> rw [hk] at h1 <;> cases h1
          cases br with
          | true => simp only [cond_true] at h; cases h
          | false =>
            simp only [cond_false] at h
            have hL0 := hL hq rfl
            split at h
            · rename_i v hE
              simp only [fV_eq] at h
              obtain ⟨u, hu, hqv⟩ := evBase_sound (w0 := w0) ok hc hρ (.cons hM0 hF) hn hE
              have hsub : ∀ b ∈ L0, b ∈ LMr ++ LM0 := fun b hb => by rw [hL0] at hb; exact List.mem_append_right _ hb
              have hho : ∀ M, (∀ b ∈ L0, b ∈ M) → HoldO w0 M (LM0 ++ LF) := fun M hM => HoldO.app (HoldO.sub fun b hb => hM b (by rw [hL0]; exact hb)) (HoldO.old hO)
              exact s_val hwl (.inl (by rw [hk]; rfl)) (fun _ => by rw [hk]; exact ⟨hsub, fun M hM => hqv M (hho M hM)⟩) (hqv _ (hho _ hsub)) (evOps_sound ok hc hO r _ _ _ _ _ h σ _ LMr LM0 hn (hfr.put hu) hMr hM0 hF hL hK)
            · cases h
        | pure =>
          simp only [hk] at h
          split at h
          · rename_i v hE
            simp only [fV_eq] at h
            obtain ⟨u, hu, hqv⟩ := evBase_sound (w0 := w0) ok hc hρ .nil hn hE
            exact s_val hwl (.inl (by rw [hk]; rfl)) (fun _ => by rw [hk]; exact fun L => hqv L HoldO.nil) (hqv _ HoldO.nil) (evOps_sound ok hc hO r _ _ _ _ _ h σ _ LMr LM0 hn (hfr.put hu) hMr hM0 hF hL hK)
          · cases h
        | quiet =>
          simp only [hk] at h
          split at h
          · rename_i v hE
            simp only [fV_eq] at h
            have hho : HoldO w0 (LMr ++ LM0) (LMr ++ (LM0 ++ LF)) := HoldO.app (HoldO.sub fun b hb => List.mem_append_left _ hb) (HoldO.app (HoldO.sub fun b hb => List.mem_append_right _ hb) (HoldO.old hO))
            obtain ⟨u, hu, hqv⟩ := evBase_sound (w0 := w0) ok hc hρ (.cons hMr (.cons hM0 hF)) hn hE
            exact s_val hwl (.inl (by rw [hk]; rfl)) (fun _ => by rw [hk]; exact hqv _ hho) (hqv _ hho) (evOps_sound ok hc hO r _ _ _ _ _ h σ _ LMr LM0 hn (hfr.put hu) hMr hM0 hF hL hK)
          · cases h
end
end Go.Proofs.Ytedfbamihjnhhaa.Own
