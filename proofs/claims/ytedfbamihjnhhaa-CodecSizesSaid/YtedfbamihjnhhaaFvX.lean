/- A walk by reckoning: strings.Builder: what it is said to do, it does. -/
/- A walk by reckoning: what it is given for this program. -/
import Derived.Test.YtedfbamihjnhhaaBdW
import Derived.Test.YtedfbamihjnhhaaLimbX
section
namespace Go.Proofs.Ytedfbamihjnhhaa.Own
open Go Go.RowKit Go.Proofs Go.Proofs.Ytedfbamihjnhhaa.Bd
set_option linter.unusedVariables false
set_option linter.unusedSimpArgs false
set_option maxRecDepth 100000
theorem SetB.via {L L' : List Blk} {g : Nat} {cs cs' : List Value} {T : TypeId} (h : SetB L g cs T cs' L') (c2 : List Value) : ∃ L2, SetB L g cs T c2 L2 ∧ SetB L2 g c2 T cs' L' := by
 induction h with
 | here => exact ⟨_, .here, .here⟩
 | next _ ih => obtain ⟨L2, h1, h2⟩ := ih; exact ⟨_, .next h1, .next h2⟩
theorem own_setc {w0 w : World} {L L' : List Blk} {g j : Nat} {cs : List Value} {T : TypeId} {v : Value} (h : Own w0 L w) (hs : SetB L g cs T (cs.set j v) L') : Own w0 L' (w.setCell ⟨g, j, none⟩ v) := by
 have hb := h.block hs.has
 refine h.set hs ?_ (fun k hk => Below.heap_setCell _ _ _ _ hk) (by simp [World.setCell]) rfl rfl rfl
 rw [setc_heap _ hb]
 simp
section
variable {c : Cfg} {e : Vl} {σ σ0 : List (Nat × Nat × Nat)} {w0 : World}
theorem stB_rel0 : ∀ {M : MB} {LM : List Blk}, RM c.P e σ M LM → ∀ {k : Nat} {cs cs' : List C} {T : TypeId} {M' : MB}, lkB M k = some (cs, T, false) → stB M k cs' = some M' → cs'.length = cs.length →
  ∃ g gc vs, σ[k]? = some (g, 0, gc) ∧ RelCs e σ cs vs ∧ ∀ vs', RelCs e σ cs' vs' → ∃ LM', SetB LM g vs T vs' LM' ∧ RM c.P e σ M' LM'
 | _, _, .nil, k, cs, cs', T, M', hk, _, _ => by cases hk
 | _, _, .big (k := k') hk' hc hi hn hr t, k, cs, cs', T, M', hk, hs, hl => by
  simp only [lkB, isBig, cond_true] at hk
  simp only [stB] at hs
  cases hb : Nat.beq k' k with
  | true => simp only [hb, cond_true] at hk; cases hk
  | false =>
   simp only [hb, cond_false] at hk hs
   split at hs
   ·rename_i r' hr'
    cases hs
    obtain ⟨g, gc, vs, a1, a2, a3⟩ := stB_rel0 t hk hr' hl
    refine ⟨g, gc, vs, a1, a2, fun vs' hv => ?_⟩
    obtain ⟨LM', b1, b2⟩ := a3 vs' hv
    exact ⟨_, .next b1, .big hk' hc hi hn hr b2⟩
   ·cases hs
 | _, _, .big0 (k := k') hk' he t, k, cs, cs', T, M', hk, hs, hl => by
  simp only [lkB, isBig, cond_true] at hk
  simp only [stB] at hs
  cases hb : Nat.beq k' k with
  | true => simp only [hb, cond_true] at hk; cases hk
  | false =>
   simp only [hb, cond_false] at hk hs
   split at hs
   ·rename_i r' hr'
    cases hs
    obtain ⟨g, gc, vs, a1, a2, a3⟩ := stB_rel0 t hk hr' hl
    refine ⟨g, gc, vs, a1, a2, fun vs' hv => ?_⟩
    obtain ⟨LM', b1, b2⟩ := a3 vs' hv
    exact ⟨_, b1, .big0 hk' he b2⟩
   ·cases hs
 | _, _, .frm (k := k') t, k, cs, cs', T, M', hk, hs, hl => by
  simp only [lkB, isBig, cond_true] at hk
  simp only [stB] at hs
  cases hb : Nat.beq k' k with
  | true => simp only [hb, cond_true] at hk; cases hk
  | false =>
   simp only [hb, cond_false] at hk hs
   split at hs
   ·rename_i r' hr'
    cases hs
    obtain ⟨g, gc, vs, a1, a2, a3⟩ := stB_rel0 t hk hr' hl
    refine ⟨g, gc, vs, a1, a2, fun vs' hv => ?_⟩
    obtain ⟨LM', b1, b2⟩ := a3 vs' hv
    exact ⟨_, b1.right _, .frm b2⟩
   ·cases hs
 | _, _, .cons (k := k') (T := T') (o := o') hk' hc ho hr t, k, cs, cs', T, M', hk, hs, hl => by
  simp only [lkB, hc.notBig, cond_false] at hk
  simp only [stB] at hs
  cases hb : Nat.beq k' k with
  | true =>
   simp only [hb, cond_true, Option.some.injEq, Prod.mk.injEq] at hk hs
   obtain ⟨rfl, rfl, rfl⟩ := hk
   subst hs
   rw [← Nat.eq_of_beq_eq_true hb]
   have h0 := ho rfl
   subst h0
   refine ⟨_, _, _, hk', hc, fun vs' hv => ⟨_, ?_, .cons (rest := []) hk' hv ho (fun hq => by cases hq) t⟩⟩
   rw [List.append_nil, List.append_nil]; exact .here
  | false =>
   simp only [hb, cond_false] at hk hs
   split at hs
   ·rename_i r' hr'
    cases hs
    obtain ⟨g, gc, vs, a1, a2, a3⟩ := stB_rel0 t hk hr' hl
    refine ⟨g, gc, vs, a1, a2, fun vs' hv => ?_⟩
    obtain ⟨LM', b1, b2⟩ := a3 vs' hv
    exact ⟨_, .next b1, .cons hk' hc ho hr b2⟩
   ·cases hs
def CPost (c : Cfg) (e : Vl) (σ : List (Nat × Nat × Nat)) (w0 : World) (v : V) (M' : MB) (nx' : Nat) : Ending → World → Prop := fun en w' => ∃ u σ' LM', en = .returned u ∧ Ext σ σ' ∧ σ'.length = nx' ∧ RelV e σ' v u ∧ RM c.P e σ' M' LM' ∧ Own w0 LM' w'
theorem one_ptr {vs : List Value} {k : Nat} (h : RelVs e σ [.one (.ptr k 0)] vs) : ∃ g b cc, σ[k]? = some (g, b, cc) ∧ vs = [.pointer (some ⟨g, b, none⟩)] := by
 cases h with | cons h1 t => cases t; obtain ⟨g, b, cc, hg, rfl⟩ := iv_ptr h1; exact ⟨g, b, cc, hg, by simp⟩
theorem five {a1 a2 a3 a4 a5 : C} {vs : List Value} (h : RelCs e σ [a1, a2, a3, a4, a5] vs) : ∃ v1 v2 v3 v4 v5, vs = [v1, v2, v3, v4, v5] ∧ RelC e σ a1 v1 ∧ RelC e σ a2 v2 ∧ RelC e σ a3 v3 ∧ RelC e σ a4 v4 ∧ RelC e σ a5 v5 := by
 cases h with | cons q1 h => cases h with | cons q2 h => cases h with | cons q3 h => cases h with | cons q4 h => cases h with | cons q5 h => cases h; exact ⟨_, _, _, _, _, rfl, q1, q2, q3, q4, q5⟩
theorem copy_sound (hP : c.P = Try.prog) {vs : List V} {M M' : MB} {nx nx' : Nat} {v : V} (h : bCopy vs M nx = some (v, M', nx')) {us : List Value} {LM : List Blk} (hn : σ.length = nx) (hus : RelVs e σ vs us) (hM : RM c.P e σ M LM) {w : World} (hw : Own w0 LM w) :
  Calls c.P 110 (List.toArray us) w (CPost c e σ w0 v M' nx') := by
 unfold bCopy at h
 split at h
 rotate_left
 ·cases h
 rename_i k
 obtain ⟨g, b, cc, hg, rfl⟩ := one_ptr hus
 split at h
 rotate_left
 ·cases h
 rename_i cs T hk
 cases hT : Nat.beq T 134 with
 | false => rw [hT, cond_false] at h; cases h
 | true =>
  have hT' := Nat.eq_of_beq_eq_true hT
  subst hT'
  rw [hT, cond_true] at h
  split at h
  ·rename_i b1 i1 g1 d1
   split at h
   ·rename_i M1 hst
    cases h
    obtain ⟨g', gc, ws, s1, s2, s3⟩ := stB_rel0 hM hk hst rfl
    rw [hg] at s1; cases s1
    obtain ⟨_, _, _, _, _, rfl, q0, q1, q2, q3, q4⟩ := five s2
    cases q0
    obtain ⟨LM', t1, t2⟩ := s3 _ (.cons (.ptr hg) (.cons q1 (.cons q2 (.cons q3 (.cons q4 .nil)))))
    have hb := hw.block t1.has
    have := copy_fresh g w (by rw [Lib.cell_of_heap hb]; rfl) (by simp [World.shape?, hb]) (Lib.frozen_of_heap hb 0)
    rw [← hP] at this
    refine this.mono ?_
    rintro en w' ⟨rfl, rfl⟩
    exact ⟨_, σ, LM', rfl, Ext.refl σ, hn, .tup .nil, t2, own_setc hw t1⟩
   ·cases h
  ·rename_i k' b1 i1 g1 d1
   cases hb : Nat.beq k' k with
   | false => rw [hb, cond_false] at h; cases h
   | true =>
    have hb' := Nat.eq_of_beq_eq_true hb
    subst hb'
    rw [hb, cond_true] at h
    cases h
    obtain ⟨g', gc, ws, rest, s1, s2, s3, _, s5, _⟩ := hM.look2 hk
    rw [hg] at s1; cases s1
    cases s3 rfl
    rw [List.append_nil] at s5
    obtain ⟨_, _, _, _, _, rfl, q0, q1, q2, q3, q4⟩ := five s2
    obtain ⟨g2, b2, c2, hq, rfl⟩ := iv_ptr (RelV.one q0)
    rw [hg] at hq; cases hq
    have hb := hw.held _ s5
    have := copy_used g w (by rw [Lib.cell_of_heap (show w.heap[g]? = some (.cells _ 134 (0, 0)) from hb)]; rfl)
    rw [← hP] at this
    refine this.mono ?_
    rintro en w' ⟨rfl, rfl⟩
    exact ⟨_, σ, LM, rfl, Ext.refl σ, hn, .tup .nil, hM, hw⟩
  ·cases h
theorem flat_bytes (l : List Nat) (hl : ∀ b ∈ l, b < 256) : flatL [some IntKind.u8] (l.map fun b => [Int.ofNat b]) = l.map fun b => Value.int .u8 (b : Nat) := by
 induction l with
 | nil => rfl
 | cons b l ih =>
  have h1 : b < 256 := hl b (.head _)
  have : flatL [some IntKind.u8] ((b :: l).map fun b => [Int.ofNat b]) = Value.int .u8 (IntKind.u8.wrap (Int.ofNat b)) :: flatL [some IntKind.u8] (l.map fun b => [Int.ofNat b]) := rfl
  rw [this, ih (fun b hb => hl b (.tail _ hb)), List.map_cons]
  congr 2
  rw [IntKind.wrap_u8']; show ((b : Nat) : Int) % 256 = b; omega
theorem flat_str (s : ByteArray) : flatL [some IntKind.u8] ((SE.lbs (s.data.toList.map UInt8.toNat)).lst e) = Lib.strCells s := by
 rw [lst_lbs, flat_bytes _ (fun b hb => by obtain ⟨u, _, rfl⟩ := List.mem_map.1 hb; exact u.toNat_lt), List.map_map]
 rfl
theorem flat_bytesOf : ∀ (l : List (List Int)), Lib.byteCells (bytesOf l).data.toList = flatL [some IntKind.u8] l
 | [] => rfl
 | el :: l => by
  have ih := flat_bytesOf l
  have h1 : (bytesOf (el :: l)).data.toList = UInt8.ofNat (IntKind.u8.wrap (el.getD 0 0)).toNat :: (bytesOf l).data.toList := by simp [bytesOf]
  have h2 : flatL [some IntKind.u8] (el :: l) = Value.int .u8 (IntKind.u8.wrap (el.getD 0 0)) :: flatL [some IntKind.u8] l := rfl
  rw [h1, h2, ← ih]
  simp only [Lib.byteCells, List.map_cons, List.cons.injEq, Value.int.injEq, true_and, and_true]
  rw [IntKind.wrap_u8']
  generalize el.getD 0 0 = z
  have h3 : 0 ≤ z % 256 ∧ z % 256 < 256 := by omega
  rw [UInt8.toNat_ofNat']
  show (((z % 256).toNat % 256 : Nat) : Int) = z % 256
  omega
theorem neL_ne : ∀ {x : SE}, neL x = true → x.lst e ≠ [] := by
 intro x
 induction x with
 | lcat a b iha ihb =>
  intro h
  simp only [neL, Bool.or_eq_true] at h
  rw [lst_lcat]
  intro q
  obtain ⟨q1, q2⟩ := List.append_eq_nil_iff.1 q
  rcases h with h | h
  ·exact iha h q1
  ·exact ihb h q2
 | lone a => intro _ q; rw [lst_lone] at q; cases q
 | lbs l =>
  intro h q
  cases l with
  | nil => cases h
  | cons b l => rw [lst_lbs] at q; cases q
 | _ => intro h; cases h
theorem u8_ofNat (n : Nat) : UInt8.ofNat (IntKind.u8.wrap (Int.ofNat n)).toNat = UInt8.ofNat n := by
 rw [IntKind.wrap_u8']
 apply UInt8.toNat_inj.1
 rw [UInt8.toNat_ofNat', UInt8.toNat_ofNat']
 have : (Int.ofNat n % 256).toNat = n % 256 := by show (((n : Nat) : Int) % 256).toNat = _; omega
 rw [this]; omega
theorem closed_ok : ∀ {x : SE} {l : List Nat}, closedL x = some l → bytesOf (x.lst e) = ⟨(l.map UInt8.ofNat).toArray⟩ := by
 intro x
 induction x with
 | lnil => intro l h; cases h; rw [lst_lnil]; rfl
 | lbs b =>
  intro l h; cases h
  rw [lst_lbs]
  unfold bytesOf
  rw [List.map_map]
  congr 2
  apply List.map_congr_left
  intro b _
  exact u8_ofNat b
 | lone a =>
  intro l h
  unfold closedL at h
  split at h
  ·cases ‹SE.lone a = _›
  ·cases ‹SE.lone a = _›
  ·rename_i n hx
   cases hx; cases h
   rw [lst_lone]
   have h1 : (SE.cons (.lit .u8 (.ofNat n)) .nil).vals e = [IntKind.u8.wrap (Int.ofNat n)] := by simp only [SE.vals, SE.val]
   rw [h1]
   show (⟨#[UInt8.ofNat (IntKind.u8.wrap (IntKind.u8.wrap (Int.ofNat n))).toNat]⟩ : ByteArray) = ⟨#[UInt8.ofNat n]⟩
   rw [wrap_wrap, u8_ofNat]
  ·cases ‹SE.lone a = _›
  ·cases h
 | lcat a b iha ihb =>
  intro l h
  simp only [closedL] at h
  split at h
  ·rename_i x y hx hy
   cases h
   rw [lst_lcat, bytes_app, iha hx, ihb hy]
   apply ByteArray.ext
   simp [ByteArray.data_append]
  ·cases h
 | _ => intro l h; cases h
theorem first_sound (hP : c.P = Try.prog) {vs : List V} {M M' : MB} {nx nx' : Nat} {v : V} (h : bFirst vs M nx = some (v, M', nx')) {us : List Value} {LM : List Blk} (hn : σ.length = nx) (hus : RelVs e σ vs us) (hM : RM c.P e σ M LM) {w : World} (hw : Own w0 LM w) :
  Calls c.P 92 (List.toArray us) w (CPost c e σ w0 v M' nx') := by
 unfold bFirst at h
 split at h
 rotate_left
 ·cases h
 rename_i k s
 obtain ⟨g, cc, hg, hu⟩ : ∃ g cc, (∃ b, σ[k]? = some (g, b, cc) ∧ us = [.pointer (some ⟨g, b, none⟩), .string s]) := by
  cases hus with | cons h1 t => cases t with | cons h2 t => cases t; obtain ⟨g, b, cc, hg, rfl⟩ := iv_ptr h1; rw [iv_str h2]; exact ⟨g, cc, b, hg, by simp⟩
 obtain ⟨hg, rfl⟩ := hu
 split at h
 rotate_left
 ·cases h
 rename_i cs T hk
 cases hT : (Nat.beq T 134 && (Nat.blt 0 s.size && Nat.ble s.size 1000000)) with
 | false => rw [hT, cond_false] at h; cases h
 | true =>
  rw [hT, cond_true] at h
  simp only [Bool.and_eq_true] at hT
  obtain ⟨hT1, hs0, hs1⟩ := hT
  have hT' := Nat.eq_of_beq_eq_true hT1
  subst hT'
  have hs0 : 0 < s.size := Nat.le_of_ble_eq_true hs0
  have hs1 := Nat.le_of_ble_eq_true hs1
  split at h
  ·rename_i i1 g1 d1
   split at h
   ·rename_i M1 hst
    cases h
    obtain ⟨g', gc, ws, rest, s1, s2, s3, _, s5, _⟩ := hM.look2 hk
    rw [hg] at s1; cases s1
    cases s3 rfl
    rw [List.append_nil] at s5
    obtain ⟨_, _, v3, v4, v5, rfl, q0, q1, q2, q3, q4⟩ := five s2
    cases q0; cases q1
    have hb : w.heap[g]? = some (.cells _ 134 (0, 0)) := hw.held _ s5
    have := first_run g s v3 v4 v5 w hb hs1
    rw [← hP] at this
    refine this.mono ?_
    rintro en w' ⟨rfl, v', w2, hown, hgrow, hnil, rfl⟩
    rcases hown.2 with ⟨_, hz⟩ | ⟨g', cap, cur, rfl, hbg, hg', hnc, hcm, hcs, ht⟩
    ·omega
    have hxt : Ext σ (σ ++ [(g', 0, 2 * cap + 1)]) := Ext.snoc σ _
    have hget : (σ ++ [(g', 0, 2 * cap + 1)])[nx]? = some (g', 0, 2 * cap + 1) := by rw [← hn]; simp
    obtain ⟨g2, gc2, ws2, t1, t2, t3⟩ := stB_rel0 (hM.mono hxt) hk hst rfl
    rw [hxt.get hg] at t1; cases t1
    have e1 := t2.det (s2.mono hxt)
    subst e1
    have hlen : ((SE.lbs (s.data.toList.map UInt8.toNat)).lst e).length = s.size := by rw [lst_lbs, List.length_map, List.length_map]; rfl
    have hsl := RelC.sli (e := e) (x := .lbs (s.data.toList.map UInt8.toNat)) hget
    rw [hlen, sat_of (by unfold maxLen; omega)] at hsl
    unfold slV at hsl
    rw [if_neg (by omega), show (2 * cap + 1) / 2 = cap by omega] at hsl
    obtain ⟨LM', u1, u2⟩ := t3 _ (.cons (.ptr (hxt.get hg)) (.cons hsl (.cons (q2.mono hxt) (.cons (q3.mono hxt) (.cons (q4.mono hxt) .nil)))))
    obtain ⟨L2, w1, w2'⟩ := u1.via [.pointer (some ⟨g, 0 + 0, none⟩), .slice none 0 0, v3, v4, v5]
    have ow1 := own_setc (j := 0) (v := .pointer (some ⟨g, 0, none⟩)) hw w1
    have hsz : (w.setCell ⟨g, 0, none⟩ (.pointer (some ⟨g, 0, none⟩))).heap.size = w.heap.size := by simp [World.setCell]
    have ow2 := own_grown (g' := g') (cs := cur.toList) (T := 5) ow1 hgrow (fun k hk => by cases hk) (fun b hb => by simp) (by have := hw.below.size; omega) (by simpa using hg') (fun b hb => by have := ow1.lt hb; omega)
    have ow3 := own_setc (j := 1) (v := .slice (some ⟨g', 0, none⟩) s.size cap) ow2 (.next w2')
    have hcur : cur.toList = flatL [some .u8] ((SE.lbs (s.data.toList.map UInt8.toNat)).lst e) ++ cur.toList.drop s.size := by
     rw [flat_str, ← ht, Nat.mul_one]; exact (List.take_append_drop _ _).symm
    refine ⟨_, _, _, rfl, hxt, by simp [hn], .tup (.cons (.one .int) (.cons (.one .nili) .nil)), ?_, ow3⟩
    have hi : ∃ i, Try.prog.info? 5 = some i ∧ i.size = 1 := ⟨_, rfl, rfl⟩
    have := RM.big (P := c.P) (e := e) (x := .lbs (s.data.toList.map UInt8.toNat)) (ks := [some .u8]) (T := 5) (o := true) (rest := cur.toList.drop s.size) hget hcm (by rw [hP]; exact hi) (by rw [hlen]; exact hnc)
     (by rw [← List.length_append, ← hcur]; simp; omega) u2
    rw [← hcur] at this
    exact this
   ·cases h
  ·cases h
theorem own_frz {w : World} {L : List Blk} {g n : Nat} {cs : List Value} {T : TypeId} (h : Own w0 ((g, cs, T) :: L) w) : Own w0 L (w.drew.freeze ⟨g, 0, none⟩ n) := by
 have hb := h.base _ (.head _)
 have ht := h.tail
 have hap := (List.pairwise_cons.1 h.apart).1
 refine ⟨Lib.below_freeze h.below.drew (p := ⟨g, 0, none⟩) hb n, ht.base, fun b hm => ?_, ht.apart⟩
 rw [frz_other (hap b hm).symm]
 exact ht.held b hm
theorem str_sound (hP : c.P = Try.prog) {D : SE → Option Bool} (hD : ∀ x t, D x = some t → e.s x = .bool t) {vs : List V} {M M' : MB} {nx nx' : Nat} {v : V} (h : bStr D vs M nx = some (v, M', nx')) {us : List Value} {LM : List Blk} (hn : σ.length = nx) (hus : RelVs e σ vs us) (hM : RM c.P e σ M LM) {w : World} (hw : Own w0 LM w) :
  Calls c.P 94 (List.toArray us) w (CPost c e σ w0 v M' nx') := by
 unfold bStr at h
 split at h
 rotate_left
 ·cases h
 rename_i k
 obtain ⟨g, b, cc, hg, rfl⟩ := one_ptr hus
 split at h
 rotate_left
 ·cases h
 rename_i cs T hk
 cases hT : Nat.beq T 134 with
 | false => rw [hT, cond_false] at h; cases h
 | true =>
  have hT' := Nat.eq_of_beq_eq_true hT
  subst hT'
  rw [hT, cond_true] at h
  split at h
  rotate_left
  ·cases h
  rename_i a1 j x a3 a4 a5
  split at h
  rotate_left
  ·cases h
  rename_i x' T' bo Mo hl ho
  cases hc : (Nat.beq T' 5 && (decide (x = x') && (neL x && smX D x))) with
  | false => rw [hc, cond_false] at h; cases h
  | true =>
   rw [hc, cond_true] at h
   simp only [Bool.and_eq_true] at hc
   obtain ⟨hc1, hc2, hc3, hc4⟩ := hc
   have hc1' := Nat.eq_of_beq_eq_true hc1
   have hc2' := of_decide_eq_true hc2
   subst hc1' hc2'
   cases h
   obtain ⟨g', gc, ws, rest, s1, s2, s3, _, s5, _⟩ := hM.look2 hk
   rw [hg] at s1; cases s1
   cases s3 rfl
   rw [List.append_nil] at s5
   obtain ⟨v1, v2, v3, v4, v5, rfl, q0, q1, q2, q3, q4⟩ := five s2
   have hb : w.heap[g]? = some (.cells _ 134 (0, 0)) := hw.held _ s5
   have hne := neL_ne (e := e) hc3
   have hsm := smX_sound hD hc4
   rcases hM.lookL hl with ⟨gb, bb, _, l2, _⟩ | ⟨gb, cap, rest, l1, l2, l3, l4, l5, l6, l7⟩
   ·exact absurd l2 hne
   obtain ⟨L1, r1, r2⟩ := l7 _ _ ho
   cases q1 with | sli hq =>
   rw [l1] at hq; cases hq
   have hpos : 0 < (x.lst e).length := List.length_pos_iff.2 hne
   have hbl : (bytesOf (x.lst e)).data.toList.length = (x.lst e).length := bytes_size _
   rw [sat_of (by unfold maxLen; omega)] at hb
   unfold slV at hb
   rw [if_neg (by omega), show (2 * cap + 1) / 2 = cap by omega, ← hbl] at hb
   have hgb : w.heap[gb]? = some (.cells _ 5 (0, 0)) := hw.held _ l6
   have := str_run g gb cap v1 v3 v4 v5 (bytesOf (x.lst e)).data.toList _ w (by intro q; rw [q] at hbl; simp at hbl; omega) hb hgb (by rw [hbl]; exact l4) l2 (by simp at l5 ⊢; omega) (by
    rw [flat_bytesOf]
    show (flatL [some IntKind.u8] (x.lst e) ++ rest).take _ = _
    rw [List.take_append_of_le_length (by rw [flatL_len, hbl]; simp), List.take_of_length_le (by rw [flatL_len, hbl]; simp)])
   rw [← hP] at this
   refine this.mono ?_
   rintro en w' ⟨rfl, rfl⟩
   refine ⟨_, σ, L1, rfl, Ext.refl σ, hn, ?_, r1, own_frz (hw.perm r2)⟩
   have hby : (⟨(bytesOf (x.lst e)).data.toList.toArray⟩ : ByteArray) = bytesOf (x.lst e) := by cases bytesOf (x.lst e); simp
   rw [hby]
   split
   ·rename_i l hcl
    rw [closed_ok hcl]; exact .one .str
   ·exact .one .sts
end
theorem bB_ok {c : Cfg} (hP : c.P = Try.prog) (E : Env) (σ0 : List (Nat × Nat × Nat)) (D : SE → Option Bool) (hD : ∀ x t, D x = some t → eS E x = .bool t) : CallOK c (eV E) σ0 (bB D) := by
 intro f vs M F nx v M' nx' h
 unfold bB at h
 have fin : isFn c.P 110 = true ∧ isFn c.P 92 = true ∧ isFn c.P 94 = true := by rw [hP]; exact ⟨by kernel_rfl, by kernel_rfl, by kernel_rfl⟩
 cases h1 : Nat.beq f 110 with
 | true =>
  have := Nat.eq_of_beq_eq_true h1
  subst this
  rw [h1, cond_true] at h
  exact ⟨fin.1, fun w0 σ us LM hn _ hus hM _ w hw => copy_sound hP h hn hus hM hw⟩
 | false =>
  rw [h1, cond_false] at h
  cases h2 : Nat.beq f 92 with
  | true =>
   have := Nat.eq_of_beq_eq_true h2
   subst this
   rw [h2, cond_true] at h
   exact ⟨fin.2.1, fun w0 σ us LM hn _ hus hM _ w hw => first_sound hP h hn hus hM hw⟩
  | false =>
   rw [h2, cond_false] at h
   cases h3 : Nat.beq f 94 with
   | true =>
    have := Nat.eq_of_beq_eq_true h3
    subst this
    rw [h3, cond_true] at h
    exact ⟨fin.2.2, fun w0 σ us LM hn _ hus hM _ w hw => str_sound hP hD h hn hus hM hw⟩
   | false => rw [h3, cond_false] at h; cases h
end Go.Proofs.Ytedfbamihjnhhaa.Own
end
section
namespace Go.Proofs.Ytedfbamihjnhhaa.Own
open Go Go.RowKit Go.Proofs Go.Proofs.Ytedfbamihjnhhaa.Plain
open Go.Proofs.Ytedfbamihjnhhaa.Limb (add64_run sub64_run)
set_option linter.unusedVariables false
set_option linter.unusedSimpArgs false
set_option maxRecDepth 100000
def memFI : List (Nat × Nat) → Nat → Nat → Bool
 | [], _, _ => false
 | (a, b) :: r, f, i => bif Nat.beq a f && Nat.beq b i then true else memFI r f i
def xAdd : List V → Option V
 | [.one (.int .u64 x), .one (.int .u64 y), .one (.int .u64 z)] => bif decide (0 ≤ x ∧ 0 ≤ y ∧ 0 ≤ z ∧ z ≤ 1) then some (.tup [.one (.int .u64 ((x + y + z) % 18446744073709551616)), .one (.int .u64 ((x + y + z) / 18446744073709551616))]) else none
 | _ => none
def xSub : List V → Option V
 | [.one (.int .u64 (.ofNat x)), .one (.int .u64 (.ofNat y)), .one (.int .u64 (.ofNat z))] => bif Nat.ble z 1 then some (.tup [.one (.int .u64 (((x + 18446744073709551616 - y - z) % 18446744073709551616 : Nat) : Int)), .one (.int .u64 ((if x < y + z then 1 else 0 : Nat) : Int))]) else none
 | _ => none
def xh : Hook := fun f vs => bif Nat.beq f 96 then xAdd vs else bif Nat.beq f 98 then xSub vs else none
def tabE : List (Nat × Nat) := [(4, 9), (5, 11), (5, 13), (5, 15), (5, 17), (5, 21), (5, 23), (5, 26), (5, 9), (6, 14), (6, 23), (8, 11), (14, 5), (15, 5), (19, 3), (19, 5), (19, 6), (20, 1), (21, 7), (29, 4), (36, 4), (38, 8), (39, 5), (72, 2), (74, 6), (74, 7), (82, 1), (108, 1), (133, 14), (142, 9), (142, 13), (143, 13), (146, 12), (147, 9), (147, 12), (152, 1)]
def genE : List (Nat × Kind) := [(1000 + 141, .eff), (1000 + 111, .eff), (1000 + 112, .eff), (1000 + 115, .eff), (1000 + 113, .eff), (1000 + 116, .eff), (1000 + 118, .eff), (1000 + 122, .eff), (1000 + 120, .eff), (1000 + 21, .fresh), (1000 + 64, .base), (1000 + 18, .fresh), (1000 + 101, .quiet), (1000 + 23, .base), (1000 + 26, .base), (1000 + 14, .base), (1000 + 15, .base), (1000 + 12, .base), (1000 + 13, .base), (1000 + 25, .base), (1000 + 10, .base), (1000 + 27, .base)]
def cfE (f i : Nat) : List (Nat × Kind) := bif memFI [(142, 2)] f i then [(16, .quiet), (2005, .eff)] else bif memFI [(142, 14)] f i then [(2005, .eff)] else bif memFI [(7, 2)] f i then (1000 + 26, .quiet) :: genE else bif memFI tabE f i then (998, .eff) :: genE else genE
def cfS (f i : Nat) : List Nat := bif memFI [(142, 2), (142, 14)] f i then [4] else []
noncomputable def bW : Cfg := { P := Try.prog, X := xh, H := hnil, G := fun _ _ => none, D := fun _ => none, E := cfE, S := cfS, L := fun _ _ _ _ _ _ _ => none, W := bBW, B := bB }
theorem bW_ok : CfgOK bW := by
 refine ⟨fun e σ0 σ _ f vs v us h hus => ?_, by show Try.prog.follows .mixedOrders = true; kernel_rfl, fun E σ0 D hD => bB_ok rfl E σ0 D hD⟩
 change xh f vs = some v at h
 unfold xh at h
 cases h1 : Nat.beq f 96 with
 | true =>
  have := Nat.eq_of_beq_eq_true h1
  subst this
  simp only [h1, cond_true] at h
  unfold xAdd at h
  split at h
  ·rename_i x y z
   cases hb : decide (0 ≤ x ∧ 0 ≤ y ∧ 0 ≤ z ∧ z ≤ 1) with
   | false => rw [hb, cond_false] at h; cases h
   | true =>
    rw [hb, cond_true] at h; cases h
    obtain ⟨hx, hy, hz, hz1⟩ := of_decide_eq_true hb
    cases hus with | cons a t => cases t with | cons b t => cases t with | cons c t => cases t; rw [iv_int a, iv_int b, iv_int c]; exact ⟨_, .tup (.cons (.one .int) (.cons (.one .int) .nil)), add64_run x y z hx hy hz hz1⟩
  ·cases h
 | false =>
  simp only [h1, cond_false] at h
  cases h2 : Nat.beq f 98 with
  | true =>
   have := Nat.eq_of_beq_eq_true h2
   subst this
   simp only [h2, cond_true] at h
   unfold xSub at h
   split at h
   ·rename_i x y z
    cases hb : Nat.ble z 1 with
    | false => rw [hb, cond_false] at h; cases h
    | true =>
     rw [hb, cond_true] at h; cases h
     have hz := Nat.le_of_ble_eq_true hb
     cases hus with | cons a t => cases t with | cons b t => cases t with | cons c t => cases t; rw [iv_int a, iv_int b, iv_int c]; exact ⟨_, .tup (.cons (.one .int) (.cons (.one .int) .nil)), sub64_run x y z hz⟩
   ·cases h
  | false => simp only [h2, cond_false] at h; cases h
theorem bW_l {Tb : List Ent} : LB bW Tb := fun _ _ _ _ _ _ _ _ _ _ _ _ _ _ _ _ h => by cases h
noncomputable def cf0 : Cfg := cfT bW [] []
def e0 : Env := envOf (FT []) []
theorem ok0 {σ0 : List (Nat × Nat × Nat)} : OK cf0 (eV e0) σ0 := okT bW_ok bW_l tb_nil rfl .nil
end Go.Proofs.Ytedfbamihjnhhaa.Own
end
