/- Numbers as text: the plain law of what is told and said; the bytes of a string. -/
import Derived.Test.YtmgfabfmnachoaaDoorHxG
namespace Go.Proofs.YtmgfabfmnachoaaDoor.Own
open Go Go.RowKit Go.Proofs Go.Proofs.YtmgfabfmnachoaaDoor.Plain Go.Proofs.YtmgfabfmnachoaaDoor.Hx
set_option linter.unusedVariables false
set_option linter.unusedSimpArgs false
set_option maxRecDepth 100000
set_option maxHeartbeats 4000000
theorem mayF_iff (a : Fx) : mayF a = true ↔ ¬ a.n = -170141183460469231731687303715884105728 := by unfold mayF; simp
theorem textF_may (a : Fx) (h : mayF a = true) : textF a = txt (decide (a.n < 0)) (a.n.natAbs / 18446744073709551616) (a.n.natAbs % 18446744073709551616) := by unfold textF; rw [if_pos h]
theorem textF_not (a : Fx) (h : ¬ mayF a = true) : textF a = [] := by unfold textF; rw [if_neg h]
theorem abs_lt (a : Fx) (h : mayF a = true) : a.n.natAbs < 170141183460469231731687303715884105728 := by have := (mayF_iff a).1 h; have := a.lt; omega
theorem textF_len (a : Fx) (h : mayF a = true) : 18 ≤ (textF a).length ∧ (textF a).length ≤ 34 := by
  rw [textF_may a h]; exact txt_len_le _ _ _ (by have := abs_lt a h; omega)
theorem textF_ne (a : Fx) (h : mayF a = true) : textF a ≠ [] := fun e => by have := textF_len a h; rw [e] at this; simp at this
theorem fxOf_eq (W F : Nat) (hF : F < 18446744073709551616) (hW : W < 9223372036854775808) : (fxOf W F hF).n = W * 18446744073709551616 + F := by
  show IntKind.i64.wrap W * 18446744073709551616 + (F : Int) = _
  rw [IntKind.wrap_i64]; omega
theorem candF_eq (s : List UInt8) (g : Bool) (W F : Nat) (hF : F < 18446744073709551616) (h : cand s = (g, W, F)) : candF s = if g = true then Fx.of (-(fxOf W F hF).n) else fxOf W F hF := by
  unfold cand at h
  simp only [Prod.mk.injEq] at h
  obtain ⟨h1, h2, h3⟩ := h
  subst h1 h2 h3
  rfl
theorem candF_text (a : Fx) (h : mayF a = true) : candF (textF a) = a := by
  have hl := abs_lt a h
  have hlt := a.lt
  have hF : a.n.natAbs % 18446744073709551616 < 18446744073709551616 := Nat.mod_lt _ (by decide)
  have hW : a.n.natAbs / 18446744073709551616 < 9223372036854775808 := by omega
  rw [textF_may a h, candF_eq _ _ _ _ hF (cand_txt _ _ _ (by omega) hF)]
  have e := fxOf_eq _ _ hF hW
  apply Fx.n_ext
  by_cases hn : a.n < 0
  · rw [decide_eq_true hn, if_pos rfl, Fx.of_n _ (by omega)]; omega
  · rw [decide_eq_false hn, if_neg (by decide), e]; omega
theorem says_may {s : List UInt8} {a : Fx} (h : saysF s a = true) : mayF a = true ∧ textF a = s := by
  unfold saysF at h
  rw [Bool.and_eq_true, Bool.not_eq_true', decide_eq_false_iff_not, decide_eq_true_eq] at h
  refine ⟨?_, h.2⟩
  apply Classical.byContradiction
  intro hm
  rw [textF_not a hm] at h
  exact h.1 h.2.symm
theorem says_text (a : Fx) (h : mayF a = true) : saysF (textF a) a = true := by
  unfold saysF; rw [decide_eq_false (textF_ne a h), decide_eq_true rfl]; rfl
theorem parse_text (a : Fx) (h : mayF a = true) : parseF (textF a) = a ∧ saysF (textF a) (candF (textF a)) = true := by
  have := says_text a h
  unfold parseF
  rw [candF_text a h, this]; exact ⟨rfl, rfl⟩
/-- what is said is what is told -/
theorem says_iff {s : List UInt8} (h : saysF s (candF s) = true) : ∃ a, mayF a = true ∧ textF a = s ∧ parseF s = a :=
  ⟨candF s, (says_may h).1, (says_may h).2, by unfold parseF; rw [h]; rfl⟩
theorem says_no {s : List UInt8} (h : ∀ a, mayF a = true → textF a ≠ s) : saysF s (candF s) = false ∧ parseF s = zFx := by
  have : saysF s (candF s) = false := by
    apply Bool.eq_false_iff.2
    intro q
    exact h _ (says_may q).1 (says_may q).2
  exact ⟨this, by unfold parseF; rw [this]; rfl⟩
/-- the document's -/
theorem twoOf_n (n : Nat) (h : n < 340282366920938463463374607431768211456) : (twoOf n h).n = n := by
  have h1 := (twoOf n h).n_int
  have h2 : (twoOf n h).hi = ((n / 18446744073709551616 : Nat) : Int) := rfl
  have h3 : (twoOf n h).lo = ((n % 18446744073709551616 : Nat) : Int) := rfl
  rw [h2, h3] at h1
  omega
theorem zTwo_n : zTwo.n = 0 := by
  have h1 := zTwo.n_int
  have h2 : zTwo.hi = 0 := rfl
  have h3 : zTwo.lo = 0 := rfl
  rw [h2, h3] at h1
  omega
theorem told_low (T : Two) (sg : Bool) (h : T.n < 170141183460469231731687303715884105728) : told ⟨zTwo, T⟩ sg = (Fx.of (sgn sg T.n), 0) := by
  unfold told
  rw [if_neg]
  have := Four.n_eq ⟨zTwo, T⟩
  show ¬ _ ≤ (⟨zTwo, T⟩ : Four).n
  rw [this]
  show ¬ _ ≤ zTwo.n * _ + T.n
  rw [zTwo_n, Nat.zero_mul, Nat.zero_add]; omega
theorem fxof_may (z : Int) (h : -170141183460469231731687303715884105728 < z ∧ z < 170141183460469231731687303715884105728) : mayF (Fx.of z) = true := by
  rw [mayF_iff, Fx.of_n _ ⟨by omega, h.2⟩]; omega
theorem sgn_may (sg : Bool) (N : Nat) (h : N < 170141183460469231731687303715884105728) : mayF (Fx.of (sgn sg N)) = true := by
  refine fxof_may _ ?_
  cases sg
  · unfold sgn; rw [cond_false]; omega
  · unfold sgn; rw [cond_true]; omega
theorem lo_lt (x y z : Nat) (h : z = x * 340282366920938463463374607431768211456 + y) (hm : ¬ 170141183460469231731687303715884105728 ≤ z) : y < 170141183460469231731687303715884105728 := by omega
theorem told_may (m : Four) (sg : Bool) : mayF (told m sg).1 = true := by
  by_cases hm : 170141183460469231731687303715884105728 ≤ m.n
  · have e : told m sg = (Fx.of 0, 3) := by unfold told; rw [if_pos hm]
    rw [e]
    exact fxof_may 0 (by decide)
  · have e : told m sg = (Fx.of (sgn sg m.lo.n), 0) := by unfold told; rw [if_neg hm]
    rw [e]
    exact sgn_may sg _ (lo_lt _ _ _ m.n_eq hm)
theorem candR_text (a : Fx) (h : mayF a = true) : candR (textF a) = (a, 0) := by
  have hl := abs_lt a h
  have hlt := a.lt
  have hF : a.n.natAbs % 18446744073709551616 < 18446744073709551616 := Nat.mod_lt _ (by decide)
  have hW : a.n.natAbs / 18446744073709551616 < 9223372036854775808 := by omega
  have e := numD_gen 18446744073709551616 (by decide) (decide (a.n < 0)) _ _ (show a.n.natAbs / 18446744073709551616 < 18446744073709551616 by omega) hF
  rw [show (18446744073709551616 : Nat) * 18446744073709551616 = 340282366920938463463374607431768211456 by decide] at e
  have em : mD (textF a) = a.n.natAbs := by
    unfold mD; rw [textF_may a h, e]; omega
  have es : (cutSign (textF a)).1 = decide (a.n < 0) := by rw [textF_may a h, cut_txt]
  have ht := twoOf_n (mD (textF a)) (numD_lt _ _ _ (by decide))
  unfold candR
  rw [es, told_low _ _ (by rw [ht, em]; omega), ht, em]
  congr 1
  apply Fx.n_ext
  by_cases hn : a.n < 0
  · rw [decide_eq_true hn]
    show (Fx.of (-((a.n.natAbs : Nat) : Int))).n = _
    rw [Fx.of_n _ (by omega)]; omega
  · rw [decide_eq_false hn]
    show (Fx.of ((a.n.natAbs : Nat) : Int)).n = _
    rw [Fx.of_n _ (by omega)]; omega
/-- both say the same -/
theorem ok_says (s : List UInt8) : okR s = saysF s (candF s) ∧ (if okR s = true then (candR s).1 else zFx) = parseF s := by
  by_cases hx : ∃ a, mayF a = true ∧ textF a = s
  · obtain ⟨a, ha, rfl⟩ := hx
    have h1 := parse_text a ha
    have h2 := candR_text a ha
    have h3 : okR (textF a) = true := by
      have := textF_len a ha
      unfold okR
      rw [h2, decide_eq_true (by omega), decide_eq_true rfl, decide_eq_true rfl]; rfl
    rw [h3, h1.2, h1.1, h2]; exact ⟨rfl, rfl⟩
  · have h1 := says_no (s := s) fun a ha e => hx ⟨a, ha, e⟩
    have h3 : okR s = false := by
      apply Bool.eq_false_iff.2
      intro q
      unfold okR at q
      rw [Bool.and_eq_true, Bool.and_eq_true, decide_eq_true_eq, decide_eq_true_eq, decide_eq_true_eq] at q
      exact hx ⟨(candR s).1, by unfold candR; exact told_may _ _, q.2.2⟩
    rw [h3, h1.1, h1.2]; exact ⟨rfl, rfl⟩
section
variable {P : Program} {w0 : World} {o : Oper} {ρ : Operand → Value} {L : List Blk}
/-- the bytes of a string, in a new row -/
theorem e_str_bytes {s d e : TypeId} (hs : P.underlying s = some .string) (hd : P.underlying d = some (.slice e)) (he : P.underlying e = some (.int .u8)) {x : Operand} {l : List UInt8} (ho : o.op = .convert s d x) (hx : ρ x = .string (B l)) :
    EV P w0 o ρ L (fun v L' => ∃ g c z, v = .slice (some ⟨g, 0, none⟩) l.length c ∧ L' = (g, bytesV l ++ List.replicate z (.int .u8 0), e) :: L) := fun w hw => by
  have hrun : (execOp ρ o).run P w = .ok (.value (.slice (some ⟨w.heap.size, 0, none⟩) (B l).size (grownCap w (B l).size 0 e))) (w.drew.alloc (.cells (bytesRow (B l) (grownCap w (B l).size 0 e)) e ((bytesRow (B l) (grownCap w (B l).size 0 e)).size, (bytesRow (B l) (grownCap w (B l).size 0 e)).size + 1))) := by
    simp only [execOp, ho, hx, Sem.run_bind, run_bytes_of_string w s d e (B l) hs hd he, Result.andThen_ok]
    rfl
  rw [hrun]
  generalize hc : grownCap w (B l).size 0 e = c
  have hr : bytesRow (B l) c = (bytesV l ++ List.replicate (c - l.length) (Value.int .u8 0)).toArray := by
    unfold bytesRow bytesV
    rw [B_size]
    apply Array.ext'
    simp only [B, Array.toList_append, Array.toList_map, Array.toList_replicate, List.toList_toArray]
  rw [hr, B_size]
  refine ⟨_, ⟨w.heap.size, c, c - l.length, rfl, rfl⟩, ?_⟩
  refine hw.newF _ e ((bytesV l ++ List.replicate (c - l.length) (Value.int .u8 0)).toArray.size, (bytesV l ++ List.replicate (c - l.length) (Value.int .u8 0)).toArray.size + 1) ?_ ((Below.refl _ _).drew.alloc (Nat.le_refl _) _) ?_
  · simp [okF]
  · show (w.heap.push _)[w.heap.size]? = _
    simp
end
section
variable {P : Program} {w0 : World} {L0 : List Blk} {ops : List Oper} {q : Bool} {E : List (Nat × Kind)} {K : Act → List Blk → Prop} {n : Nat} {l : List (Nat × Value)} {L : List Blk} {o : Oper} {rest : List Oper} {d : Tmp}
theorem k_str_bytes (hw : wantL ops n l o = true := by exact want_none (by eq_refl)) (hd : o.dst = some d := by eq_refl) {s t e : TypeId} {x : Operand} {r : List UInt8} (hk : kf q E o = .eff := by eq_refl) (ho : o.op = .convert s t x := by eq_refl) (hs : P.underlying s = some .string := by exact st9) (ht : P.underlying t = some (.slice e) := by exact si (by eq_refl)) (he : P.underlying e = some (.int .u8) := by exact ii (by eq_refl)) (hx : evO n l x = some (.string (B r)) := by eq_refl)
    (h : ∀ g c z, lexO P w0 L0 ops q E K rest (frm n ((d, .slice (some ⟨g, 0, none⟩) r.length c) :: l)) ((g, bytesV r ++ List.replicate z (.int .u8 0), e) :: L)) : lexO P w0 L0 ops q E K (o :: rest) (frm n l) L :=
  s_eff hw (.inl hk) (e_str_bytes hs ht he ho (evO_eq hx)) (fun h0 => by rw [hk] at h0; cases h0) fun v L' ⟨g, c, z, h1, h2⟩ => by subst h1; subst h2; rw [hd]; exact h g c z
end
end Go.Proofs.YtmgfabfmnachoaaDoor.Own
