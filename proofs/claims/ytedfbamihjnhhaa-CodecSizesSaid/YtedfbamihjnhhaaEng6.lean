/- An engine for walks, the sixth part: slices, loops round by round, what was there ahead of the call. -/
import Derived.Test.YtedfbamihjnhhaaEng5
namespace Go.Proofs.Ytedfbamihjnhhaa.Own
open Go Go.RowKit
set_option linter.unusedVariables false
set_option linter.unusedSimpArgs false
/-! ### a slice made of its elements -/
inductive RowR (n : Nat) (l : List (Nat × Value)) (m : Nat) : Nat → List (Nat × Operand) → List Value → Prop where
 | nil {i} : RowR n l m i [] []
 | cons {i x r v vs cs} (h : evO n l x = some v) (hc : CellsR v vs) (hm : Nat.beq vs.length m = true) (t : RowR n l m (i + 1) r cs) : RowR n l m i ((i, x) :: r) (vs ++ cs)
theorem RowR.len {n : Nat} {l : List (Nat × Value)} {m i : Nat} {ps : List (Nat × Operand)} {cs : List Value} (h : RowR n l m i ps cs) : cs.length = ps.length * m := by
 induction h with
 | nil => simp
 | @cons i x r v vs cs h hc hm t ih =>
  have hm := Nat.eq_of_beq_eq_true hm
  simp only [List.length_append, List.length_cons, ih, hm, Nat.add_mul, Nat.one_mul]; omega
theorem RowR.fill {n : Nat} {l : List (Nat × Value)} {m i : Nat} {ps : List (Nat × Operand)} {cs : List Value} (h : RowR n l m i ps cs) : ∀ (pre post : List Value), pre.length = i * m → post.length = ps.length * m →
  Instr.fill (fun j => some (j * m, m)) (pre ++ post).toArray (ps.map fun x => (x.1, evL n l x.2)) = some (pre ++ cs).toArray := by
 induction h with
 | nil => intro pre post h1 h2; have : post = [] := List.length_eq_zero_iff.1 (by simpa using h2); subst this; rfl
 | @cons i x r v vs cs h hc hm t ih =>
  intro pre post h1 h2
  have hm := Nat.eq_of_beq_eq_true hm
  have hce := hc.eq
  have hsz : v.cells.size = m := by rw [← hm, ← hce]; simp
  simp only [List.length_cons, Nat.add_mul, Nat.one_mul] at h2
  simp only [List.map_cons, Instr.fill, evO_eq h]
  rw [if_neg (by simp [hsz]; omega)]
  have h3 := splice_foldl v.cells.toList (pre ++ post).toArray (i * m) (by simp [hsz]; omega)
  have h4 : v.cells.zipIdx.foldl (fun (cs : Array Value) (x : Value × Nat) => cs.setIfInBounds (i * m + x.2) x.1) (pre ++ post).toArray = ((pre ++ vs) ++ post.drop m).toArray := by
   have h5 : splice (pre ++ post) (i * m) vs = (pre ++ vs) ++ post.drop m := by
    unfold splice
    rw [List.take_append_of_le_length (by omega), List.take_of_length_le (by omega), hm, List.drop_append, List.drop_eq_nil_of_le (by omega)]
    simp [h1]
   rw [hce] at h3
   rw [← h5]
   rw [← hce] at h3 ⊢
   rw [← h3, ← Array.foldl_toList]; simp
  show Instr.fill _ (v.cells.zipIdx.foldl (fun (cs : Array Value) (x : Value × Nat) => cs.setIfInBounds (i * m + x.2) x.1) (pre ++ post).toArray) _ = _
  rw [h4, ih (pre ++ vs) (post.drop m) (by simp [h1, hm, Nat.add_mul]) (by simp; omega), List.append_assoc]
structure EZ (P : Program) (e : TypeId) : Prop where
 pf : ∃ i z, P.info? e = some i ∧ i.zero = some z
theorem ez_of {P : Program} {e : TypeId} {z : Value} (h : zinfo P e = some z) : EZ P e := by
 unfold zinfo at h
 simp only [Option.bind_eq_some_iff] at h
 obtain ⟨i, h1, h2⟩ := h
 exact ⟨i, z, h1, h2⟩
section
variable {P : Program} {w0 : World} {L0 : List Blk} {ops rest : List Oper} {q : Bool} {E : List (Nat × Kind)} {K : Act → List Blk → Prop} {n : Nat} {l : List (Nat × Value)} {L : List Blk} {o : Oper} {d : Nat}
theorem allocOf_slice {t e : TypeId} {len m : Nat} {b : Bool} (hs : P.underlying t = some (.slice e)) (hi : tinfo P e = some (b, m)) (hz : EZ P e) {ps : List (Nat × Operand)} {cs : List Value} (ho : o.op = .buildSlice t len (List.toArray ps)) (hr : RowR n l m 0 ps cs) (hl : ps.length = len)
  (h1 : Nat.ble (len * m) 16777216 = true) (h2 : Nat.beq (len * m) 0 = false) : allocOf P o (evL n l) = some (some len, cs, e) := by
 obtain ⟨i, z, hi', hz'⟩ := hz.pf
 have hm : i.size = m := by
  have := hi
  unfold tinfo at this
  split at this
  ·rename_i d' i' _ hi2
   rw [hi'] at hi2
   simp only [Option.some.injEq, Prod.mk.injEq] at this hi2
   rw [hi2]; exact this.2
  ·cases this
 have h1 := Nat.le_of_ble_eq_true h1
 have h2 : len * m ≠ 0 := fun e => by rw [e] at h2; simp at h2
 unfold allocOf
 simp only [ho, hs, hi', hz', hm]
 rw [if_neg (by omega)]
 have := hr.fill [] ((List.range (len * m)).map fun i => z.cells[i % z.cells.size]!) (by simp) (by simp [hl])
 simp only [List.nil_append] at this
 have e1 : (Array.map (fun i => z.cells[i % z.cells.size]!) (Array.range (len * m))) = ((List.range (len * m)).map fun i => z.cells[i % z.cells.size]!).toArray := by
  apply Array.ext' ; simp
 have e2 : (Array.map (fun (x : Nat × Operand) => (x.1, evL n l x.2)) (List.toArray ps)).toList = ps.map fun x => (x.1, evL n l x.2) := by simp
 show (Instr.fill (fun j => some (j * m, m)) (Array.map (fun i => z.cells[i % z.cells.size]!) (Array.range (len * m))) (Array.map (fun (x : Nat × Operand) => (x.1, evL n l x.2)) (List.toArray ps)).toList).map _ = _
 rw [e1, e2, this]
 simp
theorem k_buildSlice {t e : TypeId} {len m : Nat} {b : Bool} {ps : List (Nat × Operand)} {cs : List Value} (hw : wantL ops n l o = true := by first | exact want_none (by eq_refl) | exact want_t (by eq_refl) (by eq_refl) (by eq_refl) (by with_reducible assumption) | exact want_f (by eq_refl) (by eq_refl) (by eq_refl) (by with_reducible assumption) | fail) (hd : o.dst = some d := by eq_refl) (ho : o.op = .buildSlice t len (List.toArray ps) := by eq_refl) (hs : P.underlying t = some (.slice e) := by exact si (by eq_refl)) (hi : tinfo P e = some (b, m) := by exact ti (by eq_refl)) (hz : EZ P e := by exact ez_of (ziOf (by eq_refl))) (hr : RowR n l m 0 ps cs := by (repeat (first | apply RowR.nil | apply RowR.cons (by eq_refl) (by first | apply CellsR.agg | exact CellsR.one (by eq_refl) | fail) (by eq_refl))); first | done | fail) (hl : ps.length = len := by eq_refl)
  (h1 : Nat.ble (len * m) 16777216 = true := by eq_refl) (h2 : Nat.beq (len * m) 0 = false := by eq_refl)
  (h : ∀ g, lexO P w0 L0 ops q E K rest (frm n ((d, .slice (some ⟨g, 0, none⟩) len len) :: l)) ((g, cs, e) :: L)) : lexO P w0 L0 ops q E K (o :: rest) (frm n l) L :=
 s_alloc (k := some len) (cs := cs) (t := e) hw (by simp [kf, ho]) (allocOf_slice (hs := hs) (hi := hi) (hz := hz) ho hr hl h1 h2) fun g => by rw [hd]; exact h g
theorem k_indexAddr_arr {t e len m : Nat} {b : Bool} {x y : Operand} {g off j : Nat} {k : IntKind} {i : Int} (hw : wantL ops n l o = true := by first | exact want_none (by eq_refl) | exact want_t (by eq_refl) (by eq_refl) (by eq_refl) (by with_reducible assumption) | exact want_f (by eq_refl) (by eq_refl) (by eq_refl) (by with_reducible assumption) | fail) (hd : o.dst = some d := by eq_refl) (hk : Kind.okP (kf q E o) = true := by eq_refl) (ho : o.op = .indexAddr t x y := by eq_refl) (ha : P.underlying t = some (.array len e) := by exact ai (by eq_refl)) (hi : tinfo P e = some (b, m) := by exact ti (by eq_refl)) (hx : evO n l x = some (.pointer (some ⟨g, off, none⟩)) := by eq_refl) (hy : evO n l y = some (.int k i) := by eq_refl)
  (hb : 0 ≤ i ∧ i < (len : Int) := by first | with_reducible assumption | decide | omega) (hj : off + i.toNat * m = j := by first | (simp; rfl) | rfl) (h : lexO P w0 L0 ops q E K rest (frm n ((d, .pointer (some ⟨g, j, none⟩)) :: l)) L) : lexO P w0 L0 ops q E K (o :: rest) (frm n l) L :=
 k_val hw hd hk (fun L => q_of fun w _ => by
  simp only [execOp, ho, evO_eq hx, evO_eq hy]
  refine run_v ?_
  have ht : ((if len ≤ 1 then true else false) && true) = true ∨ True := .inr trivial
  simp only [Instr.indexAt, asIntOf, Sem.run_bind, Sem.run_pure, Result.andThen_ok, run_underlying ha w, Instr.sureAddr, hb, and_self, if_true, run_sizeOf' hi w, add_cell, hj]) h
/-! ### what was there ahead of the call -/
def OldRow (w0 : World) (g off : Nat) (cs : List Value) : Prop := g < w0.heap.size ∧ ∀ j v, cs[j]? = some v → w0.cell? ⟨g, off + j, none⟩ = some v
def Kind.okO : Kind → Bool | .pure | .quiet | .eff | .base => true | _ => false
theorem k_old {v : Value} (hw : wantL ops n l o = true) (hd : o.dst = some d) (hk : Kind.okO (kf q E o) = true) (hi : Incl L0 L) (hv : ∀ L, QV P w0 o (evL n l) L v) (h : lexO P w0 L0 ops q E K rest (frm n ((d, v) :: l)) L) : lexO P w0 L0 ops q E K (o :: rest) (frm n l) L := by
 refine s_val hw ?_ ?_ (hv L) (by rw [hd]; exact h)
 ·revert hk; cases kf q E o <;> simp [Kind.okO, Kind.val]
 ·intro _
  revert hk
  cases kf q E o <;> intro hk <;> simp [Kind.okO] at hk
  ·exact hv
  ·exact ⟨hi.sub, fun M _ => hv M⟩
  ·exact hv L
  ·exact hv L
theorem k_old_eff {v : Value} (hw : wantL ops n l o = true) (hd : o.dst = some d) (hk : kf q E o = .eff) (hv : QV P w0 o (evL n l) L v) (h : lexO P w0 L0 ops q E K rest (frm n ((d, v) :: l)) L) : lexO P w0 L0 ops q E K (o :: rest) (frm n l) L :=
 s_val hw (.inr hk) (fun hval => by rw [hk] at hval; cases hval) hv (by rw [hd]; exact h)
theorem k_load_row1 {t : TypeId} {m : Nat} {x : Operand} {g off i : Nat} {cs : List Value} {v : Value} (hw : wantL ops n l o = true := by first | exact want_none (by eq_refl) | exact want_t (by eq_refl) (by eq_refl) (by eq_refl) (by with_reducible assumption) | exact want_f (by eq_refl) (by eq_refl) (by eq_refl) (by with_reducible assumption) | fail) (hd : o.dst = some d := by eq_refl) (ho : o.op = .load t x := by eq_refl) (hi : tinfo P t = some (false, m) := by exact ti (by eq_refl)) (hx : evO n l x = some (.pointer (some ⟨g, i, none⟩)) := by eq_refl) (hr : OldRow w0 g off cs)
  (ho2 : off ≤ i) (hv : cs[i - off]? = some v) (hk : Kind.okO (kf q E o) = true := by eq_refl) (hin : kf q E o = .eff ∨ Incl L0 L)
  (h : lexO P w0 L0 ops q E K rest (frm n ((d, v) :: l)) L) : lexO P w0 L0 ops q E K (o :: rest) (frm n l) L := by
 have hv' : ∀ L, QV P w0 o (evL n l) L v := fun L => q_load_old1 (hi := hi) ho (evO_eq hx) hr.1 (by
  have := hr.2 _ _ hv
  rwa [show off + (i - off) = i from by omega] at this)
 rcases hin with he | hin
 ·exact k_old_eff hw hd he (hv' L) h
 ·exact k_old hw hd hk hin hv' h
end
/-! ### loops, round by round -/
section
variable {P : Program} {w0 : World} {L : List Blk} {Q : Exit → Act → World → Prop} {a : Act} {c : Code}
def LW (P : Program) (c : Code) (Q : Exit → Act → World → Prop) (a : Act) (w : World) : Prop :=
 ∀ (b : Frame) (k : List Item) (cs : List Frame), ∃ e a' w', Q e a' w' ∧ Arrives P (lone (b.at a (.code c :: .inLoop c :: k)) cs w) b k cs e a' w'
structure H (P : Program) (w0 : World) (c : Code) (Q : Exit → Act → World → Prop) (a : Act) (L : List Blk) : Prop where
 out : ∀ w, Own w0 L w → LW P c Q a w
theorem j_head (h : H P w0 c Q a L) : J P w0 (.loop c) Q a L := ⟨fun w hw b k cs => by
 obtain ⟨e, a', w', hq, harr⟩ := h.out w hw b k cs
 exact ⟨e, a', w', hq, .of_steps (.one step_loop) harr⟩⟩
theorem h_round (h : J P w0 c (Exit.then (LW P c Q) Q) a L) : H P w0 c Q a L := ⟨fun w hw b k cs => by
 obtain ⟨e, a₁, w₁, hq, harr⟩ := h.out w hw b (.inLoop c :: k) cs
 cases e with
 | normal =>
  obtain ⟨e₂, a₂, w₂, hq₂, harr₂⟩ := hq b k cs
  exact ⟨e₂, a₂, w₂, hq₂, .of_steps (Steps.trans harr (.one step_inLoop)) harr₂⟩
 | exit id => exact ⟨_, a₁, w₁, hq, .pass (x := .inLoop c) rfl (fun _ _ => .inl (by simp)) harr⟩
 | goto l => exact ⟨_, a₁, w₁, hq, .pass (x := .inLoop c) rfl (fun _ _ => .inl (by simp)) harr⟩
 | ret => exact ⟨_, a₁, w₁, hq, .pass (x := .inLoop c) rfl (fun _ _ => .inl (by simp)) harr⟩
 | panic ch => exact ⟨_, a₁, w₁, hq, .pass (x := .inLoop c) rfl (fun _ _ => .inl (by simp)) harr⟩
 | outgrown => exact ⟨_, a₁, w₁, hq, .pass (x := .inLoop c) rfl (fun _ _ => .inl (by simp)) harr⟩⟩
theorem x_head (h : H P w0 c Q a L) : X w0 (Exit.then (LW P c Q) Q) .normal a L := ⟨fun w hw => h.out w hw⟩
end
section
variable {P : Program} {w0 : World} {L : List Blk} {Q : Exit → Act → World → Prop} {c : Code} {n : Nat} {l : List (Nat × Value)}
theorem frm_rem {d : Nat} {v : Value} (h : lookO l d = some v) : frm n ((d, v) :: l) = frm n l := by
 have : look l d = v := lookO_eq l d v h
 simp only [frm, Act.mk.injEq, and_true]
 congr 1
 funext i
 simp only [look]
 cases e : Nat.beq d i with
 | true => rw [← Nat.eq_of_beq_eq_true e, this]; rfl
 | false => rfl
theorem j_rem (d : Nat) {v : Value} (h : lookO l d = some v) (hh : J P w0 c Q (frm n ((d, v) :: l)) L) : J P w0 c Q (frm n l) L := by rw [← frm_rem h]; exact hh
theorem x_rem {e : Exit} (d : Nat) {v : Value} (h : lookO l d = some v) (hh : X w0 Q e (frm n ((d, v) :: l)) L) : X w0 Q e (frm n l) L := by rw [← frm_rem h]; exact hh
variable {a : Act}
theorem Own.mono {w : World} {M : List Blk} (h : Own w0 M w) (hs : L.Sublist M) : Own w0 L w :=
 ⟨h.below, fun b hb => h.base b (hs.subset hb), fun b hb => h.held b (hs.subset hb), h.apart.sublist hs⟩
theorem j_loop_ind {l : List (Nat × Value)} (I : Nat → List (Nat × Value) → List Blk → Prop) (m0 : Nat) (h0 : I m0 l L)
  (step : ∀ m l L, I m l L → (∀ m' l' L', m' < m → I m' l' L' → H P w0 c Q (frm n l') L') → J P w0 c (Exit.then (LW P c Q) Q) (frm n l) L) : J P w0 (.loop c) Q (frm n l) L := by
 refine j_head ?_
 have key : ∀ m l L, I m l L → H P w0 c Q (frm n l) L := by
  intro m
  induction m using Nat.strongRecOn with
  | _ m ih => exact fun l L hI => h_round (step m l L hI fun m' l' L' hlt hI' => ih m' hlt l' L' hI')
 exact key m0 l L h0
theorem h_sub {M : List Blk} (hs : L.Sublist M) (h : H P w0 c Q a L) : H P w0 c Q a M := ⟨fun w hw => h.out w (hw.mono hs)⟩
end
/-! ### what comes behind, behind a name -/
section
variable {P : Program} {w0 : World} {L : List Blk} {Q : Exit → Act → World → Prop} {a : Act} {x y c : Code} {n : Nat} {l : List (Nat × Value)}
theorem j_seq_k (h : ∀ N : Act → World → Prop, (∀ a L, J P w0 y Q a L → X w0 (Exit.then N Q) .normal a L) → J P w0 x (Exit.then N Q) a L) : J P w0 (.seq x y) Q a L := j_seq (h (y.wp P Q) fun _ _ hj => x_then hj)
theorem x_next {N : Act → World → Prop} (hN : ∀ a L, J P w0 y Q a L → X w0 (Exit.then N Q) .normal a L) (h : J P w0 y Q a L) : X w0 (Exit.then N Q) .normal a L := hN a L h
theorem x_drop {e : Exit} {b : Blk} (h : X w0 Q e a L) : X w0 Q e a (b :: L) := ⟨fun w hw => h.out w hw.tail⟩
theorem x_sub {e : Exit} {M : List Blk} (hs : L.Sublist M) (h : X w0 Q e a L) : X w0 Q e a M := ⟨fun w hw => h.out w (hw.mono hs)⟩
theorem j_loop_k (I : Nat → List (Nat × Value) → List Blk → Prop) (m0 : Nat) (h0 : I m0 l L)
  (step : ∀ m l L N, I m l L → (∀ m' l' L', m' < m → I m' l' L' → X w0 (Exit.then N Q) .normal (frm n l') L') → J P w0 c (Exit.then N Q) (frm n l) L) : J P w0 (.loop c) Q (frm n l) L :=
 j_loop_ind I m0 h0 fun m l L hI ih => step m l L (LW P c Q) hI fun m' l' L' hlt hI' => x_head (ih m' l' L' hlt hI')
theorem j_round_k (h : ∀ N, (∀ a L, H P w0 c Q a L → X w0 (Exit.then N Q) .normal a L) → J P w0 c (Exit.then N Q) a L) : H P w0 c Q a L := h_round (h (LW P c Q) fun _ _ hh => x_head hh)
theorem x_again {N : Act → World → Prop} (hN : ∀ a L, H P w0 c Q a L → X w0 (Exit.then N Q) .normal a L) (h : H P w0 c Q a L) : X w0 (Exit.then N Q) .normal a L := hN a L h
def RetV (P : Program) (w0 : World) (fn : Func) (n : Nat) (l : List (Nat × Value)) (L : List Blk) (v : Value) : Prop := ∀ w, Own w0 L w → (results fn (frm n l).tmps).run P w = .ok v w
theorem ret1 {fn : Func} {r : ResultVar} {v u : Value} (hr : fn.results = #[r]) (h : RV P w0 n l L r v) (he : v = u) : RetV P w0 fn n l L u := fun w hw => by
 subst he; rw [results_eq, hr]; simp [List.mapM_cons, Sem.run_bind, rv_run h hw]
theorem ret2 {fn : Func} {r s : ResultVar} {v v' u : Value} (hr : fn.results = #[r, s]) (h : RV P w0 n l L r v) (h2 : RV P w0 n l L s v') (he : Value.tuple #[v, v'] = u) : RetV P w0 fn n l L u := fun w hw => by
 subst he; rw [results_eq, hr]; simp [List.mapM_cons, Sem.run_bind, rv_run h hw, rv_run h2 hw]
theorem ret3 {fn : Func} {r s q : ResultVar} {v v' v'' u : Value} (hr : fn.results = #[r, s, q]) (h : RV P w0 n l L r v) (h2 : RV P w0 n l L s v') (h3 : RV P w0 n l L q v'') (he : Value.tuple #[v, v', v''] = u) : RetV P w0 fn n l L u := fun w hw => by
 subst he; rw [results_eq, hr]; simp [List.mapM_cons, Sem.run_bind, rv_run h hw, rv_run h2 hw, rv_run h3 hw]
theorem pure_q {f : FuncId} {fn : Func} {c : Code} {args : List Value} {v : Value} {m : Nat} (hf : P.funcs[f]? = some fn) (hb : fn.body = some c) (hn : fn.ntmps = m) (hl : Nat.ble args.length m = true) (h0 : initL args = l)
  (h : ∀ w0 Q, (∀ l L, RetV P w0 fn m l L v → X w0 Q .ret (frm m l) L) → J P w0 c Q (frm m l) []) : Pure P f (List.toArray args) v :=
 pure_go hf hb hn hl h0 fun w0 => h w0 _ fun l L hr => ⟨fun w hw => ⟨rfl, v, hr w hw, rfl, hw.below⟩⟩
theorem calls_q {f : FuncId} {fn : Func} {c : Code} {args : List Value} {v : Value} {m : Nat} {w : World} (hf : P.funcs[f]? = some fn) (hb : fn.body = some c) (hn : fn.ntmps = m) (hl : Nat.ble args.length m = true) (h0 : initL args = l)
  (h : ∀ Q, (∀ l L, RetV P w fn m l L v → X w Q .ret (frm m l) L) → J P w c Q (frm m l) []) : Calls P f (List.toArray args) w fun e w' => e = .returned v ∧ Below w.heap.size w w' := by
 subst h0
 exact calls_J hf hb hn hl (h _ fun l L hr => ⟨fun w' hw => ⟨rfl, v, hr w' hw, rfl, hw.below⟩⟩)
end
end Go.Proofs.Ytedfbamihjnhhaa.Own
