/- Contracts that were proved by hand, as a table: the quotient of wide numbers. -/
/- A walk by reckoning: arguments that hold numbers and lists of rows of numbers. -/
import Derived.Test.YtedfbamihjnhhaaTbH
import Derived.Test.YtedfbamihjnhhaaDivX
import Derived.Test.YtedfbamihjnhhaaFvV
import Derived.WalkKit
import Derived.ProofKit
import Derived.OpenShut
import Derived.ChangeOld
import Derived.Below
section
namespace Go.Proofs.Ytedfbamihjnhhaa.Own
open Go Go.RowKit Go.Proofs Go.Proofs.Ytedfbamihjnhhaa.Plain
open Go.Proofs.Ytedfbamihjnhhaa.Limb (n2 n4)
set_option linter.unusedVariables false
set_option linter.unusedSimpArgs false
set_option maxRecDepth 100000
def kTw : Sh := .agg [some .u64, some .u64]
def kFo : Sh := .agg [some .u64, some .u64, some .u64, some .u64]
def divA (xs : List Int) : Nat := n4 (xs.getD 0 0) (xs.getD 1 0) (xs.getD 2 0) (xs.getD 3 0)
def divB (xs : List Int) : Nat := n2 (xs.getD 4 0) (xs.getD 5 0)
def gDiv (xs : List Int) : List Int := if divB xs = 0 then [0, 0, 0, 0, 0, 0, 0] else
 [(Four.of (divA xs / divB xs)).hi.hi, (Four.of (divA xs / divB xs)).hi.lo, (Four.of (divA xs / divB xs)).lo.hi, (Four.of (divA xs / divB xs)).lo.lo, (Two.of (divA xs % divB xs)).hi, (Two.of (divA xs % divB xs)).lo, 1]
theorem two_in (a : Two) : inK (some .u64) a.hi ∧ inK (some .u64) a.lo := by
 have := a.b
 constructor
 ·show IntKind.u64.wrap a.hi = a.hi; rw [IntKind.wrap_u64]; omega
 ·show IntKind.u64.wrap a.lo = a.lo; rw [IntKind.wrap_u64]; omega
theorem in6 {a b c d e f : Option IntKind} {xs : List Int} (h : InC [a, b, c, d, e, f] xs) : ∃ x0 x1 x2 x3 x4 x5, xs = [x0, x1, x2, x3, x4, x5] ∧ (inK a x0 ∧ inK b x1 ∧ inK c x2 ∧ inK d x3) ∧ inK e x4 ∧ inK f x5 := by
 match xs, h with
 | [x0, x1, x2, x3, x4, x5], h => exact ⟨x0, x1, x2, x3, x4, x5, rfl, ⟨h.1, h.2.1, h.2.2.1, h.2.2.2.1⟩, h.2.2.2.2.1, h.2.2.2.2.2.1⟩
theorem div_zero {a b c d : Int} (ha : inK (some .u64) a) (hb : inK (some .u64) b) (hc : inK (some .u64) c) (hd : inK (some .u64) d) : Pure Try.prog 142 #[.agg #[.int .u64 a, .int .u64 b, .int .u64 c, .int .u64 d], .agg #[.int .u64 0, .int .u64 0]] (.tuple #[.agg #[.int .u64 0, .int .u64 0, .int .u64 0, .int .u64 0], .agg #[.int .u64 0, .int .u64 0], .bool false]) := by
 have rel : ∀ (j : Nat) (x : Int), (envOf (FT []) [a, b, c, d]).iv j = x → inK (some .u64) x → RelC (eV (envOf (FT []) [a, b, c, d])) [] (.opq (.ivar .u64 j)) (.int .u64 x) := fun j x h hk => by
  have := rel_opq (e := envOf (FT []) [a, b, c, d]) (σ := []) (.ivar .u64 j)
  rw [eS_k (k := some .u64) rfl] at this
  have e : cellV (some .u64) ((SE.ivar .u64 j).val (envOf (FT []) [a, b, c, d])) = .int .u64 x := by
   simp only [SE.val, h]
   show Value.int .u64 (IntKind.u64.wrap x) = _
   rw [show IntKind.u64.wrap x = x from hk]
  rwa [e] at this
 exact pure_ev (c := cfT bW [] []) (d := 300) (vs := [.agg [.opq (.ivar .u64 0), .opq (.ivar .u64 1), .opq (.ivar .u64 2), .opq (.ivar .u64 3)], .agg [.int .u64 0, .int .u64 0]]) (v := .tup [.agg [.int .u64 0, .int .u64 0, .int .u64 0, .int .u64 0], .agg [.int .u64 0, .int .u64 0], .one (.bool false)]) (okT bW_ok bW_l tb_nil rfl .nil) (by kernel_rfl)
  (.cons (.agg (.cons (rel 0 a rfl ha) (.cons (rel 1 b rfl hb) (.cons (rel 2 c rfl hc) (.cons (rel 3 d rfl hd) .nil))))) (.cons (.agg (.cons .int (.cons .int .nil))) .nil))
  (.tup (.cons (.agg (.cons .int (.cons .int (.cons .int (.cons .int .nil))))) (.cons (.agg (.cons .int (.cons .int .nil))) (.cons (.one .bool) .nil))))
theorem cte_div : CTE Try.prog (fun xs => gDiv xs) 142 [kFo, kTw] (.tup [kFo, kTw, .one none]) := fun xs h => by
 obtain ⟨x0, x1, x2, x3, x4, x5, rfl, ⟨h0, h1, h2, h3⟩, h4, h5⟩ := in6 h
 have b0 := inK_u64 h0
 have b1 := inK_u64 h1
 have b2 := inK_u64 h2
 have b3 := inK_u64 h3
 have b4 := inK_u64 h4
 have b5 := inK_u64 h5
 show InC _ (gDiv _) ∧ Pure Try.prog _ _ (mkRes _ (gDiv _))
 unfold gDiv
 by_cases hz : divB [x0, x1, x2, x3, x4, x5] = 0
 ·rw [if_pos hz]
  have hz' : n2 x4 x5 = 0 := hz
  unfold n2 val2 at hz'
  obtain rfl : x4 = 0 := by omega
  obtain rfl : x5 = 0 := by omega
  exact ⟨⟨rfl, rfl, rfl, rfl, rfl, rfl, .inl rfl, trivial⟩, div_zero h0 h1 h2 h3⟩
 ·rw [if_neg hz]
  have hp := div_pure ⟨⟨x0, x1, by omega⟩, ⟨x2, x3, by omega⟩⟩ ⟨x4, x5, by omega⟩ hz
  obtain ⟨i1, i2⟩ := two_in (Four.of (divA [x0, x1, x2, x3, x4, x5] / divB [x0, x1, x2, x3, x4, x5])).hi
  obtain ⟨i3, i4⟩ := two_in (Four.of (divA [x0, x1, x2, x3, x4, x5] / divB [x0, x1, x2, x3, x4, x5])).lo
  obtain ⟨i5, i6⟩ := two_in (Two.of (divA [x0, x1, x2, x3, x4, x5] % divB [x0, x1, x2, x3, x4, x5]))
  exact ⟨⟨i1, i2, i3, i4, i5, i6, .inr rfl, trivial⟩, hp⟩
def twA (xs : List Int) : Nat := n2 (xs.getD 0 0) (xs.getD 1 0)
def twB (xs : List Int) : Nat := n2 (xs.getD 2 0) (xs.getD 3 0)
def gLadd (xs : List Int) : List Int := [(Two.of (twA xs + twB xs)).hi, (Two.of (twA xs + twB xs)).lo, b2i (decide (340282366920938463463374607431768211456 ≤ twA xs + twB xs))]
def gLsub (xs : List Int) : List Int := [(Two.of (twA xs + 340282366920938463463374607431768211456 - twB xs)).hi, (Two.of (twA xs + 340282366920938463463374607431768211456 - twB xs)).lo, b2i (decide (twA xs < twB xs))]
def gLen (xs : List Int) : List Int := [((blen (divA xs) : Nat) : Int)]
theorem b2i_in (b : Bool) : inK none (b2i b) := by cases b; exact .inl rfl; exact .inr rfl
theorem res_tb (t : Two) (d : Bool) : mkRes (.tup [kTw, .one none]) [t.hi, t.lo, b2i d] = .tuple #[t.v, .bool d] := by cases d <;> rfl
theorem tw_n {x y : Int} (h : 0 ≤ x ∧ x < 18446744073709551616 ∧ 0 ≤ y ∧ y < 18446744073709551616) : (⟨x, y, h⟩ : Two).n = n2 x y := rfl
theorem fo_n {x y z t : Int} (h : 0 ≤ x ∧ x < 18446744073709551616 ∧ 0 ≤ y ∧ y < 18446744073709551616) (h' : 0 ≤ z ∧ z < 18446744073709551616 ∧ 0 ≤ t ∧ t < 18446744073709551616) : (⟨⟨x, y, h⟩, ⟨z, t, h'⟩⟩ : Four).n = n4 x y z t := rfl
theorem cte_ladd : CTE Try.prog gLadd 66 [kTw, kTw] (.tup [kTw, .one none]) := fun xs h => by
 obtain ⟨x0, x1, x2, x3, rfl, h0, h1, h2, h3⟩ := in4 h
 have b0 := inK_u64 h0
 have b1 := inK_u64 h1
 have b2 := inK_u64 h2
 have b3 := inK_u64 h3
 have hp := add_pure ⟨x0, x1, by omega⟩ ⟨x2, x3, by omega⟩
 rw [tw_n, tw_n] at hp
 unfold gLadd
 rw [show twA [x0, x1, x2, x3] = n2 x0 x1 from rfl, show twB [x0, x1, x2, x3] = n2 x2 x3 from rfl]
 generalize decide (340282366920938463463374607431768211456 ≤ n2 x0 x1 + n2 x2 x3) = d at *
 generalize Two.of (n2 x0 x1 + n2 x2 x3) = t at *
 obtain ⟨i1, i2⟩ := two_in t
 refine ⟨⟨i1, i2, b2i_in _, trivial⟩, ?_⟩
 rw [res_tb]; exact hp
theorem cte_lsub : CTE Try.prog gLsub 69 [kTw, kTw] (.tup [kTw, .one none]) := fun xs h => by
 obtain ⟨x0, x1, x2, x3, rfl, h0, h1, h2, h3⟩ := in4 h
 have b0 := inK_u64 h0
 have b1 := inK_u64 h1
 have b2 := inK_u64 h2
 have b3 := inK_u64 h3
 have hp := sub_pure ⟨x0, x1, by omega⟩ ⟨x2, x3, by omega⟩
 rw [tw_n, tw_n] at hp
 unfold gLsub
 rw [show twA [x0, x1, x2, x3] = n2 x0 x1 from rfl, show twB [x0, x1, x2, x3] = n2 x2 x3 from rfl]
 generalize decide (n2 x0 x1 < n2 x2 x3) = d at *
 generalize Two.of (n2 x0 x1 + 340282366920938463463374607431768211456 - n2 x2 x3) = t at *
 obtain ⟨i1, i2⟩ := two_in t
 refine ⟨⟨i1, i2, b2i_in _, trivial⟩, ?_⟩
 rw [res_tb]; exact hp
theorem cte_len : CTE Try.prog gLen 97 [kFo] (.one (.one (some .i64))) := fun xs h => by
 obtain ⟨x0, x1, x2, x3, rfl, h0, h1, h2, h3⟩ := in4 h
 have b0 := inK_u64 h0
 have b1 := inK_u64 h1
 have b2 := inK_u64 h2
 have b3 := inK_u64 h3
 have hp := len_pure ⟨⟨x0, x1, by omega⟩, ⟨x2, x3, by omega⟩⟩
 have hlt := Four.lt ⟨⟨x0, x1, by omega⟩, ⟨x2, x3, by omega⟩⟩
 rw [fo_n] at hp hlt
 unfold gLen
 rw [show divA [x0, x1, x2, x3] = n4 x0 x1 x2 x3 from rfl]
 have h256 : blen (n4 x0 x1 x2 x3) ≤ 256 := (blen_le _ _).2 (by simpa using hlt)
 generalize blen (n4 x0 x1 x2 x3) = n at *
 refine ⟨⟨?_, trivial⟩, hp⟩
 show IntKind.i64.wrap ((n : Nat) : Int) = _
 rw [IntKind.wrap_i64]; omega
def TbD_T : List Ent := ⟨142, [kFo, kTw], .tup [kFo, kTw, .one none], fun _ xs => gDiv xs, false⟩ :: ⟨66, [kTw, kTw], .tup [kTw, .one none], fun _ => gLadd, false⟩ :: ⟨69, [kTw, kTw], .tup [kTw, .one none], fun _ => gLsub, false⟩ :: ⟨97, [kFo], .one (.one (some .i64)), fun _ => gLen, false⟩ :: TbH_T
theorem TbD_ok : TbOK Try.prog TbD_T := tb_cons (tb_cons (tb_cons (tb_cons TbH_ok rfl (by kernel_rfl) cte_len) rfl (by kernel_rfl) cte_lsub) rfl (by kernel_rfl) cte_ladd) rfl (by kernel_rfl) cte_div
end Go.Proofs.Ytedfbamihjnhhaa.Own
end
section
namespace Go.Proofs.Ytedfbamihjnhhaa.Own
open Go Go.RowKit Go.Proofs Go.ChangeShapes Go.WideShapes Go.ChangeAt
set_option linter.unusedVariables false
set_option linter.unusedSimpArgs false
inductive Lf where
 | num (k : Option IntKind)
 | sl (e : TypeId) (ks : Ks)
 deriving DecidableEq
def numsL : List Lf → Option Ks
 | [] => some []
 | .num k :: r => (match numsL r with | some l => some (k :: l) | none => none)
 | .sl _ _ :: _ => none
def joinF (P : Program) (g : TypeId → Option (List Lf)) : Nat → List Field → Option (List Lf)
 | _, [] => some []
 | o, f :: r => (match g f.type with
  | some l => bif decide (f.offset = o) && decide (P.cellsOf f.type = l.length) then (match joinF P g (o + l.length) r with | some m => some (l ++ m) | none => none) else none
  | none => none)
def lfOf (P : Program) : Nat → TypeId → Option (List Lf)
 | 0, _ => none
 | d + 1, t => match P.underlying t with
  | some (.int k) => some [.num (some k)]
  | some .bool => some [.num none]
  | some (.slice e) => (match lfOf P d e with
   | some l => (match numsL l with | some ks => bif decide (P.cellsOf e = ks.length) then some [.sl e ks] else none | none => none)
   | none => none)
  | some (.struct fs) => (match joinF P (lfOf P d) 0 fs.toList with | some l => bif decide (P.cellsOf t = l.length) then some l else none | none => none)
  | _ => none
structure SlR (w : World) (ks : Ks) (v : Value) (rows : List (List Int)) (s : Nat × Nat × Nat) : Prop where
 v : v = slV rows.length s.1 s.2.1 s.2.2
 n : s.2.2 = 0 → rows = []
 l : rows.length ≤ maxLen
 c : ∀ j u, (flatL ks rows)[j]? = some u → s.1 < w.heap.size ∧ w.cell? ⟨s.1, s.2.1 + j, none⟩ = some u
inductive LfsOK (w : World) : List Lf → List Value → List Int → List (Nat × Nat × Nat) → Prop where
 | nil : LfsOK w [] [] [] []
 | num {k x ls cs xs ss} (h : inK k x) (t : LfsOK w ls cs xs ss) : LfsOK w (.num k :: ls) (cellV k x :: cs) (x :: xs) ss
 | sl {e ks v rows s ls cs xs ss} (h : SlR w ks v rows s) (t : LfsOK w ls cs xs ss) : LfsOK w (.sl e ks :: ls) (v :: cs) (enc rows :: xs) (s :: ss)
theorem LfsOK.app {w : World} : ∀ {ls ls' : List Lf} {cs cs' : List Value} {xs xs' : List Int} {ss ss' : List (Nat × Nat × Nat)}, LfsOK w ls cs xs ss → LfsOK w ls' cs' xs' ss' → LfsOK w (ls ++ ls') (cs ++ cs') (xs ++ xs') (ss ++ ss')
 | _, _, _, _, _, _, _, _, .nil, h => h
 | _, _, _, _, _, _, _, _, .num h t, h' => .num h (LfsOK.app t h')
 | _, _, _, _, _, _, _, _, .sl h t, h' => .sl h (LfsOK.app t h')
theorem LfsOK.len {w : World} : ∀ {ls : List Lf} {cs : List Value} {xs : List Int} {ss : List (Nat × Nat × Nat)}, LfsOK w ls cs xs ss → xs.length = ls.length ∧ cs.length = ls.length
 | _, _, _, _, .nil => ⟨rfl, rfl⟩
 | _, _, _, _, .num h t => by have := t.len; simp [this]
 | _, _, _, _, .sl h t => by have := t.len; simp [this]
theorem LfsOK.nums {w : World} : ∀ {ls : List Lf} {ks : Ks} {cs : List Value} {xs : List Int} {ss : List (Nat × Nat × Nat)}, numsL ls = some ks → LfsOK w ls cs xs ss → InC ks xs ∧ ∀ (j : Nat) (el : List Int), (∀ i, i < xs.length → el.getD (j + i) 0 = xs.getD i 0) → rowV ks j el = cs
 | [], ks, _, _, _, h, hl => by cases h; cases hl; exact ⟨trivial, fun _ _ _ => rfl⟩
 | .num k :: ls, ks, cs, xs, ss, h, hl => by
  cases hl with | num hk t =>
  simp only [numsL] at h
  split at h
  ·rename_i l hl; cases h
   obtain ⟨h1, h2⟩ := LfsOK.nums hl t
   refine ⟨⟨hk, h1⟩, fun j el he => ?_⟩
   have e0 := he 0 (by simp)
   simp only [Nat.add_zero, List.getD_cons_zero] at e0
   rw [rowV, e0, wrK_in hk, h2 (j + 1) el fun i hi => by
    have := he (i + 1) (by simp; omega)
    rw [show j + 1 + i = j + (i + 1) by omega]; simpa using this]
  ·cases h
 | .sl _ _ :: _, ks, _, _, _, h, _ => by cases h
theorem numsL_app : ∀ {a b : List Lf}, (numsL (a ++ b)).isSome = true → (numsL a).isSome = true ∧ (numsL b).isSome = true
 | [], b, h => ⟨rfl, h⟩
 | .num k :: a, b, h => by
  simp only [List.cons_append, numsL] at h ⊢
  cases hn : numsL (a ++ b) with
  | none => rw [hn] at h; cases h
  | some l =>
   obtain ⟨h1, h2⟩ := numsL_app (a := a) (b := b) (by rw [hn]; rfl)
   refine ⟨?_, h2⟩
   cases ha : numsL a with
   | none => rw [ha] at h1; cases h1
   | some l => rfl
 | .sl _ _ :: a, b, h => by cases h
theorem wf_in {k : IntKind} {n : Int} (h : (Lit.int k n).wf = true) : k.wrap n = n := by
 simp only [Lit.wf, Bool.and_eq_true, decide_eq_true_eq] at h
 obtain ⟨h1, h2⟩ := h
 cases k <;> simp only [IntKind.min, IntKind.max, IntKind.wrap, IntKind.bits, IntKind.signed] at h1 h2 ⊢ <;> simp at h1 h2 ⊢ <;> (try split) <;> omega
def spotOK (v : Value) : Prop := ∀ a n c, v = .slice (some a) n c → a.spot = none
section
variable {H : Type} {enc' : TypeId × Value → H} {P : Program} {w : World} {base : Nat} {sp : Nat → Bool} {held : Bool}
theorem cells?_get {a : Addr} {n : Nat} {cs : List Value} (h : w.cells? base a n = some cs) : cs.length = n ∧ ∀ i, i < n → w.cell? (a.add i) = cs[i]? := by
 have := World.cells?_some h
 exact ⟨this.2.1, this.2.2⟩
theorem rows_of {ks : Ks} {a : Addr} : ∀ (n : Nat), (∀ i, i < n → ∃ row : List Int, ∀ r, r < ks.length → w.cell? (a.add (i * ks.length + r)) = (rowV ks 0 row)[r]?) → ∃ rows : List (List Int), rows.length = n ∧ ∀ j u, (flatL ks rows)[j]? = some u → w.cell? (a.add j) = some u
 | 0, _ => ⟨[], rfl, fun j u h => by simp [flatL] at h⟩
 | n + 1, h => by
  obtain ⟨rows, h1, h2⟩ := rows_of n fun i hi => h i (by omega)
  obtain ⟨row, hr⟩ := h n (by omega)
  refine ⟨rows ++ [row], by simp [h1], fun j u hj => ?_⟩
  rw [flatL_app, flatL_cons, show flatL ks [] = [] from rfl, List.append_nil] at hj
  by_cases hjl : j < (flatL ks rows).length
  ·rw [List.getElem?_append_left hjl] at hj; exact h2 j u hj
  ·rw [List.getElem?_append_right (by omega)] at hj
   have hl := flatL_len ks rows
   rw [h1] at hl
   have hjr : j - (flatL ks rows).length < ks.length := by have := (List.getElem?_eq_some_iff.1 hj).1; rwa [rowV_len] at this
   have := hr (j - (flatL ks rows).length) hjr
   rw [hj, hl] at this
   rw [show n * ks.length + (j - n * ks.length) = j by omega] at this
   exact this
theorem trod_lf : ∀ (d : Nat) {t : TypeId} {ls : List Lf} {fuel : Nat} {cs : List Value} {x : DataW H × List MemPlace}, lfOf P d t = some ls → DataW.trod enc' P w base sp held fuel t cs = some x → ((numsL ls).isSome = true ∨ ∀ v ∈ cs, spotOK v) → ∃ xs ss, LfsOK w ls cs xs ss
 | 0, _, _, _, _, _, h, _, _ => by cases h
 | d + 1, t, ls, fuel, cs, x, h, ht, hs => by
  unfold lfOf at h
  split at h
  ·rename_i k hu; cases h
   obtain ⟨n, rfl, _, hw⟩ := DataW.trod_int hu ht
   exact ⟨[n], [], .num (k := some k) (wf_in hw) .nil⟩
  ·rename_i hu; cases h
   obtain ⟨b, rfl, _⟩ := DataW.trod_bool hu ht
   have e : Value.bool b = cellV none (b2i b) := by simp only [cellV, b2i_ne]
   rw [e]
   exact ⟨[b2i b], [], .num (k := none) (by cases b; exact .inl rfl; exact .inr rfl) .nil⟩
  ·rename_i e hu
   split at h
   ·rename_i l hl
    split at h
    ·rename_i ks hks
     cases hb : decide (P.cellsOf e = ks.length) with
     | false => rw [hb, cond_false] at h; cases h
     | true =>
      rw [hb, cond_true] at h; cases h
      have hsz := of_decide_eq_true hb
      rcases DataW.trod_slice hu ht with ⟨rfl, _⟩ | ⟨a, len, cap, elems, rest, n, _, rfl, _, _, hle, hcm, hlen, hel, _⟩
      ·refine ⟨[enc []], [(0, 0, 0)], .sl (rows := []) ⟨rfl, fun _ => rfl, Nat.zero_le _, fun j u hj => by simp [flatL] at hj⟩ .nil⟩
      ·have hspot : a.spot = none := by
        rcases hs with hs | hs
        ·cases hs
        ·exact hs _ (.head _) a len cap rfl
       have ha : ∀ j, a.add j = ⟨a.block, a.off + j, none⟩ := fun j => by
        cases a; simp only at hspot; subst hspot; exact add_cell _ _ _
       obtain ⟨rows, r1, r2⟩ := rows_of (w := w) (ks := ks) (a := a) len fun i hi => by
        have := hel i hi
        have hsome : ∃ y, elems[i]? = some y := ⟨_, List.getElem?_eq_getElem (by omega)⟩
        obtain ⟨y, hy⟩ := hsome
        rw [hy, Option.bind_eq_some_iff] at this
        obtain ⟨ecs, c1, c2⟩ := this
        rw [hsz] at c1
        obtain ⟨g1, g2⟩ := cells?_get c1
        obtain ⟨xs, ss, hlf⟩ := trod_lf d hl c2 (.inl (by rw [hks]; rfl))
        obtain ⟨_, q2⟩ := LfsOK.nums hks hlf
        refine ⟨xs, fun r hr => ?_⟩
        have q3 := q2 0 xs fun i _ => by rw [Nat.zero_add]
        rw [q3]
        have := g2 r hr
        have e3 : a.add (i * ks.length + r) = (a.add (i * ks.length)).add r := by rw [ha, ha, add_cell, Nat.add_assoc]
        rw [e3]; exact this
       refine ⟨[enc rows], [(a.block, a.off, 2 * cap + 1)], .sl (rows := rows) ⟨?_, fun q => by simp at q, by omega, fun j u hj => ?_⟩ .nil⟩
       ·unfold slV
        rw [if_neg (by simp), r1]
        have e1 : (2 * cap + 1) / 2 = cap := by omega
        have e2 : a = ⟨a.block, a.off, none⟩ := by cases a; simp only at hspot; subst hspot; rfl
        simp only [e1]
        rw [← e2]
       ·have := r2 j u hj
        rw [ha] at this
        exact ⟨World.block_lt_of_cell? w ⟨a.block, a.off + j, none⟩ this, this⟩
    ·cases h
   ·cases h
  ·rename_i fs hu
   obtain ⟨xs, n, _, _, hl, hlen, hf⟩ := DataW.trod_struct hu ht
   split at h
   rotate_left
   ·cases h
   rename_i l0 h0
   cases hbc : decide (P.cellsOf t = l0.length) with
   | false => rw [hbc, cond_false] at h; cases h
   | true =>
   rw [hbc, cond_true] at h; cases h
   have hcell := of_decide_eq_true hbc
   have key : ∀ (r : List Field) (o : Nat) (ls : List Lf), joinF P (lfOf P d) o r = some ls → ((numsL ls).isSome = true ∨ ∀ v ∈ cs, spotOK v) → (∀ f ∈ r, ∃ y, DataW.trod enc' P w base sp held n f.type ((cs.drop f.offset).take (P.cellsOf f.type)) = some y) → ∃ xs ss, LfsOK w ls ((cs.drop o).take ls.length) xs ss := by
    intro r
    induction r with
    | nil => intro o ls h _ _; cases h; exact ⟨[], [], by simpa using .nil⟩
    | cons f r ih =>
     intro o ls h hs hy
     simp only [joinF] at h
     split at h
     ·rename_i l hl2
      cases hb : (decide (f.offset = o) && decide (P.cellsOf f.type = l.length)) with
      | false => rw [hb, cond_false] at h; cases h
      | true =>
       rw [hb, cond_true] at h
       simp only [Bool.and_eq_true, decide_eq_true_eq] at hb
       obtain ⟨h1, h2⟩ := hb
       split at h
       ·rename_i m hm
        cases h
        obtain ⟨y, hy1⟩ := hy f (.head _)
        rw [h1, h2] at hy1
        obtain ⟨x1, s1, q1⟩ := trod_lf d hl2 hy1 (hs.imp (fun q => (numsL_app q).1) fun q v hv => q v (List.mem_of_mem_drop (List.mem_of_mem_take hv)))
        obtain ⟨x2, s2, q2⟩ := ih _ m hm (hs.imp (fun q => (numsL_app q).2) id) fun f hf => hy f (.tail _ hf)
        refine ⟨x1 ++ x2, s1 ++ s2, ?_⟩
        have := q1.app q2
        rw [← List.drop_drop] at this
        rw [List.length_append, List.take_add]
        exact this
       ·cases h
     ·cases h
   obtain ⟨xs', ss, hq⟩ := key fs.toList 0 ls h0 hs fun f hm => by
    obtain ⟨i, hi⟩ := List.getElem?_of_mem hm
    have hi2 : fs[i]? = some f := by simpa using hi
    have := hf i f hi2
    have hil : i < xs.length := by rw [hlen]; exact (Array.getElem?_eq_some_iff.1 hi2).1
    exact ⟨_, by rw [this]; exact List.getElem?_eq_getElem hil⟩
   have hcl : cs.length = ls.length := by rw [hl, hcell]
   rw [List.drop_zero, List.take_of_length_le (by omega)] at hq
   exact ⟨xs', ss, hq⟩
  ·cases h
end
/-! ### arguments as terms -/
def symL : List Lf → Nat → Nat → List C
 | [], _, _ => []
 | .num (some q) :: r, j, k => .opq (.ivar q j) :: symL r (j + 1) k
 | .num none :: r, j, k => .opq (.bvar j) :: symL r (j + 1) k
 | .sl _ _ :: r, j, k => .sli k (.lvar j) :: symL r (j + 1) (k + 1)
def symF : List Lf → Nat → Nat → MB
 | [], _, _ => []
 | .num _ :: r, j, k => symF r (j + 1) k
 | .sl e ks :: r, j, k => (k, [.big (.lvar j) ks], e, false) :: symF r (j + 1) (k + 1)
section
variable {E : Env} {σ : List (Nat × Nat × Nat)} {P : Program} {w : World}
theorem fr_big {k : Nat} {x : SE} {ks : Ks} {T : TypeId} {m : MB} (h : FR P E σ [m] w) {g b c : Nat} (hk : σ[k]? = some (g, b, c)) (hl : (x.lst E).length ≤ maxLen) (h0 : c = 0 → x.lst E = []) (hc : ∀ (j : Nat) (v : Value), (flatL ks (x.lst E))[j]? = some v → g < w.heap.size ∧ w.cell? ⟨g, b + j, none⟩ = some v) :
  FR P E σ [(k, [.big x ks], T, false) :: m] w := by
 refine ⟨fun k' cs T' o hk' => ?_, fun k' y ks' T' hk' => ?_⟩
 ·simp only [lkM, lkB, isBig, cond_true] at hk'
  cases hb : Nat.beq k k' with
  | true => simp only [hb, cond_true] at hk'; cases hk'
  | false => simp only [hb, cond_false] at hk'; exact h.n k' cs T' o (by simp only [lkM]; exact hk')
 ·simp only [lkLM, lkL] at hk'
  cases hb : Nat.beq k k' with
  | true =>
   simp only [hb, cond_true, Option.some.injEq, Prod.mk.injEq] at hk'
   obtain ⟨rfl, rfl, rfl⟩ := hk'
   rw [← Nat.eq_of_beq_eq_true hb]
   exact ⟨g, b, c, hk, hl, h0, hc⟩
  | false => simp only [hb, cond_false] at hk'; exact h.l k' y ks' T' (by simp only [lkLM]; exact hk')
theorem symL_rel : ∀ {ls : List Lf} {cs : List Value} {xs : List Int} {ss : List (Nat × Nat × Nat)}, LfsOK w ls cs xs ss → ∀ (j k : Nat), (∀ i, i < xs.length → E.iv (j + i) = xs.getD i 0 ∧ E.bv (j + i) = (xs.getD i 0 != 0)) → (∀ i x, ss[i]? = some x → σ[k + i]? = some x) → RelCs E σ (symL ls j k) cs ∧ FR P E σ [symF ls j k] w
 | _, _, _, _, .nil, j, k, _, _ => ⟨.nil, ⟨fun _ _ _ _ h => (by cases h), fun _ _ _ _ h => (by cases h)⟩⟩
 | _, _, _, _, .num (k := q) (x := x) hq t, j, k, hx, hs => by
  obtain ⟨h1, h2⟩ := symL_rel t (j + 1) k (fun i hi => by
   have := hx (i + 1) (by simp; omega)
   rw [show j + 1 + i = j + (i + 1) by omega]; simpa using this) hs
  have h0 := hx 0 (by simp)
  simp only [Nat.add_zero, List.getD_cons_zero] at h0
  cases q with
  | some q =>
   have := rel_opq (e := E) (σ := σ) (.ivar q j)
   have e : eS E (.ivar q j) = cellV (some q) x := by
    rw [eS_k (k := some q) rfl]; simp only [SE.val, h0.1]; rw [show q.wrap x = x from hq]
   rw [e] at this
   exact ⟨.cons this h1, h2⟩
  | none =>
   have := rel_opq (e := E) (σ := σ) (.bvar j)
   have e : eS E (.bvar j) = cellV none x := by
    rw [eS_k (k := none) rfl]; simp only [SE.val, h0.2, cellV, b2i_ne]
   rw [e] at this
   exact ⟨.cons this h1, h2⟩
 | _, _, _, _, .sl (e := e) (ks := ks) (rows := rows) (s := s) hq t, j, k, hx, hs => by
  obtain ⟨h1, h2⟩ := symL_rel t (j + 1) (k + 1) (fun i hi => by
   have := hx (i + 1) (by simp; omega)
   rw [show j + 1 + i = j + (i + 1) by omega]; simpa using this) (fun i x hi => by
   rw [show k + 1 + i = k + (i + 1) by omega]; exact hs (i + 1) x (by simpa using hi))
  have h0 := hx 0 (by simp)
  simp only [Nat.add_zero, List.getD_cons_zero] at h0
  have hk := hs 0 s rfl
  rw [Nat.add_zero] at hk
  have hl : (SE.lvar j).lst E = rows := by simp only [SE.lst, SE.val, h0.1, dec_enc]
  have := RelC.sli (e := E) (x := .lvar j) (σ := σ) (k := k) (g := s.1) (b := s.2.1) (c := s.2.2) hk
  rw [hl, sat_of hq.l, ← hq.v] at this
  exact ⟨.cons this h1, fr_big h2 hk (by rw [hl]; exact hq.l) (fun q => by rw [hl]; exact hq.n q) (fun i v hi => by rw [hl] at hi; exact hq.c i v hi)⟩
end
/-! ### a law as a tree of questions -/
inductive LT where
 | done
 | ask (x : SE) (t e : LT)
 | know (x : SE) (b : Bool) (t : LT)
def LT.ok (E : Env) : LT → Prop
 | .done => True
 | .ask x t e => ((x.val E != 0) = true → t.ok E) ∧ ((x.val E != 0) = false → e.ok E)
 | .know x b t => (x.val E != 0) = b ∧ t.ok E
theorem isBool_ty {x : SE} (h : isBool x = true) : x.ty = some none := by
 unfold isBool at h
 split at h
 ·assumption
 ·cases h
end Go.Proofs.Ytedfbamihjnhhaa.Own
end
