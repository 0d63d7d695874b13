/- A walk by reckoning: terms, and what they are worth; lists are told by whole numbers. -/
import Derived.Test.YtedfbamihjnhhaaEv0
import Derived.Laws.Bits64
import Derived.Laws.BitsAllLaws
namespace Go.Proofs.Ytedfbamihjnhhaa.Own
open Go Go.RowKit
set_option linter.unusedVariables false
set_option linter.unusedSimpArgs false
/-! ### lists of rows of whole numbers, as whole numbers -/
def pr (a b : Nat) : Nat := 2 ^ a * (2 * b + 1)
theorem pr_pos (a b : Nat) : 0 < pr a b := Nat.mul_pos (Nat.pow_pos (by decide)) (by omega)
theorem pr_inj : ∀ {a c b d : Nat}, pr a b = pr c d → a = c ∧ b = d
 | 0, 0, b, d, h => by simp only [pr, Nat.pow_zero, Nat.one_mul] at h; exact ⟨rfl, by omega⟩
 | 0, c + 1, b, d, h => by
  simp only [pr, Nat.pow_zero, Nat.one_mul, Nat.pow_succ] at h
  have : 2 ^ c * 2 * (2 * d + 1) = 2 * (2 ^ c * (2 * d + 1)) := by rw [Nat.mul_comm (2 ^ c) 2, Nat.mul_assoc]
  omega
 | a + 1, 0, b, d, h => by
  simp only [pr, Nat.pow_zero, Nat.one_mul, Nat.pow_succ] at h
  have : 2 ^ a * 2 * (2 * b + 1) = 2 * (2 ^ a * (2 * b + 1)) := by rw [Nat.mul_comm (2 ^ a) 2, Nat.mul_assoc]
  omega
 | a + 1, c + 1, b, d, h => by
  have e : ∀ x y : Nat, pr (x + 1) y = 2 * pr x y := fun x y => by simp only [pr, Nat.pow_succ]; rw [Nat.mul_comm (2 ^ x) 2, Nat.mul_assoc]
  rw [e, e] at h
  obtain ⟨h1, h2⟩ := pr_inj (Nat.eq_of_mul_eq_mul_left (by decide) h)
  exact ⟨by rw [h1], h2⟩
def encN : List Nat → Nat
 | [] => 0
 | a :: l => pr a (encN l)
theorem encN_inj : ∀ {x y : List Nat}, encN x = encN y → x = y
 | [], [], _ => rfl
 | [], a :: l, h => by have := pr_pos a (encN l); simp only [encN] at h; omega
 | a :: l, [], h => by have := pr_pos a (encN l); simp only [encN] at h; omega
 | a :: l, b :: m, h => by
  obtain ⟨h1, h2⟩ := pr_inj h
  rw [h1, encN_inj h2]
def zig : Int → Nat
 | .ofNat n => 2 * n
 | .negSucc n => 2 * n + 1
theorem zig_inj : ∀ {x y : Int}, zig x = zig y → x = y
 | .ofNat a, .ofNat b, h => by simp only [zig] at h; congr 1; omega
 | .negSucc a, .negSucc b, h => by simp only [zig] at h; congr 1; omega
 | .ofNat a, .negSucc b, h => by simp only [zig] at h; omega
 | .negSucc a, .ofNat b, h => by simp only [zig] at h; omega
theorem map_inj {α β : Type} {f : α → β} (hf : ∀ {x y}, f x = f y → x = y) : ∀ {l m : List α}, l.map f = m.map f → l = m
 | [], [], _ => rfl
 | [], _ :: _, h => by cases h
 | _ :: _, [], h => by cases h
 | a :: l, b :: m, h => by
  simp only [List.map_cons, List.cons.injEq] at h
  rw [hf h.1, map_inj hf h.2]
def encR (l : List Int) : Nat := encN (l.map zig)
def enc (l : List (List Int)) : Int := (encN (l.map encR) : Int)
theorem enc_inj {l m : List (List Int)} (h : enc l = enc m) : l = m := by
 have h1 : encN (l.map encR) = encN (m.map encR) := by unfold enc at h; omega
 exact map_inj (fun {x y} hxy => map_inj zig_inj (encN_inj hxy)) (encN_inj h1)
open Classical in
noncomputable def dec (n : Int) : List (List Int) := if h : ∃ l, enc l = n then Classical.choose h else []
theorem dec_enc (l : List (List Int)) : dec (enc l) = l := by
 have h : ∃ m, enc m = enc l := ⟨l, rfl⟩
 unfold dec
 rw [dif_pos h]
 exact enc_inj (Classical.choose_spec h)
/-! ### terms -/
abbrev Ks := List (Option IntKind)
inductive SE where
 | ivar (k : IntKind) (i : Nat)
 | bvar (i : Nat)
 | lit (k : IntKind) (n : Int)
 | bin (op : BinOp) (k : IntKind) (a b : SE)
 | cmp (op : BinOp) (a b : SE)
 | and (a b : SE)
 | mx (k : IntKind) (a b : SE)
 | mn (k : IntKind) (a b : SE)
 | conv (k : IntKind) (a : SE)
 | not (a : SE)
 | app (f i : Nat) (k : Option IntKind) (as : SE)
 | nil
 | cons (a as : SE)
 | len (x : SE)
 | el (k : Option IntKind) (x i : SE) (j : Nat)
 | seq (x y : SE)
 | lvar (i : Nat)
 | lap (f i : Nat) (as : SE)
 | lnil
 | lcat (x y : SE)
 | lone (as : SE)
 | lset (x i : SE) (off : Nat) (as : SE)
 | lrep (n as : SE)
 | ltk (x n : SE)
 | ldr (x n : SE)
 | lbs (l : List Nat)
 deriving DecidableEq
def b2i (b : Bool) : Int := bif b then 1 else 0
theorem b2i_ne (b : Bool) : (b2i b != 0) = b := by cases b <;> rfl
def valBin (op : BinOp) (k : IntKind) (x y : Int) : Int :=
 match op with
 | .add => k.wrap (x + y)
 | .sub => k.wrap (x - y)
 | .mul => k.wrap (x * y)
 | .and => k.wrap (bits .and k x y)
 | .or => k.wrap (bits .or k x y)
 | .xor => k.wrap (bits .xor k x y)
 | .shl => k.wrap (x * 2 ^ (min y.toNat k.bits))
 | .shr => k.wrap (x.fdiv (2 ^ (min y.toNat k.bits)))
 | .quo => k.wrap (x.tdiv y)
 | .rem => k.wrap (x.tmod y)
 | _ => 0
def valCmp (op : BinOp) (x y : Int) : Bool :=
 match op with
 | .eql => x == y
 | .neq => x != y
 | .lss => decide (x < y)
 | .leq => decide (x ≤ y)
 | .gtr => decide (x > y)
 | .geq => decide (x ≥ y)
 | _ => false
def wrK (k : Option IntKind) (x : Int) : Int := match k with
 | some k => k.wrap x
 | none => b2i (x != 0)
def cellV (k : Option IntKind) (x : Int) : Value := match k with
 | some k => .int k x
 | none => .bool (x != 0)
def inK : Option IntKind → Int → Prop
 | some k, x => k.wrap x = x
 | none, x => x = 0 ∨ x = 1
def InC : Ks → List Int → Prop
 | [], [] => True
 | k :: ks, x :: xs => inK k x ∧ InC ks xs
 | _, _ => False
def rowV : Ks → Nat → List Int → List Value
 | [], _, _ => []
 | k :: ks, j, el => cellV k (wrK k (el.getD j 0)) :: rowV ks (j + 1) el
def flatL (ks : Ks) (l : List (List Int)) : List Value := l.flatMap (rowV ks 0)
def sat (n : Nat) : Nat := bif Nat.ble n maxLen then n else maxLen
def setRow (el : List Int) (off : Nat) (as : List Int) : List Int := (List.range (max el.length (off + as.length))).map fun j => if off ≤ j ∧ j < off + as.length then as.getD (j - off) 0 else el.getD j 0
def setL (l : List (List Int)) (i off : Nat) (as : List Int) : List (List Int) := l.set i (setRow (l.getD i []) off as)
def bytesOf (l : List (List Int)) : ByteArray := ⟨(l.map fun el => UInt8.ofNat (IntKind.u8.wrap (el.getD 0 0)).toNat).toArray⟩
structure Env where
 iv : Nat → Int
 bv : Nat → Bool
 F : Nat → Nat → List Int → Int
 pv : Nat → Value
 pv1 : ∀ i, oneC (pv i) = true
 av : Nat → Value := fun _ => .bool false
 fr : List Blk := []
def SE.ty : SE → Option (Option IntKind)
 | .ivar k _ | .lit k _ | .bin _ k _ _ | .conv k _ | .mx k _ _ | .mn k _ _ => some (some k)
 | .app _ _ k _ | .el k _ _ _ => some k
 | .len _ => some (some .i64)
 | .bvar _ | .cmp _ _ _ | .and _ _ | .not _ | .seq _ _ => some none
 | _ => none
mutual
noncomputable def SE.val (E : Env) : SE → Int
 | .ivar k i => k.wrap (E.iv i)
 | .bvar i => b2i (E.bv i)
 | .lit k n => k.wrap n
 | .bin op k a b => valBin op k (a.val E) (b.val E)
 | .cmp op a b => b2i (valCmp op (a.val E) (b.val E))
 | .and a b => b2i (a.val E != 0 && b.val E != 0)
 | .mx k a b => k.wrap (bif decide (b.val E > a.val E) then b.val E else a.val E)
 | .mn k a b => k.wrap (bif decide (b.val E < a.val E) then b.val E else a.val E)
 | .conv k a => k.wrap (a.val E)
 | .not a => b2i (!(a.val E != 0))
 | .app f i k as => wrK k (E.F f i (as.vals E))
 | .nil => 0
 | .cons _ _ => 0
 | .len x => ((sat (dec (x.val E)).length : Nat) : Int)
 | .el k x i j => wrK k (((dec (x.val E)).getD (i.val E).toNat []).getD j 0)
 | .seq x y => b2i (decide (bytesOf (dec (x.val E)) = bytesOf (dec (y.val E))))
 | .lvar i => E.iv i
 | .lap f i as => E.F f i (as.vals E)
 | .lnil => enc []
 | .lcat x y => enc (dec (x.val E) ++ dec (y.val E))
 | .lone as => enc [as.vals E]
 | .lset x i off as => enc (setL (dec (x.val E)) (i.val E).toNat off (as.vals E))
 | .lrep n as => enc (List.replicate (n.val E).toNat (as.vals E))
 | .ltk x n => enc ((dec (x.val E)).take (n.val E).toNat)
 | .ldr x n => enc ((dec (x.val E)).drop (n.val E).toNat)
 | .lbs l => enc (l.map fun b => [Int.ofNat b])
noncomputable def SE.vals (E : Env) : SE → List Int
 | .cons a as => a.val E :: as.vals E
 | _ => []
end
noncomputable def SE.lst (E : Env) (x : SE) : List (List Int) := dec (x.val E)
noncomputable def eS (E : Env) (x : SE) : Value := match x.ty with
 | some (some k) => .int k (x.val E)
 | some none => .bool (x.val E != 0)
 | none => .bool false
abbrev Vl := Env
noncomputable abbrev Env.s (E : Env) (x : SE) : Value := eS E x
abbrev Env.v (E : Env) (i : Nat) : Value := E.pv i
abbrev eV (E : Env) : Vl := E
theorem eS_one (E : Env) (x : SE) : oneC (eS E x) = true := by unfold eS; split <;> rfl
theorem wrap_wrap (k : IntKind) (n : Int) : k.wrap (k.wrap n) = k.wrap n := by
 cases k <;> simp only [IntKind.wrap, IntKind.bits, IntKind.signed] <;> simp <;> split <;> omega
theorem sat_le (n : Nat) : sat n ≤ maxLen := by
 unfold sat
 cases h : Nat.ble n maxLen with
 | true => exact Nat.le_of_ble_eq_true h
 | false => exact Nat.le_refl _
theorem sat_of {n : Nat} (h : n ≤ maxLen) : sat n = n := by unfold sat; rw [Nat.ble_eq_true_of_le h]; rfl
theorem sat_min (n : Nat) : sat n ≤ n := by
 unfold sat
 cases h : Nat.ble n maxLen with
 | true => exact Nat.le_refl _
 | false =>
  have : ¬ n ≤ maxLen := fun q => by rw [Nat.ble_eq_true_of_le q] at h; cases h
  show maxLen ≤ n
  omega
theorem sat_small {n m : Nat} (h : sat n ≤ m) (hm : m < maxLen) : n ≤ m := by
 unfold sat at h
 cases hb : Nat.ble n maxLen with
 | true => rw [hb] at h; exact h
 | false => rw [hb] at h; simp only [cond_false] at h; omega
theorem i64_nat {n : Nat} (h : n ≤ maxLen) : IntKind.i64.wrap (n : Int) = (n : Int) := by
 unfold maxLen at h
 rw [IntKind.wrap_i64]; omega
theorem val_len (E : Env) (x : SE) : (SE.len x).val E = ((sat (x.lst E).length : Nat) : Int) := by simp only [SE.val, SE.lst]
theorem val_wrap (E : Env) {x : SE} {k : IntKind} (h : x.ty = some (some k)) : k.wrap (x.val E) = x.val E := by
 cases x <;> simp only [SE.ty, Option.some.injEq, reduceCtorEq] at h
 case ivar => subst h; simp only [SE.val]; exact wrap_wrap _ _
 case lit => subst h; simp only [SE.val]; exact wrap_wrap _ _
 case bin op k' a b => subst h; simp only [SE.val]; unfold valBin; split <;> first | exact wrap_wrap _ _ | (cases k' <;> rfl)
 case conv => subst h; simp only [SE.val]; exact wrap_wrap _ _
 case mx => subst h; simp only [SE.val]; exact wrap_wrap _ _
 case mn => subst h; simp only [SE.val]; exact wrap_wrap _ _
 case app f i k' as => subst h; simp only [SE.val]; exact wrap_wrap _ _
 case el => subst h; simp only [SE.val]; exact wrap_wrap _ _
 case len x => subst h; rw [val_len]; exact i64_nat (sat_le _)
theorem wrK_b (x : Int) : wrK none x = b2i (wrK none x != 0) := by simp only [wrK, b2i_ne]
theorem val_bool {E : Env} {x : SE} (h : x.ty = some none) : x.val E = b2i (x.val E != 0) := by
 cases x <;> simp only [SE.ty, reduceCtorEq, Option.some.injEq] at h
 case bvar => simp only [SE.val, b2i_ne]
 case cmp => simp only [SE.val, b2i_ne]
 case and => simp only [SE.val, b2i_ne]
 case not => simp only [SE.val, b2i_ne]
 case seq => simp only [SE.val, b2i_ne]
 case app f i k as => subst h; simp only [SE.val]; exact wrK_b _
 case el => subst h; simp only [SE.val]; exact wrK_b _
theorem wrK_in {k : Option IntKind} {x : Int} (h : inK k x) : wrK k x = x := by
 cases k with
 | some k => exact h
 | none => rcases h with rfl | rfl <;> rfl
theorem eS_k {E : Env} {x : SE} {k : Option IntKind} (h : x.ty = some k) : eS E x = cellV k (x.val E) := by
 cases k <;> simp only [eS, h, cellV]
theorem eS_cmp {E : Env} {op : BinOp} {x y : SE} : eS E (.cmp op x y) = .bool (valCmp op (x.val E) (y.val E)) := by
 simp only [eS, SE.ty, SE.val, b2i_ne]
theorem eS_bin {E : Env} {op : BinOp} {k : IntKind} {x y : SE} : eS E (.bin op k x y) = .int k (valBin op k (x.val E) (y.val E)) := by
 simp only [eS, SE.ty, SE.val]
/-! ### rows -/
theorem rowV_len : ∀ (ks : Ks) (j : Nat) (el : List Int), (rowV ks j el).length = ks.length
 | [], _, _ => rfl
 | k :: ks, j, el => by simp [rowV, rowV_len ks]
theorem rowV_drop : ∀ (ks : Ks) (n j : Nat) (el : List Int), (rowV ks j el).drop n = rowV (ks.drop n) (j + n) el
 | [], n, j, el => by simp [rowV]
 | k :: ks, 0, j, el => rfl
 | k :: ks, n + 1, j, el => by
  simp only [rowV, List.drop_succ_cons]
  rw [rowV_drop ks n (j + 1) el, show j + 1 + n = j + (n + 1) by omega]
theorem rowV_take : ∀ (ks : Ks) (n j : Nat) (el : List Int), (rowV ks j el).take n = rowV (ks.take n) j el
 | [], n, j, el => by simp [rowV]
 | k :: ks, 0, j, el => rfl
 | k :: ks, n + 1, j, el => by simp only [rowV, List.take_succ_cons, rowV_take ks n (j + 1) el]
theorem rowV_get : ∀ (ks : Ks) (j r : Nat) (el : List Int), (rowV ks j el)[r]? = (ks[r]?).map fun k => cellV k (wrK k (el.getD (j + r) 0))
 | [], j, r, el => by simp [rowV]
 | k :: ks, j, 0, el => by simp [rowV]
 | k :: ks, j, r + 1, el => by
  simp only [rowV, List.getElem?_cons_succ]
  rw [rowV_get ks (j + 1) r el, show j + 1 + r = j + (r + 1) by omega]
theorem rowV_one : ∀ (ks : Ks) (j : Nat) (el : List Int), (rowV ks j el).all oneC = true
 | [], _, _ => rfl
 | k :: ks, j, el => by
  have : oneC (cellV k (wrK k (el.getD j 0))) = true := by cases k <;> rfl
  rw [rowV, List.all_cons, this, rowV_one ks]; rfl
theorem flatL_len (ks : Ks) : ∀ (l : List (List Int)), (flatL ks l).length = l.length * ks.length
 | [] => by simp [flatL]
 | el :: l => by
  have := flatL_len ks l
  simp only [flatL] at this
  simp only [flatL, List.flatMap_cons, List.length_append, rowV_len, List.length_cons, this, Nat.add_mul]
  omega
theorem flatL_app (ks : Ks) (l m : List (List Int)) : flatL ks (l ++ m) = flatL ks l ++ flatL ks m := by simp [flatL]
theorem flatL_cons (ks : Ks) (el : List Int) (l : List (List Int)) : flatL ks (el :: l) = rowV ks 0 el ++ flatL ks l := by simp [flatL]
theorem flatL_one (ks : Ks) (l : List (List Int)) : (flatL ks l).all oneC = true := by
 induction l with
 | nil => rfl
 | cons el l ih => rw [flatL_cons, List.all_append, rowV_one, ih]; rfl
theorem flatL_row (ks : Ks) : ∀ (l : List (List Int)) (i : Nat), i < l.length → ((flatL ks l).drop (i * ks.length)).take ks.length = rowV ks 0 (l.getD i [])
 | [], i, h => by simp at h
 | el :: l, 0, h => by
  rw [flatL_cons, Nat.zero_mul, List.drop_zero, List.take_append_of_le_length (by rw [rowV_len]; exact Nat.le_refl _), List.take_of_length_le (by rw [rowV_len]; exact Nat.le_refl _)]
  rfl
 | el :: l, i + 1, h => by
  have e : (i + 1) * ks.length = (rowV ks 0 el).length + i * ks.length := by rw [rowV_len, Nat.add_mul]; omega
  rw [flatL_cons, e, List.drop_append, show (rowV ks 0 el).length + i * ks.length - (rowV ks 0 el).length = i * ks.length by omega]
  rw [List.drop_eq_nil_of_le (by omega), List.nil_append]
  exact flatL_row ks l i (by simpa using h)
theorem flatL_get {ks : Ks} {l : List (List Int)} {i r : Nat} (hi : i < l.length) (hr : r < ks.length) : (flatL ks l)[i * ks.length + r]? = (rowV ks 0 (l.getD i []))[r]? := by
 rw [← flatL_row ks l i hi, List.getElem?_take, if_pos hr, List.getElem?_drop]
theorem rowV_congr : ∀ (ks : Ks) (j : Nat) (el el' : List Int), (∀ r, r < ks.length → el.getD (j + r) 0 = el'.getD (j + r) 0) → rowV ks j el = rowV ks j el'
 | [], _, _, _, _ => rfl
 | k :: ks, j, el, el', h => by
  have h0 := h 0 (by simp)
  rw [Nat.add_zero] at h0
  simp only [rowV, h0]
  rw [rowV_congr ks (j + 1) el el' fun r hr => by rw [show j + 1 + r = j + (r + 1) by omega]; exact h (r + 1) (by simp; omega)]
theorem setRow_get (el : List Int) (off : Nat) (as : List Int) (j : Nat) : (setRow el off as).getD j 0 = if off ≤ j ∧ j < off + as.length then as.getD (j - off) 0 else el.getD j 0 := by
 unfold setRow
 rw [List.getD_eq_getElem?_getD, List.getElem?_map]
 by_cases hj : j < max el.length (off + as.length)
 ·rw [List.getElem?_range hj]; rfl
 ·rw [List.getElem?_eq_none (by simpa using hj), if_neg (by omega)]
  simp only [Option.map_none, Option.getD_none]
  rw [List.getD_eq_getElem?_getD, List.getElem?_eq_none (by omega)]; rfl
theorem flatL_set (ks : Ks) (r : List Int) : ∀ (l : List (List Int)) (i : Nat), i < l.length → flatL ks (l.set i r) = (flatL ks l).take (i * ks.length) ++ (rowV ks 0 r ++ (flatL ks l).drop ((i + 1) * ks.length))
 | [], i, h => by simp at h
 | el :: l, 0, h => by
  rw [List.set_cons_zero, flatL_cons, flatL_cons, Nat.zero_mul, List.take_zero, List.nil_append, Nat.zero_add, Nat.one_mul]
  congr 1
  rw [List.drop_append, rowV_len, Nat.sub_self, List.drop_eq_nil_of_le (by rw [rowV_len]; exact Nat.le_refl _)]; rfl
 | el :: l, i + 1, h => by
  have e : ∀ n, (n + 1) * ks.length = (rowV ks 0 el).length + n * ks.length := fun n => by rw [rowV_len, Nat.add_mul]; omega
  have h1 : (rowV ks 0 el ++ flatL ks l).take ((i + 1) * ks.length) = rowV ks 0 el ++ (flatL ks l).take (i * ks.length) := by rw [e i, List.take_length_add_append]
  have h2 : (rowV ks 0 el ++ flatL ks l).drop ((i + 1 + 1) * ks.length) = (flatL ks l).drop ((i + 1) * ks.length) := by rw [e (i + 1), List.drop_length_add_append]
  rw [List.set_cons_succ, flatL_cons, flatL_cons, h1, h2, flatL_set ks r l i (by simpa using h), List.append_assoc]
theorem rowV_split (ks : Ks) (n j : Nat) (el : List Int) : rowV ks j el = rowV (ks.take n) j el ++ rowV (ks.drop n) (j + n) el := by
 rw [← rowV_take, ← rowV_drop, List.take_append_drop]
theorem rowV_set {ks : Ks} {el as : List Int} {off n : Nat} (hn : as.length = n) (hle : off + n ≤ ks.length) : rowV ks 0 (setRow el off as) = (rowV ks 0 el).take off ++ (rowV ((ks.drop off).take n) off (setRow el off as) ++ (rowV ks 0 el).drop (off + n)) := by
 rw [rowV_split ks off 0 (setRow el off as), Nat.zero_add, rowV_split (ks.drop off) n off (setRow el off as), rowV_take, rowV_drop, Nat.zero_add, List.drop_drop]
 congr 1
 ·apply rowV_congr
  intro r hr
  rw [List.length_take] at hr
  rw [setRow_get, if_neg (by omega)]
 ·congr 1
  apply rowV_congr
  intro r hr
  rw [setRow_get, if_neg (by omega)]
theorem flatL_splice {ks : Ks} {l : List (List Int)} {i off n : Nat} {as : List Int} (hi : i < l.length) (hn : as.length = n) (hle : off + n ≤ ks.length) :
  flatL ks (setL l i off as) = (flatL ks l).take (i * ks.length + off) ++ (rowV ((ks.drop off).take n) off (setRow (l.getD i []) off as) ++ (flatL ks l).drop (i * ks.length + off + n)) := by
 have hrow := flatL_row ks l i hi
 have hd : (flatL ks l).drop (i * ks.length) = rowV ks 0 (l.getD i []) ++ (flatL ks l).drop ((i + 1) * ks.length) := by
  rw [← hrow, show (i + 1) * ks.length = i * ks.length + ks.length by rw [Nat.add_mul]; omega, ← List.drop_drop, List.take_append_drop]
 unfold setL
 rw [flatL_set ks _ l i hi, rowV_set hn hle]
 have hl := rowV_len ks 0 (l.getD i [])
 have h3 : (flatL ks l).drop (i * ks.length + off + n) = ((flatL ks l).drop (i * ks.length)).drop (off + n) := by rw [List.drop_drop]; congr 1; omega
 rw [List.take_add, h3, hd, List.take_append_of_le_length (by omega), List.drop_append_of_le_length (by omega)]
 simp only [List.append_assoc]
end Go.Proofs.Ytedfbamihjnhhaa.Own
