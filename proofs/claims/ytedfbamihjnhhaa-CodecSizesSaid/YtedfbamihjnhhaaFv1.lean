/- A walk by reckoning: calls at closed values, done by a function that the kernel runs. The definitions. -/
import Derived.Test.YtedfbamihjnhhaaFvA
namespace Go.Proofs.Ytedfbamihjnhhaa.Own
open Go Go.RowKit
set_option linter.unusedVariables false
set_option linter.unusedSimpArgs false
inductive C where
 | int (k : IntKind) (n : Int)
 | bool (b : Bool)
 | ptr (k off : Nat)
 | nilp
 | nili
 | sl (k off len cap : Nat)
 | slo (k len : Nat)
 | slt (k l sz len : Nat)
 | nils
 | str (s : ByteArray)
 | fn (f : Nat) (cap : List C)
 | opq (x : SE)
 | val (i : Nat)
 | sli (k : Nat) (x : SE)
 | pel (k : Nat) (i : SE) (sz off : Nat)
 | sts (x : SE)
 | big (x : SE) (ks : Ks)
 | frm
inductive V where
 | one (c : C)
 | agg (cs : List C)
 | tup (vs : List V)
 | any (i : Nat)
def slV (n g b c : Nat) : Value := .slice (if c = 0 ∧ n = 0 then none else some ⟨g, b, none⟩) n (c / 2)
mutual
inductive RelC (e : Vl) (σ : List (Nat × Nat × Nat)) : C → Value → Prop where
 | int {k n} : RelC e σ (.int k n) (.int k n)
 | bool {b} : RelC e σ (.bool b) (.bool b)
 | ptr {k off g b c} (h : σ[k]? = some (g, b, c)) : RelC e σ (.ptr k off) (.pointer (some ⟨g, b + off, none⟩))
 | nilp : RelC e σ .nilp (.pointer none)
 | nili : RelC e σ .nili .nilIface
 | sl {k off len cap g b c} (h : σ[k]? = some (g, b, c)) : RelC e σ (.sl k off len cap) (.slice (some ⟨g, b + off, none⟩) len cap)
 | slo {k len g b c} (h : σ[k]? = some (g, b, c)) : RelC e σ (.slo k len) (.slice (some ⟨g, b, none⟩) len c)
 | slt {k l sz len g b c} (h : σ[k]? = some (g, b, c)) : RelC e σ (.slt k l sz len) (.slice (some ⟨g, if c = l then b else b + l * sz, none⟩) len (c - l))
 | nils : RelC e σ .nils (.slice none 0 0)
 | str {s} : RelC e σ (.str s) (.string s)
 | fn {f cs vs} (h : RelCs e σ cs vs) : RelC e σ (.fn f cs) (.func (.func f) #[] (List.toArray vs))
 | opq {i} (h : oneC (e.s i) = true) : RelC e σ (.opq i) (e.s i)
 | val {i} (h : oneC (e.v i) = true) : RelC e σ (.val i) (e.v i)
 | sli {k x g b c} (h : σ[k]? = some (g, b, c)) : RelC e σ (.sli k x) (slV (sat (x.lst e).length) g b c)
 | pel {k i sz off g b c} (h : σ[k]? = some (g, b, c)) : RelC e σ (.pel k i sz off) (.pointer (some ⟨g, b + ((i.val e).toNat * sz + off), none⟩))
 | sts {x} : RelC e σ (.sts x) (.string (bytesOf (x.lst e)))
inductive RelCs (e : Vl) (σ : List (Nat × Nat × Nat)) : List C → List Value → Prop where
 | nil : RelCs e σ [] []
 | cons {c v cs vs} (h : RelC e σ c v) (t : RelCs e σ cs vs) : RelCs e σ (c :: cs) (v :: vs)
end
mutual
inductive RelV (e : Vl) (σ : List (Nat × Nat × Nat)) : V → Value → Prop where
 | one {c v} (h : RelC e σ c v) : RelV e σ (.one c) v
 | agg {cs vs} (h : RelCs e σ cs vs) : RelV e σ (.agg cs) (.agg (List.toArray vs))
 | tup {xs vs} (h : RelVs e σ xs vs) : RelV e σ (.tup xs) (.tuple (List.toArray vs))
 | any {i} : RelV e σ (.any i) (e.av i)
inductive RelVs (e : Vl) (σ : List (Nat × Nat × Nat)) : List V → List Value → Prop where
 | nil : RelVs e σ [] []
 | cons {x v xs vs} (h : RelV e σ x v) (t : RelVs e σ xs vs) : RelVs e σ (x :: xs) (v :: vs)
end
/-! ### constants -/
def cOf : Value → Option C
 | .int k n => some (.int k n)
 | .bool b => some (.bool b)
 | .pointer none => some .nilp
 | .nilIface => some .nili
 | .slice none 0 0 => some .nils
 | .string s => some (.str s)
 | .func (.func f) ⟨[]⟩ ⟨[]⟩ => some (.fn f [])
 | _ => none
def csOf : List Value → Option (List C)
 | [] => some []
 | v :: vs => match cOf v with
  | some c => (match csOf vs with | some cs => some (c :: cs) | none => none)
  | none => none
def vOf : Value → Option V
 | .agg ⟨cs⟩ => (match csOf cs with | some l => some (.agg l) | none => none)
 | .tuple ⟨[]⟩ => some (.tup [])
 | v => (match cOf v with | some c => some (.one c) | none => none)
/-! ### frames -/
inductive Tr where
 | leaf
 | node (v : Option V) (l r : Tr)
def Tr.get : Tr → Nat → Option V
 | .leaf, _ => none
 | .node v l r, t => bif Nat.beq t 1 then v else bif Nat.beq (Nat.mod t 2) 0 then l.get (Nat.div t 2) else r.get (Nat.div t 2)
def Tr.put : Nat → Tr → Nat → V → Tr
 | 0, _, _, _ => .leaf
 | d + 1, f, t, x =>
  let v := match f with | .leaf => none | .node v _ _ => v
  let l := match f with | .leaf => .leaf | .node _ l _ => l
  let r := match f with | .leaf => .leaf | .node _ _ r => r
  bif Nat.beq t 1 then .node (some x) l r else bif Nat.beq (Nat.mod t 2) 0 then .node v (Tr.put d l (Nat.div t 2) x) r else .node v l (Tr.put d r (Nat.div t 2) x)
/-! ### what is put is reckoned first -/
def fN {α : Type} (n : Nat) (k : Nat → α) : α := match n with | 0 => k 0 | m + 1 => k (Nat.succ m)
def fZ {α : Type} (n : Int) (k : Int → α) : α := match n with | .ofNat m => fN m fun m => k (.ofNat m) | .negSucc m => fN m fun m => k (.negSucc m)
def fB {α : Type} (b : Bool) (k : Bool → α) : α := match b with | true => k true | false => k false
def fC {α : Type} (c : C) (k : C → α) : α :=
 match c with
 | .int q n => fZ n fun n => k (.int q n)
 | .bool b => fB b fun b => k (.bool b)
 | .ptr g o => fN g fun g => fN o fun o => k (.ptr g o)
 | .sl g o l c => fN g fun g => fN o fun o => fN l fun l => fN c fun c => k (.sl g o l c)
 | .slo g l => fN g fun g => fN l fun l => k (.slo g l)
 | c => k c
def fCs {α : Type} : List C → (List C → α) → α
 | [], k => k []
 | c :: cs, k => fC c fun c => fCs cs fun cs => k (c :: cs)
def fV {α : Type} (v : V) (k : V → α) : α :=
 match v with
 | .one c => fC c fun c => k (.one c)
 | .agg cs => fCs cs fun cs => k (.agg cs)
 | v => k v
/-! ### memory -/
abbrev MB := List (Nat × List C × TypeId × Bool)
def isBig : List C → Bool
 | .big _ _ :: _ => true
 | .frm :: _ => true
 | _ => false
def lkB : MB → Nat → Option (List C × TypeId × Bool)
 | [], _ => none
 | (k, cs, y) :: r, t => bif Nat.beq k t then (bif isBig cs then none else some (cs, y)) else lkB r t
def lkL : MB → Nat → Option (SE × Ks × TypeId)
 | [], _ => none
 | (k, cs, T, _) :: r, t => bif Nat.beq k t then (match cs with | [.big x ks] => some (x, ks, T) | _ => none) else lkL r t
def lkLM : List MB → Nat → Option (SE × Ks × TypeId)
 | [], _ => none
 | m :: r, t => match lkL m t with | some x => some x | none => lkLM r t
def stL : MB → Nat → SE → Option MB
 | [], _, _ => none
 | (k, cs, y) :: r, t, x' => bif Nat.beq k t then (match cs with | [.big _ ks] => some ((k, [.big x' ks], y) :: r) | _ => none) else match stL r t x' with | some r' => some ((k, cs, y) :: r') | none => none
def lkM : List MB → Nat → Option (List C × TypeId × Bool)
 | [], _ => none
 | m :: r, t => match lkB m t with | some x => some x | none => lkM r t
def stB : MB → Nat → List C → Option MB
 | [], _, _ => none
 | (k, cs, T, o) :: r, t, cs' => bif Nat.beq k t then some ((k, cs', T, o) :: r) else match stB r t cs' with | some r' => some ((k, cs, T, o) :: r') | none => none
def outB : MB → Nat → Option ((Nat × List C × TypeId × Bool) × MB)
 | [], _ => none
 | (k, x) :: r, t => bif Nat.beq k t then some ((k, x), r) else match outB r t with | some (b, r') => some (b, (k, x) :: r') | none => none
inductive Ex where
 | normal | ret | exit (id : Nat)
/-! ### what a run is given: externs, contracts, what is known of values that are not reckoned (what an operation makes of them, which truths hold), kinds of operations, blocks that are not kept -/
abbrev Hook := Nat → List V → Option V
abbrev LoopF := (SE → Option Bool) → Tr → MB → List MB → Nat → Option (Ex × Tr × MB × Nat)
abbrev CallF := Nat → List V → MB → List MB → Nat → Option (V × MB × Nat)
abbrev CallH := (SE → Option Bool) → CallF
structure Cfg where
 P : Program
 X : Hook
 H : Hook
 G : Oper → List V → Option V
 D : SE → Option Bool
 E : Nat → Nat → List (Nat × Kind)
 S : Nat → Nat → List Nat
 L : Nat → Nat → LoopF
 W : Nat → Bool := fun _ => true
 B : CallH := fun _ _ _ _ _ _ => none
/-! ### numbers and truths as terms -/
def toI : C → Option (IntKind × SE)
 | .int k n => bif decide (k.wrap n = n) then some (k, .lit k n) else none
 | .opq x => match x.ty with | some (some k) => some (k, x) | _ => none
 | _ => none
def toB : C → Option SE
 | .bool b => some (.cmp .eql (.lit .i64 (b2i b)) (.lit .i64 1))
 | .opq x => match x.ty with | some none => some x | _ => none
 | _ => none
def toK (k : Option IntKind) (c : C) : Option SE := match k with
 | some k => (match toI c with | some (k', x) => bif decide (k = k') then some x else none | none => none)
 | none => toB c
def matchC : Ks → List C → Option (List SE)
 | [], [] => some []
 | k :: ks, c :: cs => (match toK k c, matchC ks cs with | some x, some l => some (x :: l) | _, _ => none)
 | _, _ => none
def seL : List SE → SE
 | [] => .nil
 | x :: l => .cons x (seL l)
/-! ### lists -/
def lenT : SE → SE
 | .lset x _ _ _ => lenT x
 | x => .len x
def geB (c : Cfg) : SE → Bool
 | .lit k n => decide (0 ≤ k.wrap n)
 | i => match c.D (.cmp .geq i (.lit .i64 0)) with | some b => b | none => false
def inB (c : Cfg) (i x : SE) : Bool := geB c i && (match c.D (.cmp .lss i (lenT x)) with | some b => b | none => false)
def elC (x i : SE) : Ks → Nat → List C
 | [], _ => []
 | k :: ks, j => .opq (.el k x i j) :: elC x i ks (j + 1)
def partL (P : Program) (t : TypeId) (x i : SE) (ks : Ks) (off : Nat) : Option V :=
 match tinfo P t with
 | some (true, n) => let ks' := (ks.drop off).take n; bif Nat.beq ks'.length n then some (.agg (elC x i ks' off)) else none
 | some (false, _) => (match ks[off]? with | some k => some (.one (.opq (.el k x i off))) | none => none)
 | none => none
def toIx : V → Option SE
 | .one c => (match toI c with | some (_, x) => some x | none => none)
 | _ => none
def bndL (D : SE → Option Bool) : SE → Option Nat
 | .lnil => some 0
 | .lone _ => some 1
 | .lbs l => some l.length
 | .lcat x y => (match bndL D y with | some b => (match bndL D x with | some a => some (a + b) | none => none) | none => none)
 | x => (match D (.cmp .leq (lenT x) (.lit .i64 100000)) with | some true => some 100000 | _ => none)
def sm6 (D : SE → Option Bool) (x : SE) : Bool := match D (.cmp .leq (lenT x) (.lit .i64 1000000)) with | some b => b | none => false
def smX (D : SE → Option Bool) : SE → Bool
 | .lnil => true
 | .lone _ => true
 | .lbs l => Nat.ble l.length 1000000
 | .lcat x y => (match bndL D (.lcat x y) with | some n => Nat.ble n 1000000 | none => sm6 D (.lcat x y))
 | x => sm6 D x
def smB (c : Cfg) (x : SE) : Bool := smX c.D x
def strT : C → Option SE
 | .str s => some (.lbs (s.data.toList.map UInt8.toNat))
 | .sts x => some x
 | _ => none
def asB (c : Cfg) : V → Option Bool
 | .one (.bool b) => some b
 | .one (.opq x) => c.D x
 | _ => none
/-! ### operations that only compute -/
def evBin (op : BinOp) (k : IntKind) (a : Int) (k' : IntKind) (b : Int) : Option C :=
 match op with
 | .shl => bif decide (b < 0) then none else some (.int k (k.wrap (a * 2 ^ (min b.toNat k.bits))))
 | .shr => bif decide (b < 0) then none else some (.int k (a.fdiv (2 ^ (min b.toNat k.bits))))
 | op => bif decide (k = k') then
  (match op with
   | .add => some (.int k (k.wrap (a + b)))
   | .sub => some (.int k (k.wrap (a - b)))
   | .mul => some (.int k (k.wrap (a * b)))
   | .and => some (.int k (bits .and k a b))
   | .or => some (.int k (bits .or k a b))
   | .xor => some (.int k (bits .xor k a b))
   | .eql => some (.bool (a == b))
   | .neq => some (.bool (a != b))
   | .lss => some (.bool (decide (a < b)))
   | .leq => some (.bool (decide (a ≤ b)))
   | .gtr => some (.bool (decide (a > b)))
   | .geq => some (.bool (decide (a ≥ b)))
   | .quo => bif (b == 0) then none else some (.int k (k.wrap (a.tdiv b)))
   | .rem => bif (b == 0) then none else some (.int k (a.tmod b))
   | _ => none) else none
def partC (P : Program) (t : TypeId) (cs : List C) (off : Nat) : Option V :=
 match tinfo P t with
 | some (true, n) => let vs := (cs.drop off).take n; bif Nat.beq vs.length n then some (.agg vs) else none
 | some (false, _) => (match cs[off]? with | some c => some (.one c) | none => none)
 | none => none
def eqC (P : Program) : Nat → TypeId → V → V → Option Bool
 | 0, _, _, _ => none
 | d + 1, t, x, y =>
  match P.underlying t, x, y with
  | some (.int _), .one (.int k1 a), .one (.int k2 b) => bif decide (k1 = k2) then some (a == b) else none
  | some .bool, .one (.bool a), .one (.bool b) => some (a == b)
  | some (.struct fs), .agg xs, .agg ys =>
   bif P.stoodInHeld t then none else
   fs.toList.foldr (fun f r => bif decide (f.name = "_") then none else
    match partC P f.type xs f.offset, partC P f.type ys f.offset with
    | some u, some v => (match eqC P d f.type u v, r with | some b, some b' => some (b && b') | _, _ => none)
    | _, _ => none) (some true)
  | _, _, _ => none
def opsL (ρ : Operand → Option V) : List (Nat × Operand) → Option (List (Nat × V))
 | [] => some []
 | (i, x) :: r => match ρ x, opsL ρ r with | some v, some l => some ((i, v) :: l) | _, _ => none
def argsL (ρ : Operand → Option V) : List Operand → Option (List V)
 | [] => some []
 | x :: r => match ρ x, argsL ρ r with | some v, some l => some (v :: l) | _, _ => none
def V.cs : V → Option (List C)
 | .one c => some [c]
 | .agg cs => some cs
 | .tup _ => none
 | .any _ => none
def spliceC (cs : List C) (off : Nat) (vs : List C) : List C := cs.take off ++ (vs ++ cs.drop (off + vs.length))
def fillC (pl : List (Nat × Nat)) : List C → List (Nat × V) → Option (List C)
 | cs, [] => some cs
 | cs, (i, v) :: r => match pl[i]?, v.cs with
  | some (off, n), some vs => bif Nat.beq vs.length n && Nat.ble (off + vs.length) cs.length then fillC pl (spliceC cs off vs) r else none
  | _, _ => none
def plOf (P : Program) : List Field → Option (List (Nat × Nat))
 | [] => some []
 | f :: r => match tinfo P f.type, plOf P r with | some (_, n), some l => some ((f.offset, n) :: l) | _, _ => none
def capsC : List V → Option (List C)
 | [] => some []
 | .one c :: r => (match capsC r with | some l => some (c :: l) | none => none)
 | _ => none
def evQ0 (c : Cfg) (ρ : Operand → Option V) (m : List MB) (o : Oper) : Option V :=
 match o.op with
 | .move x | .assign x => ρ x
 | .pick x a b => (match ρ x with | some v => (match asB c v with | some t => bif t then ρ a else ρ b | none => none) | none => none)
 | .load t x =>
  (match ρ x with
  | some (.one (.ptr k off)) => (match lkM m k with | some (cs, _, _) => partC c.P t cs off | none => none)
  | some (.one (.pel k i sz off)) => (match lkLM m k with
   | some (x, ks, _) => bif Nat.beq ks.length sz && inB c i x then partL c.P t x i ks off else none
   | none => none)
  | _ => none)
 | .nilCheck x => (match ρ x with | some (.one (.ptr k off)) => some (.one (.ptr k off)) | some (.one (.pel k i sz off)) => some (.one (.pel k i sz off)) | _ => none)
 | .binOp op t x y _ =>
  (match ρ x, ρ y with
  | some (.one (.int k a)), some (.one (.int k' b)) => (match evBin op k a k' b with | some c => some (.one c) | none => none)
  | some (.one (.bool a)), some (.one (.bool b)) =>
   (match op, c.P.underlying t with
   | .eql, some .bool => some (.one (.bool (a == b)))
   | .neq, some .bool => some (.one (.bool (!(a == b))))
   | _, _ => none)
  | some (.one (.sts a)), some (.one b) =>
   (match strT b with
   | some y => (match op, c.P.underlying t with
    | .add, some .string => bif smB c a && smB c y then some (.one (.sts (.lcat a y))) else none
    | .eql, some .string => some (.one (.opq (.seq a y)))
    | .neq, some .string => some (.one (.opq (.not (.seq a y))))
    | _, _ => none)
   | none => none)
  | some (.one (.str a)), some (.one (.sts b)) => (match op, c.P.underlying t with
   | .add, some .string => bif smB c b && Nat.ble a.size 1000000 then some (.one (.sts (.lcat (.lbs (a.data.toList.map UInt8.toNat)) b))) else none
   | .eql, some .string => some (.one (.opq (.seq (.lbs (a.data.toList.map UInt8.toNat)) b)))
   | .neq, some .string => some (.one (.opq (.not (.seq (.lbs (a.data.toList.map UInt8.toNat)) b))))
   | _, _ => none)
  | some (.one (.str a)), some (.one (.str b)) => (match op, c.P.underlying t with
   | .add, some .string => bif Nat.ble a.size 1000000 && Nat.ble b.size 1000000 then some (.one (.str (a ++ b))) else none
   | .eql, some .string => some (.one (.bool (decide (a = b))))
   | .neq, some .string => some (.one (.bool (!decide (a = b))))
   | _, _ => none)
  | some (.agg xs), some (.agg ys) =>
   (match op with
   | .eql => bif c.P.eqGuardType c.P.depth t then none else (match eqC c.P 10000 t (.agg xs) (.agg ys) with | some b => some (.one (.bool b)) | none => none)
   | .neq => bif c.P.eqGuardType c.P.depth t then none else (match eqC c.P 10000 t (.agg xs) (.agg ys) with | some b => some (.one (.bool (!b))) | none => none)
   | _ => none)
  | _, _ => none)
 | .unOp .not _ x => (match ρ x with | some (.one (.bool b)) => some (.one (.bool (!b))) | _ => none)
 | .unOp .neg _ x => (match ρ x with | some (.one (.int k a)) => some (.one (.int k (k.wrap (0 - a)))) | _ => none)
 | .convert s d x =>
  (match ρ x, c.P.underlying s, c.P.underlying d with
  | some (.one (.int _ a)), some (.int _), some (.int k) => some (.one (.int k (k.wrap a)))
  | _, _, _ => none)
 | .makeFunc (.func f) ⟨[]⟩ b => (match argsL ρ b.toList with | some vs => (match capsC vs with | some cs => some (.one (.fn f cs)) | none => none) | none => none)
 | .field t x i =>
  (match ρ x, finfo c.P t i with
  | some (.agg cs), some (off, true, n) => let vs := (cs.drop off).take n; some (.agg vs)
  | some (.agg cs), some (off, false, _) => (match cs[off]? with | some c => some (.one c) | none => none)
  | _, _ => none)
 | .fieldAddr t x i =>
  (match ρ x, finfo c.P t i with
  | some (.one (.ptr k off)), some (fo, _, n) => bif Nat.beq n 0 then none else some (.one (.ptr k (off + fo)))
  | some (.one (.pel k i sz off)), some (fo, _, n) => bif Nat.beq n 0 then none else some (.one (.pel k i sz (off + fo)))
  | _, _ => none)
 | .indexAddr t x y =>
  (match ρ x, ρ y, c.P.underlying t with
  | some (.one (.sl k off len _)), some (.one (.int _ i)), some (.slice e) => (match tinfo c.P e with | some (_, n) => bif decide (0 ≤ i ∧ i < (len : Int)) then some (.one (.ptr k (off + i.toNat * n))) else none | none => none)
  | some (.one (.slo k len)), some (.one (.int _ i)), some (.slice e) => (match tinfo c.P e with | some (_, n) => bif decide (0 ≤ i ∧ i < (len : Int)) then some (.one (.ptr k (i.toNat * n))) else none | none => none)
  | some (.one (.ptr k off)), some (.one (.int _ i)), some (.array len e) => (match tinfo c.P e with | some (_, n) => bif decide (0 ≤ i ∧ i < (len : Int)) then some (.one (.ptr k (off + i.toNat * n))) else none | none => none)
  | some (.one (.sli k z)), some v, some (.slice e) => (match tinfo c.P e, toIx v with | some (_, n), some i => bif inB c i z then some (.one (.pel k i n 0)) else none | _, _ => none)
  | _, _, _ => none)
 | .index t x y =>
  (match ρ x, ρ y, c.P.underlying t with
  | some (.agg cs), some (.one (.int _ i)), some (.array len e) =>
   (match tinfo c.P e with
   | some (false, n) => bif decide (0 ≤ i ∧ i < (len : Int)) then (match cs[i.toNat * n]? with | some c => some (.one c) | none => none) else none
   | _ => none)
  | some (.one (.str s)), some (.one (.int _ i)), some .string => bif decide (0 ≤ i) then (match s[i.toNat]? with | some b => some (.one (.int .u8 b.toNat)) | none => none) else none
  | some (.one (.sts z)), some v, some .string => (match toIx v with | some i => bif inB c i z then some (.one (.opq (.el (some .u8) z i 0))) else none | none => none)
  | _, _, _ => none)
 | .slice t x (some lo) none none =>
  (match ρ x, ρ lo, c.P.underlying t with
  | some (.one (.slo k n)), some (.one (.int _ (.ofNat l))), some (.slice e) => (match tinfo c.P e with | some (_, sz) => bif Nat.ble l n then some (.one (.slt k l sz (n - l))) else none | none => none)
  | _, _, _ => none)
 | .extract x i => (match ρ x with | some (.tup vs) => vs[i]? | _ => none)
 | .build t ps =>
  (match c.P.underlying t, zinfo c.P t with
  | some (.struct fs), some (.agg z) => (match csOf z.toList, plOf c.P fs.toList, opsL ρ ps.toList with
   | some z, some pl, some l => (match fillC pl z l with | some cs => some (.agg cs) | none => none)
   | _, _, _ => none)
  | some (.array len e), some (.agg z) => (match csOf z.toList, tinfo c.P e, opsL ρ ps.toList with
   | some z, some (_, m), some l => (match fillC ((List.range len).map fun i => (i * m, m)) z l with | some cs => some (.agg cs) | none => none)
   | _, _, _ => none)
  | _, _ => none)
 | .call { callee := .builtin .len, args := ⟨[x]⟩, argTypes := ⟨t :: _⟩ } =>
  (match ρ x, c.P.underlying t with
  | some (.one (.sl _ _ n _)), some (.slice _) => some (.one (.int .i64 n))
  | some (.one (.slo _ n)), some (.slice _) => some (.one (.int .i64 n))
  | some (.one (.slt _ _ _ n)), some (.slice _) => some (.one (.int .i64 n))
  | some (.one .nils), some (.slice _) => some (.one (.int .i64 (0 : Nat)))
  | some (.one (.str s)), some .string => some (.one (.int .i64 s.size))
  | some (.one (.sli _ z)), some (.slice _) => some (.one (.opq (lenT z)))
  | some (.one (.sts z)), some .string => bif smB c z then some (.one (.opq (lenT z))) else none
  | _, _ => none)
 | .call { callee := .builtin .max, args := ⟨[x, y]⟩, .. } => (match ρ x, ρ y with | some (.one (.int k a)), some (.one (.int _ b)) => some (.one (.int k (bif decide (b > a) then b else a))) | _, _ => none)
 | .call { callee := .builtin .min, args := ⟨[x, y]⟩, .. } => (match ρ x, ρ y with | some (.one (.int k a)), some (.one (.int _ b)) => some (.one (.int k (bif decide (b < a) then b else a))) | _, _ => none)
 | _ => none
def evQ (c : Cfg) (ρ : Operand → Option V) (m : List MB) (o : Oper) : Option V :=
 match evQ0 c ρ m o with
 | some v => some v
 | none => (match argsL ρ o.op.operands.toList with | some vs => c.G o vs | none => none)
/-! ### blocks that are made -/
def rowC (m : Nat) : Nat → List (Nat × V) → Option (List C)
 | _, [] => some []
 | i, (j, v) :: r => match v.cs with
  | some vs => bif Nat.beq i j && Nat.beq vs.length m then (match rowC m (i + 1) r with | some cs => some (vs ++ cs) | none => none) else none
  | none => none
def evAlloc (P : Program) (ρ : Operand → Option V) (o : Oper) : Option (Option Nat × List C × TypeId) :=
 match o.op with
 | .alloc t => (match zinfo P t with
  | some z => (match vOf z with | some z' => (match z'.cs with | some cs => some (none, cs, t) | none => none) | none => none)
  | none => none)
 | .box t x => (match ρ x with | some v => (match v.cs with | some cs => some (none, cs, t) | none => none) | none => none)
 | .buildSlice t len ps =>
  (match P.underlying t with
  | some (.slice e) => (match tinfo P e, zinfo P e, opsL ρ ps.toList with
   | some (_, m), some _, some l => bif Nat.beq ps.toList.length len && Nat.ble (len * m) 16777216 then (match rowC m 0 l with | some cs => some (some len, cs, e) | none => none) else none
   | _, _, _ => none)
  | _ => none)
 | _ => none
def allocC : Option Nat → Nat → C
 | none, k => .ptr k 0
 | some n, k => .sl k 0 n n
/-! ### the run -/
def callee (ρ : Operand → Option V) (c : Call) : Option (Nat × List V) :=
 match c.callee with
 | .value x => (match ρ x, argsL ρ c.args.toList with
  | some (.one (.fn f cap)), some vs => some (f, vs ++ cap.map .one)
  | _, _ => none)
 | _ => none
def isz (P : Program) (e : TypeId) : Option (Nat × Nat × List C) :=
 match P.info? e with
 | some i => (match i.zero with
  | some z => (match csOf z.cells.toList with
   | some zc => bif Nat.beq zc.length i.size && Nat.blt 0 i.size then some (i.size, i.bytes, zc) else none
   | none => none)
  | none => none)
 | none => none
def evMake (c : Cfg) (ρ : Operand → Option V) (t : TypeId) (x y : Operand) (M : MB) (nx : Nat) : Option (V × MB × Nat) :=
 match ρ x, ρ y, c.P.underlying t with
 | some (.one (.int _ (.ofNat l))), some (.one (.int _ (.ofNat l'))), some (.slice e) => (match isz c.P e with
  | some (size, bytes, zc) => bif Nat.beq l l' && Nat.ble (bytes * l) 140737488355328 && Nat.ble l 4294967296 then
    fCs ((List.range (l * size)).map fun i => zc.getD (i % size) .nils) fun cs => some (.one (.sl nx 0 l l), (nx, cs, e, false) :: M, nx + 1) else none
  | none => none)
 | _, _, _ => none
def rowOfC (M : MB) (e size : Nat) : C → Option (Option Nat × Nat × List C)
 | .nils => some (none, 0, [])
 | .slo k n => (match lkB M k with
  | some (cs, T, true) => bif Nat.beq T e && Nat.beq cs.length (n * size) then some (some k, n, cs) else none
  | _ => none)
 | .sl k 0 n cap => (match lkB M k with
  | some (cs, T, false) => bif Nat.beq T e && Nat.beq cs.length (cap * size) && Nat.ble n cap && Nat.ble cap 4294967296 then some (some k, n, cs.take (n * size)) else none
  | _ => none)
 | _ => none
def newsC (P : Program) (M : MB) (m : List MB) (size : Nat) : C → Option (Nat × List C)
 | .nils => some (0, [])
 | .slt k l sz n => (match lkM m k with
  | some (cs, T, true) => let vs := (cs.drop (l * size)).take (n * size); bif Nat.beq vs.length (n * size) && Nat.beq sz size && decide ((P.info? T).map (·.size) = some size) then some (n, vs) else none
  | _ => none)
 | .sl k off n _ => (match lkM m k with
  | some (cs, _, _) => let vs := (cs.drop off).take (n * size); bif Nat.beq vs.length (n * size) then some (n, vs) else none
  | none => none)
 | .slo k n => (match lkM m k with
  | some (cs, _, _) => let vs := cs.take (n * size); bif Nat.beq vs.length (n * size) then some (n, vs) else none
  | none => none)
 | _ => none
def evAppend (c : Cfg) (ρ : Operand → Option V) (t : TypeId) (x y : Operand) (M : MB) (F : List MB) (nx : Nat) : Option (V × MB × Nat) :=
 match ρ x, ρ y, c.P.underlying t with
 | some (.one a), some (.one b), some (.slice e) => (match isz c.P e with
  | some (size, bytes, _) => (match rowOfC M e size a, newsC c.P M (M :: F) size b with
   | some (ok, n, old), some (m, news) => bif Nat.beq m 0 then some (.one a, M, nx) else bif Nat.blt 0 m && Nat.ble (n + m) 4294967296 && Nat.ble ((n + m) * bytes) 140737488355328 then
     fCs (old ++ news) fun cs => some (.one (.slo nx (n + m)), (nx, cs, e, true) :: (match ok with | some k => (match outB M k with | some (_, M1) => M1 | none => M) | none => M), nx + 1) else none
   | _, _ => none)
  | none => none)
 | _, _, _ => none
def ksOf : List C → Option Ks
 | [] => some []
 | .int k _ :: r => (match ksOf r with | some l => some (some k :: l) | none => none)
 | .bool _ :: r => (match ksOf r with | some l => some (none :: l) | none => none)
 | _ => none
def chunks (ks : Ks) : Nat → List C → Option SE
 | 0, [] => some .lnil
 | 0, _ => none
 | 1, cs => (match matchC ks cs with | some l => some (.lone (seL l)) | none => none)
 | n + 1, cs => (match matchC ks (cs.take ks.length), chunks ks n (cs.drop ks.length) with | some l, some y => some (.lcat (.lone (seL l)) y) | _, _ => none)
def rowL (M : MB) (e : Nat) (ks : Ks) : C → Option (Option Nat × SE)
 | .nils => some (none, .lnil)
 | .sl k 0 0 0 => (match lkB M k with | some ([], T, false) => bif Nat.beq T e then some (some k, .lnil) else none | _ => none)
 | .sl k 0 (n + 1) cap => (match lkB M k with | some (cs, T, false) => bif Nat.beq T e && Nat.beq (n + 1) cap && Nat.ble cap 1000000 then (match chunks ks (n + 1) cs with | some q => some (some k, q) | none => none) else none | _ => none)
 | .sli k x => (match lkL M k with | some (x', ks', T) => bif decide (x = x') && decide (ks = ks') && Nat.beq T e then some (some k, x) else none | none => none)
 | _ => none
def newsL (P : Program) (M : MB) (m : List MB) (ks : Ks) (size : Nat) : C → Option SE
 | .sli k x => (match lkLM m k with | some (x', ks', _) => bif decide (x = x') && decide (ks = ks') then some x else none | none => none)
 | b => (match newsC P M m size b with | some (n, cs) => bif Nat.blt 0 n && Nat.ble n 1000000 then chunks ks n cs else none | none => none)
def catT : SE → SE → SE
 | .lnil, y => y
 | x, y => .lcat x y
def evGrow (c : Cfg) (ρ : Operand → Option V) (t : TypeId) (x y : Operand) (M : MB) (F : List MB) (nx : Nat) : Option (V × MB × Nat) :=
 match ρ x, ρ y, c.P.underlying t with
 | some (.one a), some (.one b), some (.slice e) => (match isz c.P e with
  | some (size, bytes, zc) => (match ksOf zc with
   | some ks => (match rowL M e ks a, newsL c.P M (M :: F) ks size b with
    | some (ok, p), some q => bif smB c p && smB c q && Nat.ble bytes 1000000 then
      some (.one (.sli nx (catT p q)), (nx, [.big (catT p q) ks], e, true) :: (match ok with | some k => (match outB M k with | some (_, M1) => M1 | none => M) | none => M), nx + 1) else none
    | _, _ => none)
   | none => none)
  | none => none)
 | _, _, _ => none
def app2 (a b : MB) : MB := match b with | [] => a | _ => a ++ b
def evE (c : Cfg) (call : CallF) (ρ : Operand → Option V) (o : Oper) (M : MB) (F : List MB) (nx : Nat) : Option (V × MB × Nat) :=
 match o.op with
 | .store t x y =>
  (match ρ x, ρ y, tinfo c.P t with
  | some (.one (.pel k i sz off)), some v, some (_, n) => (match lkL M k, v.cs with
   | some (z, ks, _), some vs => bif Nat.beq ks.length sz && inB c i z && Nat.beq vs.length n && Nat.ble (off + n) sz then
     (match matchC ((ks.drop off).take n) vs with
     | some l => (match stL M k (.lset z i off (seL l)) with | some M' => some (.tup [], M', nx) | none => none)
     | none => none) else none
   | _, _ => none)
  | some (.one (.ptr k off)), some v, some (_, n) => (match lkB M k, v.cs with
   | some (cs, _, _), some vs => bif Nat.beq vs.length n && Nat.ble (off + vs.length) cs.length then fCs (spliceC cs off vs) fun cs' => (match stB M k cs' with | some M' => some (.tup [], M', nx) | none => none) else none
   | _, _ => none)
  | _, _, _ => none)
 | .makeSlice t x y => evMake c ρ t x y M nx
 | .call { callee := .builtin .append, args := ⟨[x, y]⟩, argTypes := ⟨[t, t']⟩ } => bif Nat.beq t t' then (match evAppend c ρ t x y M F nx with | some r => some r | none => evGrow c ρ t x y M F nx) else none
 | .call cl =>
  (match callee ρ cl with
  | some (f, vs) => (match c.X f vs with
   | some v => some (v, M, nx)
   | none => (match c.H f vs with
    | some v => some (v, M, nx)
    | none => bif c.W f then call f vs M F nx else (match call f vs [] (M :: F) nx with | some (v, M', nx') => some (v, app2 M' M, nx') | none => none)))
  | none => (match evQ c ρ (M :: F) o with | some v => some (v, M, nx) | none => none))
 | _ => (match evQ c ρ (M :: F) o with | some v => some (v, M, nx) | none => none)
mutual
def C.lt (n : Nat) : C → Bool
 | .ptr k _ | .sl k _ _ _ | .slo k _ | .slt k _ _ _ | .sli k _ | .pel k _ _ _ => Nat.blt k n
 | .fn _ cap => C.ltL n cap
 | .big _ _ | .frm => false
 | _ => true
def C.ltL (n : Nat) : List C → Bool
 | [] => true
 | c :: cs => c.lt n && C.ltL n cs
end
mutual
def V.lt (n : Nat) : V → Bool
 | .one c => c.lt n
 | .agg cs => C.ltL n cs
 | .tup vs => V.ltL n vs
 | .any _ => true
def V.ltL (n : Nat) : List V → Bool
 | [] => true
 | v :: vs => v.lt n && V.ltL n vs
end
def evBase (c : Cfg) (call : CallF) (ρ : Operand → Option V) (o : Oper) (F : List MB) (nx : Nat) : Option V :=
 match o.op with
 | .call cl =>
  (match callee ρ cl with
  | some (f, vs) => (match c.X f vs with
   | some v => some v
   | none => (match c.H f vs with
   | some v => some v
   | none => (match call f vs [] F nx with | some (v, _, _) => bif v.lt nx then some v else none | none => none)))
  | none => evQ c ρ F o)
 | _ => evQ c ρ F o
def evFresh (c : Cfg) (call : CallF) (ρ : Operand → Option V) (o : Oper) (F : List MB) (nx : Nat) : Option (V × MB × Nat) :=
 match o.op with
 | .call cl =>
  (match callee ρ cl with
  | some (f, vs) => (match c.H f vs with
   | some v => some (v, [], nx)
   | none => call f vs [] F nx)
  | none => none)
 | _ => none
def gv (n : Nat) (fr : Tr) : Operand → Option V
 | .tmp t => bif Nat.blt t n then fr.get (t + 1) else none
 | .const v => vOf v
 | .global _ => none
 | .func f => some (.one (.fn f []))
def capOf (P : Program) (M : MB) (k : Nat) : Nat := match lkB M k with
 | some (cs, T, true) => (match P.info? T with | some i => cs.length / i.size | none => 0)
 | _ => 0
def witB (c : Cfg) (nx : Nat) (v : V) (M : MB) (nx' : Nat) : Bool :=
 Nat.ble nx nx' && v.lt nx' && M.all fun b => Nat.ble nx b.1 && Nat.blt b.1 nx' && (match b.2.1 with
  | [.big x ks] => smB c x && ((match lkL M b.1 with | some (x', _, _) => decide (x' = x) | none => false) && (match c.P.info? b.2.2.1 with | some i => Nat.beq i.size ks.length | none => false))
  | cs => (match lkL M b.1 with | some _ => false | none => true) && (C.ltL nx' cs && (!b.2.2.2 || (match c.P.info? b.2.2.1 with
   | some i => Nat.beq cs.length (capOf c.P M b.1 * i.size) && Nat.ble (capOf c.P M b.1) 4294967296
   | none => false))))
def want (c : Cfg) (n : Nat) (ops : List Oper) (fr : Tr) (o : Oper) : Option Bool :=
 match o.guard with
 | none => some true
 | some (j, w) => match (ops[j]?).bind (·.dst) with
  | none => none
  | some d => match gv n fr (.tmp d) with
   | some (.tup []) => some false
   | some v => (match asB c v with | some b => some (b == w) | none => none)
   | none => none
def putF (fr : Tr) (dst : Option Nat) (v : V) : Tr := match dst with | none => fr | some d => fr.put 12 (d + 1) v
def evOps (c : Cfg) (call : CallF) (q : Bool) (E : List (Nat × Kind)) (n : Nat) (ops : List Oper) (F : List MB) : List Oper → Tr → MB → MB → Nat → Bool → Option (Tr × MB × Nat)
 | [], fr, Mr, M0, nx, _ => some (fr, app2 Mr M0, nx)
 | o :: r, fr, Mr, M0, nx, br =>
  match want c n ops fr o with
  | none => none
  | some false => evOps c call q E n ops F r (putF fr o.dst (.tup [])) Mr M0 nx br
  | some true =>
   match kf q E o with
   | .alloc => (match evAlloc c.P (gv n fr) o with
    | some (k, cs, t) => fN nx fun nx => fCs cs fun cs => evOps c call q E n ops F r (putF fr o.dst (.one (allocC k nx))) ((nx, cs, t, false) :: Mr) M0 (nx + 1) br
    | none => none)
   | .eff => (match evE c call (gv n fr) o (app2 Mr M0) F nx with
    | some (v, M', nx') => fV v fun v => evOps c call q E n ops F r (putF fr o.dst v) M' [] nx' true
    | none => none)
   | .eff0 => bif br then none else
    (match evFresh c call (gv n fr) o (Mr :: M0 :: F) nx with
    | some (v, M', nx') => fV v fun v => evOps c call q E n ops F r (putF fr o.dst v) (app2 M' Mr) M0 nx' br
    | none => (match evE c call (gv n fr) o Mr (M0 :: F) nx, o.op with
     | some (v, M', nx'), .store .. => fV v fun v => evOps c call q E n ops F r (putF fr o.dst v) M' M0 nx' br
     | _, _ => none))
   | .fresh => (match evFresh c call (gv n fr) o (Mr :: M0 :: F) nx with
    | some (v, M', nx') => bif witB c nx v M' nx' then fV v fun v => evOps c call q E n ops F r (putF fr o.dst v) (app2 M' Mr) M0 nx' br else none
    | none => none)
   | .base => bif br then none else
    (match evBase c call (gv n fr) o (M0 :: F) nx with
    | some v => fV v fun v => evOps c call q E n ops F r (putF fr o.dst v) Mr M0 nx br
    | none => none)
   | .pure => (match evBase c call (gv n fr) o [] nx with
    | some v => fV v fun v => evOps c call q E n ops F r (putF fr o.dst v) Mr M0 nx br
    | none => none)
   | .quiet => (match evBase c call (gv n fr) o (Mr :: M0 :: F) nx with
    | some v => fV v fun v => evOps c call q E n ops F r (putF fr o.dst v) Mr M0 nx br
    | none => none)
def moveOut (fr : Tr) : List Nat → MB → MB → MB × MB
 | [], Mr, M0 => (Mr, M0)
 | t :: r, Mr, M0 => match fr.get (t + 1) with
  | some (.one (.ptr k _)) => (match outB M0 k with | some (b, M0') => moveOut fr r (b :: Mr) M0' | none => moveOut fr r Mr M0)
  | _ => moveOut fr r Mr M0
def initT (args : List V) : Tr := go 1 args .leaf
where go : Nat → List V → Tr → Tr
 | _, [], f => f
 | i, v :: r, f => go (i + 1) r (f.put 12 i v)
def resV (P : Program) (n : Nat) (fr : Tr) (m : List MB) : List ResultVar → Option (List V)
 | [] => some []
 | r :: rs =>
  match (match r with
   | .tmp t => gv n fr (.tmp t)
   | .cell a t => (match gv n fr (.tmp a) with
    | some (.one (.ptr k off)) => (match lkM m k with | some (cs, _, _) => partC P t cs off | none => none)
    | _ => none)), resV P n fr m rs with
  | some v, some l => some (v :: l)
  | _, _ => none
def fid : Code → Nat
 | .region id _ _ => id
 | .seq a _ => fid a
 | .cond _ a _ => fid a
 | .block _ a => fid a
 | .loop a => fid a
 | _ => 0
def loopsOf : Code → List Code
 | .seq a b => loopsOf a ++ loopsOf b
 | .cond _ a b => loopsOf a ++ loopsOf b
 | .block _ a => loopsOf a
 | .loop a => a :: loopsOf a
 | _ => []
def oneV : List V → V
 | [v] => v
 | vs => .tup vs
def evC (c : Cfg) : Nat → Nat → Nat → Code → Tr → MB → List MB → Nat → Option (Ex × Tr × MB × Nat)
 | 0, _, _, _, _, _, _, _ => none
 | d + 1, f, n, code, fr, M, F, nx =>
  let call : CallF := fun f vs M F nx =>
   match c.B c.D f vs M F nx with
   | some r => some r
   | none =>
   match c.P.funcs[f]? with
   | some fn => bif isFn c.P f && Nat.ble vs.length fn.ntmps then
    (match fn.body with
    | some b => (match evC c d f fn.ntmps b (initT vs) M F nx with
     | some (.ret, fr, M, nx) | some (.normal, fr, M, nx) => (match resV c.P fn.ntmps fr (M :: F) fn.results.toList with | some vs => some (oneV vs, M, nx) | none => none)
     | _ => none)
    | none => none) else none
   | none => none
  match code with
  | .skip => some (.normal, fr, M, nx)
  | .ret => some (.ret, fr, M, nx)
  | .exit id => some (.exit id, fr, M, nx)
  | .seq a b => (match evC c d f n a fr M F nx with
   | some (.normal, fr, M, nx) => evC c d f n b fr M F nx
   | r => r)
  | .cond x a b => (match gv n fr x with
   | some v => (match asB c v with
    | some t => bif t then evC c d f n a fr M F nx else evC c d f n b fr M F nx
    | none => none)
   | none => none)
  | .block id a => (match evC c d f n a fr M F nx with
   | some (.exit id', fr, M, nx) => bif Nat.beq id' id then some (.normal, fr, M, nx) else some (.exit id', fr, M, nx)
   | r => r)
  | .loop a => (match c.L f (fid a) c.D fr M F nx with
   | some r => some r
   | none => (match evC c d f n a fr M F nx with
    | some (.normal, fr, M, nx) => evC c d f n (.loop a) fr M F nx
    | r => r))
  | .region id ops q =>
   let r := match q with
    | true => bif drawOK ops.toList (c.E f id) then (match moveOut fr (c.S f id) [] M with | (Mr, M0) => evOps c call true (c.E f id) n ops.toList F ops.toList fr Mr M0 nx false) else none
    | false => evOps c call false [] n ops.toList F ops.toList fr M [] nx false
   (match r with | some (fr, M, nx) => some (.normal, fr, M, nx) | none => none)
  | _ => none
def evF (c : Cfg) (d : Nat) (f : Nat) (vs : List V) (M : MB) (F : List MB) (nx : Nat) : Option (V × MB × Nat) :=
 match c.P.funcs[f]? with
 | some fn => bif isFn c.P f && Nat.ble vs.length fn.ntmps then
  (match fn.body with
  | some b => (match evC c d f fn.ntmps b (initT vs) M F nx with
   | some (.ret, fr, M, nx) | some (.normal, fr, M, nx) => (match resV c.P fn.ntmps fr (M :: F) fn.results.toList with | some vs => some (oneV vs, M, nx) | none => none)
   | _ => none)
  | none => none) else none
 | none => none
end Go.Proofs.Ytedfbamihjnhhaa.Own
