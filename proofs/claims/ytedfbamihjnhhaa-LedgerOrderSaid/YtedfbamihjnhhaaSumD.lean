/- Sums of bodies by numbers, in whatever order: the reckoned walk's hook. -/
import Derived.Test.YtedfbamihjnhhaaEvG
import Derived.Test.YtedfbamihjnhhaaEvX
namespace Go.Proofs.Ytedfbamihjnhhaa.Own
open Go Go.RowKit Go.Proofs
set_option linter.unusedVariables false
set_option linter.unusedSimpArgs false
set_option maxRecDepth 100000
def atM (j : Nat) : C × C := (.opq (.mx .i64 (.bin .add .i64 (.lit .i64 1) (.bin .rem .i64 (.conv .i64 (.ivar .u8 (4 * j + 2))) (.lit .i64 9))) (.lit .i64 (-9223372036854775807))), .int .u64 0)
def atX (j : Nat) : C × C := (.opq (.bin .sub .i64 (.conv .i64 (.bin .rem .u8 (.ivar .u8 (4 * j + 3)) (.lit .u8 7))) (.lit .i64 3)), .opq (.conv .u64 (.ivar .u8 (4 * j))))
def atY (j : Nat) : C × C := (.opq (.bin .sub .i64 (.conv .i64 (.bin .rem .u8 (.ivar .u8 (4 * j + 2)) (.lit .u8 5))) (.lit .i64 2)), .opq (.bin .shl .u64 (.conv .u64 (.ivar .u8 (4 * j + 3))) (.lit .u64 60)))
/-- the numbers that are summed, by their cells; number i is the i-th -/
def ats : Nat → List (C × C)
  | 0 => []
  | n + 1 => ats n ++ [atM n, atX n, atY n]
def findAt : List (C × C) → C → C → Nat → Option Nat
  | [], _, _, _ => none
  | (a, b) :: r, h, l, i => bif eqcB a h && eqcB b l then some i else findAt r h l (i + 1)
def enco : List Nat → SE
  | [] => .nil
  | i :: r => .cons (.lit .i64 (Int.ofNat i)) (enco r)
def deco : SE → Option (List Nat)
  | .nil => some []
  | .cons (.lit .i64 (.ofNat i)) r => (match deco r with | some l => some (i :: l) | none => none)
  | _ => none
def isZ : C → C → Bool
  | .int .i64 n, .int .u64 m => decide (n = 0) && decide (m = 0)
  | _, _ => false
def toSum (at_ : List (C × C)) (h l : C) : Option (List Nat) :=
  bif isZ h l then some [] else
  match h, l with
  | .opq (.app 900 0 (some .i64) L), .opq (.app 900 1 (some .u64) L') => bif decide (L = L') then (match deco L with | some A => bif Nat.ble A.length 16 && A.all (fun i => Nat.ble i 1000) then some A else none | none => none) else none
  | h, l => (match findAt at_ h l 0 with | some i => some [i] | none => none)
def insS (i : Nat) : List Nat → List Nat
  | [] => [i]
  | j :: r => bif Nat.ble i j then i :: j :: r else j :: insS i r
def merS : List Nat → List Nat → List Nat
  | [], B => B
  | i :: A, B => insS i (merS A B)
def sumC (L : SE) : List C := [.opq (.app 900 0 (some .i64) L), .opq (.app 900 1 (some .u64) L)]
def hAdd (at_ : List (C × C)) : List V → Option SE
  | [.agg [h1, l1], .agg [h2, l2]] => (match toSum at_ h1 l1, toSum at_ h2 l2 with
    | some A, some B => bif Nat.ble (merS A B).length 16 && (merS A B).all (fun i => Nat.ble i 1000) then some (enco (merS A B)) else none
    | _, _ => none)
  | _ => none
def hSum (at_ : List (C × C)) : Hook := fun f vs =>
  bif Nat.beq f 29 then (match hAdd at_ vs with | some L => some (.tup [.agg (sumC L), .one (.int .i64 0)]) | none => none)
  else bif Nat.beq f 19 then (match hAdd at_ vs with | some L => some (.agg (sumC L ++ [.int .i64 0])) | none => none)
  else bif Nat.beq f 11 then (match vs with | [] => some (.one (.bool true)) | _ => none)
  else none
def loVl : List (Nat × SE) := [(0, .ivar .i64 202)]
def loVi (n : Nat) : List (Nat × Nat × Nat) := [(0, 0, 4 * n)]
def loKs (n r : Nat) : List (SE × IntKind × Int) := (List.range n).map fun i => (.bin .rem .i64 (.bin .add .i64 (.lit .i64 (Int.ofNat (n - 1 - i))) (.conv .i64 (.ivar .u8 201))) (.lit .i64 (Int.ofNat n)), .i64, Int.ofNat ((n - 1 - i + r) % n))
def loDs (n : Nat) (last : Bool) : List (SE × Bool) := [(.cmp .lss (.lit .i64 (Int.ofNat (4 * n + 3))) (.ivar .i64 202), last)] ++ (List.range n).map fun i => (.cmp .lss (.lit .i64 (Int.ofNat (4 * i + 3))) (.ivar .i64 202), true)
def loF (n : Nat) : List MB := [[(0, (List.range (4 * n)).map fun i => .opq (.ivar .u8 i), 5, false)]]
def loA : List V := [.one (.val 0), .one (.opq (.ivar .u8 200)), .one (.opq (.ivar .u8 201))]
def loCfg (b : Cfg) (n r : Nat) (last : Bool) : Cfg := { P := b.P, X := b.X, H := hSum (ats n), G := gX b.P loVl (loVi n) (loKs n r), D := dS (loDs n last), E := b.E, S := b.S, L := fun _ _ _ _ _ _ => none }
end Go.Proofs.Ytedfbamihjnhhaa.Own
