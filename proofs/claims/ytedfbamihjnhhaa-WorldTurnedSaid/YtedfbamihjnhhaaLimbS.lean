/- Shifts to the left: what the code computes. -/
import Derived.Test.YtedfbamihjnhhaaProg
import Derived.Test.YtedfbamihjnhhaaLimbL
import Derived.Below
import Derived.Deep.Draws
import Derived.Deep.AppendLies
import Derived.Maps.AppendAt
import Derived.OwnWalk
import Derived.Laws.BytesArg
import Derived.Laws.MakeOwn
import Derived.Laws.OwnMore
import Derived.Deep.OwnRows
import Derived.Tactics
import Derived.Lib.ConvBytes
import Derived.Laws.Slices
import Derived.WalkKit
import Derived.KernelRfl
import Derived.RowKit3
import Derived.Deep.LoopGhost
import Derived.Deep.QuietTactic
import Derived.BigQuiet
import Derived.WideLaws
import Derived.Deep.DeepCutAuto
import Derived.Deep.CutBlock
import Derived.Deep.RegionHeld3
import Derived.Laws.Rows
import Derived.Lib.AppendStr
import Derived.ArgAppend
import Derived.Laws.IdiomCopy
import Derived.OrdersHeld
import Derived.Laws.BitsLemmas
import Derived.RowKit
import Derived.Handy
import Derived.RegionTactic
import Derived.Laws.BitsAllLaws
import Derived.Laws.Externs
import Derived.Lib.Hide
import Derived.Shelf.Spec.BitsCarry
import Derived.Test.YtedfbamihjnhhaaWide
namespace Go.Proofs.Ytedfbamihjnhhaa.Limb
set_option maxRecDepth 100000
open Go.RowKit Go.Proofs.Ytedfbamihjnhhaa.Plain
set_option linter.unusedVariables false
set_option linter.unusedSimpArgs false

theorem pow_cast (s : Nat) : (2 : Int) ^ s = ((2 ^ s : Nat) : Int) := by rw [Int.natCast_pow]; rfl
theorem wrapN (n : Nat) : IntKind.u64.wrap (n : Int) = ((n % 18446744073709551616 : Nat) : Int) := by rw [IntKind.wrap_u64]; omega
theorem shlw (x s : Nat) : IntKind.u64.wrap ((x : Int) * 2 ^ s) = ((x * 2 ^ s % 18446744073709551616 : Nat) : Int) := by rw [pow_cast, ← Int.natCast_mul, wrapN]
theorem shrw (x s : Nat) : (x : Int) / 2 ^ s = ((x / 2 ^ s : Nat) : Int) := by rw [pow_cast, ← Int.natCast_ediv]
theorem shrw1 (x s : Nat) : (x : Int) / 2 / 2 ^ s = ((x / 2 / 2 ^ s : Nat) : Int) := by rw [show (x : Int) / 2 = ((x / 2 : Nat) : Int) by omega, shrw]
theorem shlw1 (x s : Nat) : IntKind.u64.wrap (IntKind.u64.wrap ((x : Int) * 2) * 2 ^ s) = ((x * 2 % 18446744073709551616 * 2 ^ s % 18446744073709551616 : Nat) : Int) := by
  have e : IntKind.u64.wrap ((x : Int) * 2) = ((x * 2 % 18446744073709551616 : Nat) : Int) := by rw [IntKind.wrap_u64]; omega
  rw [e, shlw]
theorem or_shl (x y s t : Nat) (hy : y < 18446744073709551616) : Go.bits .or .u64 (IntKind.u64.wrap ((x : Int) * 2 ^ s)) ((y : Int) / 2 / 2 ^ t) = ((x * 2 ^ s % 18446744073709551616 ||| y / 2 / 2 ^ t : Nat) : Int) := by
  rw [shlw, shrw1]
  exact u64_or_nat _ _ (Nat.mod_lt _ (by decide)) (Nat.lt_of_le_of_lt (Nat.div_le_self _ _) (by omega))
theorem or_shr (x y s t : Nat) (hx : x < 18446744073709551616) : Go.bits .or .u64 ((x : Int) / 2 ^ s) (IntKind.u64.wrap (IntKind.u64.wrap ((y : Int) * 2) * 2 ^ t)) = ((x / 2 ^ s ||| y * 2 % 18446744073709551616 * 2 ^ t % 18446744073709551616 : Nat) : Int) := by
  rw [shlw1, shrw]
  exact u64_or_nat _ _ (Nat.lt_of_le_of_lt (Nat.div_le_self _ _) hx) (Nat.mod_lt _ (by decide))
theorem or_lt (x y : Nat) (hx : x < 18446744073709551616) (hy : y < 18446744073709551616) : x ||| y < 18446744073709551616 := Nat.or_lt_two_pow (n := 64) hx hy
theorem modw_lt (x : Nat) : x % 18446744073709551616 < 18446744073709551616 := Nat.mod_lt _ (by decide)
theorem divw_lt (x y : Nat) (hx : x < 18446744073709551616) : x / y < 18446744073709551616 := Nat.lt_of_le_of_lt (Nat.div_le_self _ _) hx
set_option maxRecDepth 100000 in
set_option maxHeartbeats 8000000 in
theorem shl_0 (a b c d : Nat) (s : Nat) (hs : s < 64) (w : World) :
    Calls Try.prog 143 #[.agg #[.int .u64 a, .int .u64 b, .int .u64 c, .int .u64 d], .int .i64 ((s : Nat) : Int)] w fun e w' => e = .returned (.agg #[.int .u64 (Go.bits .or .u64 (IntKind.u64.wrap ((a : Int) * 2 ^ s)) ((b : Int) / 2 / 2 ^ (63 - s))), .int .u64 (Go.bits .or .u64 (IntKind.u64.wrap ((b : Int) * 2 ^ s)) ((c : Int) / 2 / 2 ^ (63 - s))), .int .u64 (Go.bits .or .u64 (IntKind.u64.wrap ((c : Int) * 2 ^ s)) ((d : Int) / 2 / 2 ^ (63 - s))), .int .u64 (IntKind.u64.wrap ((d : Int) * 2 ^ s))]) ∧ Below w.heap.size w w' := by
  have hq' : (s : Int) / 64 = 0 := by omega
  have hs' : (s : Int) % 64 = (s : Int) := by omega
  have hu79 := Try.underlying79
  have hu86 := Try.underlying86
  have hu179 := Try.underlying179
  go_enter Try.func143, Try.ntmps143
  go_wp2_with (go_at_call 148; refine (limb_list.calls0 _ _ _ _ _).mono ?_; rintro e w1 ⟨rfl, hb1⟩)
  have hb2 : Below w.heap.size w w1 := Below.trans (by go_grown) (hb1.mono (by simp; omega))
  have hz : w.heap.size + 2 ≤ w1.heap.size := by have := hb1.size; simp at this; omega
  obtain ⟨hc, hf⟩ := bcell hb1
  clear hb1
  go_wp2
  refine wp_loop_rounds 5 ?_
  repeat any_goals (first | (rw [rounds_succ]; go_wp2_with fail) | (go_region; go_wp2_with fail))
  refine (limb_four.calls0 _ _ _ _ _).mono ?_
  rintro e w3 ⟨rfl, hb3⟩
  have hb4 : Below w.heap.size w w3 := Below.trans (by go_grown) (hb3.mono (by simp; omega))
  have hb5 : Below w1.heap.size w1 w3 := Below.trans (by go_grown) (hb3.mono (by simp; omega))
  have c0 : w3.cell? ⟨w.heap.size + 1, 0, none⟩ = some (.int .u64 0) := (hb5.cell (p := ⟨w.heap.size + 1, 0, none⟩) (by show w.heap.size + 1 < w1.heap.size; omega)).trans ((hc _ _ (by simp)).trans (by simp))
  have f0 : w3.frozen? ⟨w.heap.size + 1, 0, none⟩ = false := (hb5.frozen (p := ⟨w.heap.size + 1, 0, none⟩) (by show w.heap.size + 1 < w1.heap.size; omega)).trans ((hf _ _ (by simp)).trans (by simp))
  have c1 : w3.cell? ⟨w.heap.size + 1, 1, none⟩ = some (.int .u64 0) := (hb5.cell (p := ⟨w.heap.size + 1, 1, none⟩) (by show w.heap.size + 1 < w1.heap.size; omega)).trans ((hc _ _ (by simp)).trans (by simp))
  have f1 : w3.frozen? ⟨w.heap.size + 1, 1, none⟩ = false := (hb5.frozen (p := ⟨w.heap.size + 1, 1, none⟩) (by show w.heap.size + 1 < w1.heap.size; omega)).trans ((hf _ _ (by simp)).trans (by simp))
  have c2 : w3.cell? ⟨w.heap.size + 1, 2, none⟩ = some (.int .u64 0) := (hb5.cell (p := ⟨w.heap.size + 1, 2, none⟩) (by show w.heap.size + 1 < w1.heap.size; omega)).trans ((hc _ _ (by simp)).trans (by simp))
  have f2 : w3.frozen? ⟨w.heap.size + 1, 2, none⟩ = false := (hb5.frozen (p := ⟨w.heap.size + 1, 2, none⟩) (by show w.heap.size + 1 < w1.heap.size; omega)).trans ((hf _ _ (by simp)).trans (by simp))
  have c3 : w3.cell? ⟨w.heap.size + 1, 3, none⟩ = some (.int .u64 0) := (hb5.cell (p := ⟨w.heap.size + 1, 3, none⟩) (by show w.heap.size + 1 < w1.heap.size; omega)).trans ((hc _ _ (by simp)).trans (by simp))
  have f3 : w3.frozen? ⟨w.heap.size + 1, 3, none⟩ = false := (hb5.frozen (p := ⟨w.heap.size + 1, 3, none⟩) (by show w.heap.size + 1 < w1.heap.size; omega)).trans ((hf _ _ (by simp)).trans (by simp))
  clear hb3 hb2 hb5
  go_wp2
  refine bodyPost_ret (v := .agg #[.int .u64 (Go.bits .or .u64 (IntKind.u64.wrap ((a : Int) * 2 ^ s)) ((b : Int) / 2 / 2 ^ (63 - s))), .int .u64 (Go.bits .or .u64 (IntKind.u64.wrap ((b : Int) * 2 ^ s)) ((c : Int) / 2 / 2 ^ (63 - s))), .int .u64 (Go.bits .or .u64 (IntKind.u64.wrap ((c : Int) * 2 ^ s)) ((d : Int) / 2 / 2 ^ (63 - s))), .int .u64 (IntKind.u64.wrap ((d : Int) * 2 ^ s))]) (by simp [results, Try.results143, go_sem, c0, c1, c2, c3]) rfl ⟨rfl, ?_⟩
  go_grown
set_option maxRecDepth 100000 in
set_option maxHeartbeats 8000000 in
theorem shl_1 (a b c d : Nat) (s : Nat) (hs : s < 64) (w : World) :
    Calls Try.prog 143 #[.agg #[.int .u64 a, .int .u64 b, .int .u64 c, .int .u64 d], .int .i64 ((64 + s : Nat) : Int)] w fun e w' => e = .returned (.agg #[.int .u64 (Go.bits .or .u64 (IntKind.u64.wrap ((b : Int) * 2 ^ s)) ((c : Int) / 2 / 2 ^ (63 - s))), .int .u64 (Go.bits .or .u64 (IntKind.u64.wrap ((c : Int) * 2 ^ s)) ((d : Int) / 2 / 2 ^ (63 - s))), .int .u64 (IntKind.u64.wrap ((d : Int) * 2 ^ s)), .int .u64 0]) ∧ Below w.heap.size w w' := by
  have hq' : ((64 : Int) + (s : Int)) / 64 = 1 := by omega
  have hs' : ((64 : Int) + (s : Int)) % 64 = (s : Int) := by omega
  have hu79 := Try.underlying79
  have hu86 := Try.underlying86
  have hu179 := Try.underlying179
  go_enter Try.func143, Try.ntmps143
  go_wp2_with (go_at_call 148; refine (limb_list.calls0 _ _ _ _ _).mono ?_; rintro e w1 ⟨rfl, hb1⟩)
  have hb2 : Below w.heap.size w w1 := Below.trans (by go_grown) (hb1.mono (by simp; omega))
  have hz : w.heap.size + 2 ≤ w1.heap.size := by have := hb1.size; simp at this; omega
  obtain ⟨hc, hf⟩ := bcell hb1
  clear hb1
  go_wp2
  refine wp_loop_rounds 5 ?_
  repeat any_goals (first | (rw [rounds_succ]; go_wp2_with fail) | (go_region; go_wp2_with fail))
  refine (limb_four.calls0 _ _ _ _ _).mono ?_
  rintro e w3 ⟨rfl, hb3⟩
  have hb4 : Below w.heap.size w w3 := Below.trans (by go_grown) (hb3.mono (by simp; omega))
  have hb5 : Below w1.heap.size w1 w3 := Below.trans (by go_grown) (hb3.mono (by simp; omega))
  have c0 : w3.cell? ⟨w.heap.size + 1, 0, none⟩ = some (.int .u64 0) := (hb5.cell (p := ⟨w.heap.size + 1, 0, none⟩) (by show w.heap.size + 1 < w1.heap.size; omega)).trans ((hc _ _ (by simp)).trans (by simp))
  have f0 : w3.frozen? ⟨w.heap.size + 1, 0, none⟩ = false := (hb5.frozen (p := ⟨w.heap.size + 1, 0, none⟩) (by show w.heap.size + 1 < w1.heap.size; omega)).trans ((hf _ _ (by simp)).trans (by simp))
  have c1 : w3.cell? ⟨w.heap.size + 1, 1, none⟩ = some (.int .u64 0) := (hb5.cell (p := ⟨w.heap.size + 1, 1, none⟩) (by show w.heap.size + 1 < w1.heap.size; omega)).trans ((hc _ _ (by simp)).trans (by simp))
  have f1 : w3.frozen? ⟨w.heap.size + 1, 1, none⟩ = false := (hb5.frozen (p := ⟨w.heap.size + 1, 1, none⟩) (by show w.heap.size + 1 < w1.heap.size; omega)).trans ((hf _ _ (by simp)).trans (by simp))
  have c2 : w3.cell? ⟨w.heap.size + 1, 2, none⟩ = some (.int .u64 0) := (hb5.cell (p := ⟨w.heap.size + 1, 2, none⟩) (by show w.heap.size + 1 < w1.heap.size; omega)).trans ((hc _ _ (by simp)).trans (by simp))
  have f2 : w3.frozen? ⟨w.heap.size + 1, 2, none⟩ = false := (hb5.frozen (p := ⟨w.heap.size + 1, 2, none⟩) (by show w.heap.size + 1 < w1.heap.size; omega)).trans ((hf _ _ (by simp)).trans (by simp))
  have c3 : w3.cell? ⟨w.heap.size + 1, 3, none⟩ = some (.int .u64 0) := (hb5.cell (p := ⟨w.heap.size + 1, 3, none⟩) (by show w.heap.size + 1 < w1.heap.size; omega)).trans ((hc _ _ (by simp)).trans (by simp))
  have f3 : w3.frozen? ⟨w.heap.size + 1, 3, none⟩ = false := (hb5.frozen (p := ⟨w.heap.size + 1, 3, none⟩) (by show w.heap.size + 1 < w1.heap.size; omega)).trans ((hf _ _ (by simp)).trans (by simp))
  clear hb3 hb2 hb5
  go_wp2
  refine bodyPost_ret (v := .agg #[.int .u64 (Go.bits .or .u64 (IntKind.u64.wrap ((b : Int) * 2 ^ s)) ((c : Int) / 2 / 2 ^ (63 - s))), .int .u64 (Go.bits .or .u64 (IntKind.u64.wrap ((c : Int) * 2 ^ s)) ((d : Int) / 2 / 2 ^ (63 - s))), .int .u64 (IntKind.u64.wrap ((d : Int) * 2 ^ s)), .int .u64 0]) (by simp [results, Try.results143, go_sem, c0, c1, c2, c3]) rfl ⟨rfl, ?_⟩
  go_grown
set_option maxRecDepth 100000 in
set_option maxHeartbeats 8000000 in
theorem shl_2 (a b c d : Nat) (s : Nat) (hs : s < 64) (w : World) :
    Calls Try.prog 143 #[.agg #[.int .u64 a, .int .u64 b, .int .u64 c, .int .u64 d], .int .i64 ((128 + s : Nat) : Int)] w fun e w' => e = .returned (.agg #[.int .u64 (Go.bits .or .u64 (IntKind.u64.wrap ((c : Int) * 2 ^ s)) ((d : Int) / 2 / 2 ^ (63 - s))), .int .u64 (IntKind.u64.wrap ((d : Int) * 2 ^ s)), .int .u64 0, .int .u64 0]) ∧ Below w.heap.size w w' := by
  have hq' : ((128 : Int) + (s : Int)) / 64 = 2 := by omega
  have hs' : ((128 : Int) + (s : Int)) % 64 = (s : Int) := by omega
  have hu79 := Try.underlying79
  have hu86 := Try.underlying86
  have hu179 := Try.underlying179
  go_enter Try.func143, Try.ntmps143
  go_wp2_with (go_at_call 148; refine (limb_list.calls0 _ _ _ _ _).mono ?_; rintro e w1 ⟨rfl, hb1⟩)
  have hb2 : Below w.heap.size w w1 := Below.trans (by go_grown) (hb1.mono (by simp; omega))
  have hz : w.heap.size + 2 ≤ w1.heap.size := by have := hb1.size; simp at this; omega
  obtain ⟨hc, hf⟩ := bcell hb1
  clear hb1
  go_wp2
  refine wp_loop_rounds 5 ?_
  repeat any_goals (first | (rw [rounds_succ]; go_wp2_with fail) | (go_region; go_wp2_with fail))
  refine (limb_four.calls0 _ _ _ _ _).mono ?_
  rintro e w3 ⟨rfl, hb3⟩
  have hb4 : Below w.heap.size w w3 := Below.trans (by go_grown) (hb3.mono (by simp; omega))
  have hb5 : Below w1.heap.size w1 w3 := Below.trans (by go_grown) (hb3.mono (by simp; omega))
  have c0 : w3.cell? ⟨w.heap.size + 1, 0, none⟩ = some (.int .u64 0) := (hb5.cell (p := ⟨w.heap.size + 1, 0, none⟩) (by show w.heap.size + 1 < w1.heap.size; omega)).trans ((hc _ _ (by simp)).trans (by simp))
  have f0 : w3.frozen? ⟨w.heap.size + 1, 0, none⟩ = false := (hb5.frozen (p := ⟨w.heap.size + 1, 0, none⟩) (by show w.heap.size + 1 < w1.heap.size; omega)).trans ((hf _ _ (by simp)).trans (by simp))
  have c1 : w3.cell? ⟨w.heap.size + 1, 1, none⟩ = some (.int .u64 0) := (hb5.cell (p := ⟨w.heap.size + 1, 1, none⟩) (by show w.heap.size + 1 < w1.heap.size; omega)).trans ((hc _ _ (by simp)).trans (by simp))
  have f1 : w3.frozen? ⟨w.heap.size + 1, 1, none⟩ = false := (hb5.frozen (p := ⟨w.heap.size + 1, 1, none⟩) (by show w.heap.size + 1 < w1.heap.size; omega)).trans ((hf _ _ (by simp)).trans (by simp))
  have c2 : w3.cell? ⟨w.heap.size + 1, 2, none⟩ = some (.int .u64 0) := (hb5.cell (p := ⟨w.heap.size + 1, 2, none⟩) (by show w.heap.size + 1 < w1.heap.size; omega)).trans ((hc _ _ (by simp)).trans (by simp))
  have f2 : w3.frozen? ⟨w.heap.size + 1, 2, none⟩ = false := (hb5.frozen (p := ⟨w.heap.size + 1, 2, none⟩) (by show w.heap.size + 1 < w1.heap.size; omega)).trans ((hf _ _ (by simp)).trans (by simp))
  have c3 : w3.cell? ⟨w.heap.size + 1, 3, none⟩ = some (.int .u64 0) := (hb5.cell (p := ⟨w.heap.size + 1, 3, none⟩) (by show w.heap.size + 1 < w1.heap.size; omega)).trans ((hc _ _ (by simp)).trans (by simp))
  have f3 : w3.frozen? ⟨w.heap.size + 1, 3, none⟩ = false := (hb5.frozen (p := ⟨w.heap.size + 1, 3, none⟩) (by show w.heap.size + 1 < w1.heap.size; omega)).trans ((hf _ _ (by simp)).trans (by simp))
  clear hb3 hb2 hb5
  go_wp2
  refine bodyPost_ret (v := .agg #[.int .u64 (Go.bits .or .u64 (IntKind.u64.wrap ((c : Int) * 2 ^ s)) ((d : Int) / 2 / 2 ^ (63 - s))), .int .u64 (IntKind.u64.wrap ((d : Int) * 2 ^ s)), .int .u64 0, .int .u64 0]) (by simp [results, Try.results143, go_sem, c0, c1, c2, c3]) rfl ⟨rfl, ?_⟩
  go_grown
set_option maxRecDepth 100000 in
set_option maxHeartbeats 8000000 in
theorem shl_3 (a b c d : Nat) (s : Nat) (hs : s < 64) (w : World) :
    Calls Try.prog 143 #[.agg #[.int .u64 a, .int .u64 b, .int .u64 c, .int .u64 d], .int .i64 ((192 + s : Nat) : Int)] w fun e w' => e = .returned (.agg #[.int .u64 (IntKind.u64.wrap ((d : Int) * 2 ^ s)), .int .u64 0, .int .u64 0, .int .u64 0]) ∧ Below w.heap.size w w' := by
  have hq' : ((192 : Int) + (s : Int)) / 64 = 3 := by omega
  have hs' : ((192 : Int) + (s : Int)) % 64 = (s : Int) := by omega
  have hu79 := Try.underlying79
  have hu86 := Try.underlying86
  have hu179 := Try.underlying179
  go_enter Try.func143, Try.ntmps143
  go_wp2_with (go_at_call 148; refine (limb_list.calls0 _ _ _ _ _).mono ?_; rintro e w1 ⟨rfl, hb1⟩)
  have hb2 : Below w.heap.size w w1 := Below.trans (by go_grown) (hb1.mono (by simp; omega))
  have hz : w.heap.size + 2 ≤ w1.heap.size := by have := hb1.size; simp at this; omega
  obtain ⟨hc, hf⟩ := bcell hb1
  clear hb1
  go_wp2
  refine wp_loop_rounds 5 ?_
  repeat any_goals (first | (rw [rounds_succ]; go_wp2_with fail) | (go_region; go_wp2_with fail))
  refine (limb_four.calls0 _ _ _ _ _).mono ?_
  rintro e w3 ⟨rfl, hb3⟩
  have hb4 : Below w.heap.size w w3 := Below.trans (by go_grown) (hb3.mono (by simp; omega))
  have hb5 : Below w1.heap.size w1 w3 := Below.trans (by go_grown) (hb3.mono (by simp; omega))
  have c0 : w3.cell? ⟨w.heap.size + 1, 0, none⟩ = some (.int .u64 0) := (hb5.cell (p := ⟨w.heap.size + 1, 0, none⟩) (by show w.heap.size + 1 < w1.heap.size; omega)).trans ((hc _ _ (by simp)).trans (by simp))
  have f0 : w3.frozen? ⟨w.heap.size + 1, 0, none⟩ = false := (hb5.frozen (p := ⟨w.heap.size + 1, 0, none⟩) (by show w.heap.size + 1 < w1.heap.size; omega)).trans ((hf _ _ (by simp)).trans (by simp))
  have c1 : w3.cell? ⟨w.heap.size + 1, 1, none⟩ = some (.int .u64 0) := (hb5.cell (p := ⟨w.heap.size + 1, 1, none⟩) (by show w.heap.size + 1 < w1.heap.size; omega)).trans ((hc _ _ (by simp)).trans (by simp))
  have f1 : w3.frozen? ⟨w.heap.size + 1, 1, none⟩ = false := (hb5.frozen (p := ⟨w.heap.size + 1, 1, none⟩) (by show w.heap.size + 1 < w1.heap.size; omega)).trans ((hf _ _ (by simp)).trans (by simp))
  have c2 : w3.cell? ⟨w.heap.size + 1, 2, none⟩ = some (.int .u64 0) := (hb5.cell (p := ⟨w.heap.size + 1, 2, none⟩) (by show w.heap.size + 1 < w1.heap.size; omega)).trans ((hc _ _ (by simp)).trans (by simp))
  have f2 : w3.frozen? ⟨w.heap.size + 1, 2, none⟩ = false := (hb5.frozen (p := ⟨w.heap.size + 1, 2, none⟩) (by show w.heap.size + 1 < w1.heap.size; omega)).trans ((hf _ _ (by simp)).trans (by simp))
  have c3 : w3.cell? ⟨w.heap.size + 1, 3, none⟩ = some (.int .u64 0) := (hb5.cell (p := ⟨w.heap.size + 1, 3, none⟩) (by show w.heap.size + 1 < w1.heap.size; omega)).trans ((hc _ _ (by simp)).trans (by simp))
  have f3 : w3.frozen? ⟨w.heap.size + 1, 3, none⟩ = false := (hb5.frozen (p := ⟨w.heap.size + 1, 3, none⟩) (by show w.heap.size + 1 < w1.heap.size; omega)).trans ((hf _ _ (by simp)).trans (by simp))
  clear hb3 hb2 hb5
  go_wp2
  refine bodyPost_ret (v := .agg #[.int .u64 (IntKind.u64.wrap ((d : Int) * 2 ^ s)), .int .u64 0, .int .u64 0, .int .u64 0]) (by simp [results, Try.results143, go_sem, c0, c1, c2, c3]) rfl ⟨rfl, ?_⟩
  go_grown

set_option maxRecDepth 100000 in
theorem shl_neg (a b c d : Int) (n : Int) (hn : n < 0) (w : World) :
    Calls Try.prog 143 #[.agg #[.int .u64 a, .int .u64 b, .int .u64 c, .int .u64 d], .int .i64 n] w fun e w' => e = .returned (.agg #[.int .u64 a, .int .u64 b, .int .u64 c, .int .u64 d]) ∧ Below w.heap.size w w' := by
  have hu79 := Try.underlying79
  have hu86 := Try.underlying86
  have hu179 := Try.underlying179
  go_enter Try.func143, Try.ntmps143
  go_wp2
  refine bodyPost_ret (v := .agg #[.int .u64 a, .int .u64 b, .int .u64 c, .int .u64 d]) (by simp [results, Try.results143, go_sem]) rfl ⟨rfl, ?_⟩
  go_grown
set_option maxRecDepth 100000 in
theorem shl_big (a b c d : Int) (n : Int) (hn : 256 ≤ n) (w : World) :
    Calls Try.prog 143 #[.agg #[.int .u64 a, .int .u64 b, .int .u64 c, .int .u64 d], .int .i64 n] w fun e w' => e = .returned (.agg #[.int .u64 0, .int .u64 0, .int .u64 0, .int .u64 0]) ∧ Below w.heap.size w w' := by
  have hu79 := Try.underlying79
  have hu86 := Try.underlying86
  have hu179 := Try.underlying179
  go_enter Try.func143, Try.ntmps143
  go_wp2
  refine bodyPost_ret (v := .agg #[.int .u64 0, .int .u64 0, .int .u64 0, .int .u64 0]) (by simp [results, Try.results143, go_sem]) rfl ⟨rfl, ?_⟩
  go_grown
def limb_Shl.f (a0_0 a0_1 a0_2 a0_3 a1 : Int) : Option (Int × Int × Int × Int) :=
  if Wd a0_0 ∧ Wd a0_1 ∧ Wd a0_2 ∧ Wd a0_3 then some (if a1 < 0 then (a0_0, a0_1, a0_2, a0_3) else e4 (shlN (n4 a0_0 a0_1 a0_2 a0_3) a1.toNat)) else none
theorem limb_Shl.calls (a0_0 a0_1 a0_2 a0_3 a1 : Int) (r1 r2 r3 r4 : Int) (w : World) (h : limb_Shl.f a0_0 a0_1 a0_2 a0_3 a1 = some (r1, r2, r3, r4)) :
    Calls Try.prog 143 #[.agg #[.int .u64 a0_0, .int .u64 a0_1, .int .u64 a0_2, .int .u64 a0_3], .int .i64 a1] w fun e w' => e = .returned (.agg #[.int .u64 r1, .int .u64 r2, .int .u64 r3, .int .u64 r4]) ∧ Below w.heap.size w w' := by
  unfold limb_Shl.f at h
  split at h
  · rename_i hb
    obtain ⟨b1, b2, b3, b4⟩ := hb
    obtain ⟨a, rfl, la⟩ := b1.nat
    obtain ⟨b, rfl, lb⟩ := b2.nat
    obtain ⟨c, rfl, lc⟩ := b3.nat
    obtain ⟨d, rfl, ld⟩ := b4.nat
    by_cases hneg : a1 < 0
    · rw [if_pos hneg] at h
      simp only [Option.some.injEq, Prod.mk.injEq] at h
      obtain ⟨rfl, rfl, rfl, rfl⟩ := h
      exact shl_neg _ _ _ _ _ hneg w
    · rw [if_neg hneg] at h
      obtain ⟨n, rfl⟩ := Int.eq_ofNat_of_zero_le (show 0 ≤ a1 by omega)
      simp only [n4, e4, Int.toNat_natCast, Option.some.injEq, Prod.mk.injEq] at h
      obtain ⟨rfl, rfl, rfl, rfl⟩ := h
      by_cases hbig : 256 ≤ n
      · rw [shlN_big _ _ (by omega)]
        exact shl_big _ _ _ _ _ (by omega) w
      have hq : n / 64 = 0 ∨ n / 64 = 1 ∨ n / 64 = 2 ∨ n / 64 = 3 := by omega
      rcases hq with hq | hq | hq | hq
      · obtain ⟨s, hn, hs⟩ : ∃ s, n = s ∧ s < 64 := ⟨n % 64, by omega, by omega⟩
        have hv := shlN_0 a b c d s n hn hs lb lc ld
        obtain ⟨v1, v2, v3, v4⟩ := words_of4 (or_lt _ _ (modw_lt _) (divw_lt _ _ (divw_lt _ _ (by assumption)))) (or_lt _ _ (modw_lt _) (divw_lt _ _ (divw_lt _ _ (by assumption)))) (or_lt _ _ (modw_lt _) (divw_lt _ _ (divw_lt _ _ (by assumption)))) (modw_lt _) hv
        rw [v1, v2, v3, v4, hn]
        have h := shl_0 a b c d s hs w
        simp only [or_shl _ _ _ _ lb, or_shl _ _ _ _ lc, or_shl _ _ _ _ ld] at h
        simp only [shlw] at h
        exact h
      · obtain ⟨s, hn, hs⟩ : ∃ s, n = 64 + s ∧ s < 64 := ⟨n % 64, by omega, by omega⟩
        have hv := shlN_1 a b c d s n hn hs lb lc ld
        obtain ⟨v1, v2, v3, v4⟩ := words_of4 (or_lt _ _ (modw_lt _) (divw_lt _ _ (divw_lt _ _ (by assumption)))) (or_lt _ _ (modw_lt _) (divw_lt _ _ (divw_lt _ _ (by assumption)))) (modw_lt _) (by decide) hv
        rw [v1, v2, v3, v4, hn]
        have h := shl_1 a b c d s hs w
        simp only [or_shl _ _ _ _ lc, or_shl _ _ _ _ ld] at h
        simp only [shlw] at h
        exact h
      · obtain ⟨s, hn, hs⟩ : ∃ s, n = 128 + s ∧ s < 64 := ⟨n % 64, by omega, by omega⟩
        have hv := shlN_2 a b c d s n hn hs lc ld
        obtain ⟨v1, v2, v3, v4⟩ := words_of4 (or_lt _ _ (modw_lt _) (divw_lt _ _ (divw_lt _ _ (by assumption)))) (modw_lt _) (by decide) (by decide) hv
        rw [v1, v2, v3, v4, hn]
        have h := shl_2 a b c d s hs w
        simp only [or_shl _ _ _ _ ld] at h
        simp only [shlw] at h
        exact h
      · obtain ⟨s, hn, hs⟩ : ∃ s, n = 192 + s ∧ s < 64 := ⟨n % 64, by omega, by omega⟩
        have hv := shlN_3 a b c d s n hn hs ld
        obtain ⟨v1, v2, v3, v4⟩ := words_of4 (modw_lt _) (by decide) (by decide) (by decide) hv
        rw [v1, v2, v3, v4, hn]
        have h := shl_3 a b c d s hs w
        simp only [shlw] at h
        exact h
  · exact absurd h (by simp)

end Go.Proofs.Ytedfbamihjnhhaa.Limb
