/- Lists as long as they may: what is known beforehand, and how it is asked. -/
import Derived.Test.YtedfbamihjnhhaaWl3
namespace Go.Proofs.Ytedfbamihjnhhaa.Own
open Go Go.RowKit Go.Proofs Go.Proofs.Ytedfbamihjnhhaa.Plain
set_option linter.unusedVariables false
set_option maxRecDepth 100000
def wlW : List C := [.int .i64 0, .int .i64 0, .int .u64 1152921504606846976, .int .i64 1, .int .u64 0, .int .i64 0, .int .u64 4611686018427387904, .int .i64 0, .int .u64 0, .int .i64 0, .int .u64 0, .int .i64 0, .int .i64 0, .nils, .nils, .nils, .nils, .int .i64 0, .int .u64 0, .int .i64 0, .int .u64 0, .int .i64 0, .int .u64 0, .nils]
def yes : V := .one (.bool true)
def fxE (hi lo : Int) (n : Int) : KEnt := ⟨75, [.agg [.int .i64 hi, .int .u64 lo], .one (.int .i64 n)], yes⟩
def teE (i : Nat) : KEnt := ⟨48, [.agg [.int .i64 (i % 2 : Nat), .int .i64 (1 - (i % 2 : Nat)), .int .i64 (1 + i : Nat), .int .u64 0, .int .i64 0, .int .u64 0], .one (.int .i64 2)], yes⟩
def raE (i : Nat) : KEnt := ⟨42, [.agg [.int .i64 ((i : Int) - 1), .int .i64 0, .int .u64 0, .int .i64 0, .int .u64 0, .int .i64 0, .int .i64 0, .int .i64 (1 + i : Nat), .int .i64 0, .int .u64 0], .one (.int .i64 (i : Nat))], yes⟩
def boE : KEnt := ⟨45, [.agg [.int .i64 2, .int .u64 0, .int .i64 0, .int .u64 0, .int .i64 0, .int .u64 0, .int .i64 0, .int .u64 0, .int .i64 0, .int .u64 0, .int .i64 0, .int .u64 0, .int .i64 0, .int .u64 0, .int .i64 0, .int .u64 0, .int .i64 0, .int .u64 0, .int .i64 0, .int .i64 0]], yes⟩
def wlE : List KEnt := [⟨24, [], yes⟩, ⟨21, [.one .nils, .one .nils, .one .nils, .one .nils, .one (.int .u8 0)], .agg wlW⟩, fxE 0 1152921504606846976 1024, fxE 1 0 1048576, fxE 0 4611686018427387904 65536, fxE 0 0 1, fxE 0 0 67108864, boE] ++ ((List.range 32).map teE ++ (List.range 16).map raE)
noncomputable def keB (k : KEnt) : Bool := isFn Try.prog k.f && ((litVs k.vs).isSome && ((litV k.v).isSome && (match evF cf0 300 k.f k.vs [] [] 0 with | some (v, _, _) => eqvK v k.v | none => false)))
theorem keB_ok {k : KEnt} (h : keB k = true) : KE Try.prog k := by
  unfold keB at h
  simp only [Bool.and_eq_true] at h
  obtain ⟨h1, h2, h3, h4⟩ := h
  obtain ⟨us, hus⟩ := Option.isSome_iff_exists.1 h2
  obtain ⟨u, hu⟩ := Option.isSome_iff_exists.1 h3
  refine ⟨h1, us, u, hus, hu, ?_⟩
  split at h4
  · rename_i v a b hv
    exact pure_ev (c := cf0) (d := 300) (vs := k.vs) (v := k.v) ok0 (by rw [hv]; show some v = _; rw [eqvK_eq h4]) (litVs_mk hus) (litV_mk hu)
  · cases h4
set_option maxHeartbeats 4000000 in
theorem wlE_all : wlE.all keB = true := by kernel_rfl
theorem wlE_ok : ∀ k ∈ wlE, KE Try.prog k := fun k hk => keB_ok (List.all_eq_true.1 wlE_all k hk)
def wlK : Hook := kOr mbK (kL wlE)
theorem wlK_ok : KOK Try.prog wlK := kOr_ok mbK_ok (kL_ok wlE_ok)
def wlA : List V := [.one (.opq (.ivar .u8 0)), .one (.opq (.ivar .u16 1))]
def wlQ (n : Int) : SE := .cmp .eql (.bin .rem .u8 (.ivar .u8 0) (.lit .u8 4)) (.lit .u8 n)
def wlB (i : Nat) : SE := .cmp .lss (.lit .i64 (i : Int)) (.bin .rem .i64 (.conv .i64 (.ivar .u16 1)) (.lit .i64 50))
def wlD (m : Nat) : List (SE × Bool) := (wlB m, false) :: (List.range m).map fun i => (wlB i, true)
noncomputable def wlRun (m : Nat) (cs : List (SE × Bool)) : Bool := checkK (bW.loops Wl3_L) Wl3_T wlK 300 6 wlA [] 0 .done (wlD m ++ cs)
def wl0 : List (SE × Bool) := [(wlQ 0, true)]
def wl1 : List (SE × Bool) := [(wlQ 1, true), (wlQ 0, false)]
def wl2 : List (SE × Bool) := [(wlQ 2, true), (wlQ 1, false), (wlQ 0, false)]
def wl3 : List (SE × Bool) := [(wlQ 2, false), (wlQ 1, false), (wlQ 0, false)]
end Go.Proofs.Ytedfbamihjnhhaa.Own
