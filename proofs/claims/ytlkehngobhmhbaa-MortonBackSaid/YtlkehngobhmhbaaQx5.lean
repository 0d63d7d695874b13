/- Functions of the translation as plain Lean functions, and their walks: written by a program of this session's on the kit's print, for this seat. -/
import Derived.Test.YtlkehngobhmhbaaQx0
import Derived.Test.YtlkehngobhmhbaaQx1
namespace Go.Proofs.Ytlkehngobhmhbaa.Q
open Go.RowKit Go.Proofs.YtlkehngobhmhbaaW.PrintWords Go.Proofs.YtlkehngobhmhbaaW.PrintLast Go.Proofs.YtlkehngobhmhbaaW.PrintMore
attribute [local go_sem] max2_int min2_int max_two min_two max_three min_three max_four min_four   -- for this text's walks alone
set_option linter.unusedVariables false
set_option linter.unusedSimpArgs false

/-! ### morton_gather: function 22 -/
/-- one step of gathering -/
def stR (s m x : Int) : Int := Go.bits .and .u64 (Go.bits .or .u64 x (x / s)) m
def morton_gather.f (a0 : Int) : Option (Int) := some (IntKind.u32.wrap (stR 65536 4294967295 (stR 256 281470681808895 (stR 16 71777214294589695 (stR 4 1085102592571150095 (stR 2 3689348814741910323 (Go.bits .and .u64 a0 6148914691236517205)))))))
set_option maxHeartbeats 8000000 in
theorem morton_gather.calls (a0 : Int) (r : Int) (w : World) (h : morton_gather.f a0 = some r) :
    Calls Try.prog 22 #[.int .u64 a0] w fun e w' => e = .returned (.int .u32 r) ∧ Below w.heap.size w w' := by
  obtain rfl := Option.some.inj h
  clear h
  have i0 : ∀ w : World, (Instr.index 45 (.agg #[.int .u64 281470681808895, .int .u64 71777214294589695, .int .u64 1085102592571150095, .int .u64 3689348814741910323, .int .u64 6148914691236517205]) (.int .i64 0)).run Try.prog w = .ok (.int .u64 281470681808895) w := fun _ => by kernel_rfl
  have i1 : ∀ w : World, (Instr.index 45 (.agg #[.int .u64 281470681808895, .int .u64 71777214294589695, .int .u64 1085102592571150095, .int .u64 3689348814741910323, .int .u64 6148914691236517205]) (.int .i64 1)).run Try.prog w = .ok (.int .u64 71777214294589695) w := fun _ => by kernel_rfl
  have i2 : ∀ w : World, (Instr.index 45 (.agg #[.int .u64 281470681808895, .int .u64 71777214294589695, .int .u64 1085102592571150095, .int .u64 3689348814741910323, .int .u64 6148914691236517205]) (.int .i64 2)).run Try.prog w = .ok (.int .u64 1085102592571150095) w := fun _ => by kernel_rfl
  have i3 : ∀ w : World, (Instr.index 45 (.agg #[.int .u64 281470681808895, .int .u64 71777214294589695, .int .u64 1085102592571150095, .int .u64 3689348814741910323, .int .u64 6148914691236517205]) (.int .i64 3)).run Try.prog w = .ok (.int .u64 3689348814741910323) w := fun _ => by kernel_rfl
  have i4 : ∀ w : World, (Instr.index 45 (.agg #[.int .u64 281470681808895, .int .u64 71777214294589695, .int .u64 1085102592571150095, .int .u64 3689348814741910323, .int .u64 6148914691236517205]) (.int .i64 4)).run Try.prog w = .ok (.int .u64 6148914691236517205) w := fun _ => by kernel_rfl
  go_enter Try.func22, Try.ntmps22
  go_wp2_with (go_at_call 23; refine (morton_masks.calls0 _).mono ?_; rintro e w' ⟨rfl, hb⟩)
  go_rounds 6
  all_goals go_ret
  exact ⟨rfl, hb.alloc (by have := hb.size; omega) _⟩


/-! ### morton_Split: function 17 -/
def morton_Split.f (a0 : Int) : Option (Int × Int) := (morton_gather.f a0).bind fun t177 => ((morton_gather.f (a0 / 2)).bind fun t178 => (some (t177, t178)))
set_option maxHeartbeats 8000000 in
set_option maxRecDepth 100000 in
theorem morton_Split.calls (a0 : Int) (r1 : Int) (r2 : Int) (w : World) (h : morton_Split.f a0 = some (r1, r2)) :
    Calls Try.prog 17 #[.int .u64 a0] w fun e w' => e = .returned (.tuple #[.int .u32 r1, .int .u32 r2]) ∧ Below w.heap.size w w' := by
  have HB := Aside0.mk (Below.refl w.heap.size w)
  have H : ((morton_gather.f a0).bind fun t177 => ((morton_gather.f (a0 / 2)).bind fun t178 => (some (t177, t178)))) = some (r1, r2) := h
  clear h
  replace H := Option.bind_eq_some_iff.mp H
  obtain ⟨t177, A20, H⟩ := H
  replace H : ((morton_gather.f (a0 / 2)).bind fun t178 => (some (t177, t178))) = some (r1, r2) := H
  have A2 := Aside0.mk A20
  clear A20
  replace H := Option.bind_eq_some_iff.mp H
  obtain ⟨t178, A30, H⟩ := H
  replace H : (some (t177, t178)) = some (r1, r2) := H
  have A3 := Aside0.mk A30
  clear A30
  simp only [Option.some.injEq, Prod.mk.injEq] at H
  obtain ⟨rfl, rfl⟩ := H
  go_enter Try.func17, Try.ntmps17
  go_wp2_with (first | ((with_reducible refine gate_callee (f := 22) rfl ?_); refine goesL_ (some 5) rfl rfl Try.func22 (by kernel_rfl) rfl #[.int .u64 a0] rfl (by (try simp only [List.map_toArray, List.map_cons, List.map_nil]); first | done | rfl | (simp only [List.length_drop, List.length_take]; rfl)) ?_; (with_reducible refine (morton_gather.calls a0 t177 _ A2.out).mono ?_); rintro e w4 ⟨rfl, hb⟩; refine ⟨_, rfl, ?_⟩; have n0_ := Aside0.mk (below_step (by repeat (first | (with_reducible first | exact HB.out | apply below_alloc | apply pw_below_drewN | apply below_drew1) | exact HB.out)) hb); clear HB; have HB := n0_; clear n0_; (try clear hb); (try clear hb2); (try clear hk); (try clear hi)) | ((with_reducible refine gate_callee (f := 22) rfl ?_); refine goesL_ (some 8) rfl rfl Try.func22 (by kernel_rfl) rfl #[.int .u64 (a0 / 2)] rfl (by (try simp only [List.map_toArray, List.map_cons, List.map_nil]); first | done | rfl | (simp only [List.length_drop, List.length_take]; rfl)) ?_; (with_reducible refine (morton_gather.calls (a0 / 2) t178 _ A3.out).mono ?_); rintro e w5 ⟨rfl, hb⟩; refine ⟨_, rfl, ?_⟩; have n0_ := Aside0.mk (below_step (by repeat (first | (with_reducible first | exact HB.out | apply below_alloc | apply pw_below_drewN | apply below_drew1) | exact HB.out)) hb); clear HB; have HB := n0_; clear n0_; (try clear hb); (try clear hb2); (try clear hk); (try clear hi)))
  go_ret2
  exact ⟨by first | rfl | (simp [errW_none, errW_some] <;> rfl) | (simp [*, errW_none, errW_some] <;> rfl), by repeat (first | (with_reducible first | exact HB.out | apply below_alloc | apply pw_below_drewN | apply below_drew1) | exact HB.out)⟩

end Go.Proofs.Ytlkehngobhmhbaa.Q
