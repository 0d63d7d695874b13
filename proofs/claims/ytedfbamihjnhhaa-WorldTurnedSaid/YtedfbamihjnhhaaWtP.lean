/- A world turned: what its lists are. -/
import Derived.Test.YtedfbamihjnhhaaWtK
namespace Go.Proofs.Ytedfbamihjnhhaa.Own
open Go Go.RowKit Go.Proofs Go.Proofs.Ytedfbamihjnhhaa.Plain
set_option linter.unusedVariables false
set_option linter.unusedSectionVars false
set_option linter.unusedSimpArgs false
set_option maxRecDepth 100000
noncomputable def wtEnv (xs : List Int) : Env := envOf (FT Lm6_T) xs
theorem lap_at {F : Nat → List Int → List Int} {xs : List Int} {f i : Nat} {zs : SE} : (SE.lap f i zs).val (envOf F xs) = (F f (zs.vals (envOf F xs))).getD i 0 := by
  simp only [SE.val]; rfl
theorem vals_c {e : Env} {a zs : SE} : (SE.cons a zs).vals e = a.val e :: zs.vals e := by simp only [SE.vals]
theorem vals_n {e : Env} : SE.nil.vals e = [] := by simp only [SE.vals]
theorem ft51 : FT Lm6_T 20051 = boG (FT Lm2_T) := by kernel_rfl
theorem ft52 : FT Lm6_T 20052 = waG (FT Lm3_Tbo) := by kernel_rfl
theorem ft53 : FT Lm6_T 20053 = clG (FT Lm3_T) := by kernel_rfl
theorem ft54 : FT Lm6_T 20054 = twG (FT Lm4_T) := by kernel_rfl
theorem ft55 : FT Lm6_T 20055 = tlG (FT Lm5_Ttw) := by kernel_rfl
theorem ft56 : FT Lm6_T 20056 = wlG (FT Lm5_Ttl) := by kernel_rfl
theorem ft57 : FT Lm6_T 20057 = raG (FT Lm5_Twl) := by kernel_rfl
theorem ft61 : FT Lm6_T 20061 = ib2G (FT Lm5_T) := by kernel_rfl
theorem ft62 : FT Lm6_T 20062 = eb2G (FT Lm6_Tib2) := by kernel_rfl
theorem ft31 : FT Lm6_T 20031 = mrG (FT Tr5_T) := by kernel_rfl
theorem ft42 : FT Lm6_T 20042 = etG (FT Lm2_Teb) := by kernel_rfl
theorem ft43 : FT Lm6_T 20043 = erG (FT Lm2_Tet) := by kernel_rfl
theorem ft44 : FT Lm6_T 20044 = eiG (FT Lm2_Ter) := by kernel_rfl
/-- the lengths that are asked for -/
structure WtLen (xs : List Int) : Prop where
  l0 : (dec (xs.getD 0 0)).length ≤ maxLen
  l1 : (dec (xs.getD 1 0)).length ≤ maxLen
  l2 : (dec (xs.getD 2 0)).length ≤ maxLen
  l3 : (dec (xs.getD 3 0)).length ≤ maxLen
theorem le_max {n : Nat} (h : n ≤ 1000000) : n ≤ maxLen := by unfold maxLen; omega
section
variable {xs : List Int} (hl : WtLen xs)
include hl
theorem wt_L0 : (dec (wtL0.val (wtEnv xs))).length ≤ 5 ∧ ∀ el ∈ dec (wtL0.val (wtEnv xs)), isBd (FT Lm2_T) el := by
  have e : wtL0.val (wtEnv xs) = (boG (FT Lm2_T) [xs.getD 0 0]).getD 1 0 := by
    unfold wtL0 wtEnv; rw [lap_at, ft51]; simp only [vals_c, vals_n, lvar_at]
  have hp : Pre boL (FT Lm2_T) [xs.getD 0 0] := ⟨fun c hc => by
    have hc : c ∈ [(0, 0)] := hc
    simp only [List.mem_singleton] at hc; subst hc; exact hl.l0, fun c hc => (by cases hc), fun c hc => (by cases hc)⟩
  obtain ⟨ys, h1, h2, h3⟩ := bo_val (FT Lm2_T) [xs.getD 0 0] hp
  rw [e, h1]; exact ⟨h2, h3⟩
omit hl in
theorem wt_L3 : dec (wtL3.val (wtEnv xs)) = [] := by
  have e : ∃ zs : List Int, wtL3.val (wtEnv xs) = (waG (FT Lm3_Tbo) zs).getD 8 0 ∧ dec (zs.getD 6 0) = [] := by
    unfold wtL3 wtEnv; rw [lap_at, ft52]
    refine ⟨_, rfl, ?_⟩
    simp only [vals_c, vals_n, List.getD_cons_succ, List.getD_cons_zero, SE.val, dec_enc]
  obtain ⟨zs, e, h6⟩ := e
  have hp : Pre waL (FT Lm3_Tbo) zs := ⟨fun c hc => by
    have hc : c ∈ [(1, 6)] := hc
    simp only [List.mem_singleton] at hc; subst hc; rw [show zs.getD (1, 6).2 0 = zs.getD 6 0 from rfl, h6]; exact Nat.zero_le _, fun c hc => by
    have hc : c ∈ [6] := hc
    simp only [List.mem_singleton] at hc; subst hc; rw [h6]; exact Nat.zero_le _, fun c hc => (by cases hc)⟩
  obtain ⟨ys, h1, h2⟩ := wa_val (FT Lm3_Tbo) zs hp
  rw [e, h1]
  rw [h6] at h2
  exact h2
theorem wt_L4 : dec (wtL4.val (wtEnv xs)) = List.replicate (dec (wtL0.val (wtEnv xs))).length [-1] := by
  have e : ∃ zs : List Int, wtL4.val (wtEnv xs) = (waG (FT Lm3_Tbo) zs).getD 8 0 ∧ zs.getD 6 0 = wtL0.val (wtEnv xs) := by
    unfold wtL4 wtEnv; rw [lap_at, ft52]
    refine ⟨_, rfl, ?_⟩
    simp only [vals_c, vals_n, List.getD_cons_succ, List.getD_cons_zero]
  obtain ⟨zs, e, h6⟩ := e
  have hn := (wt_L0 hl).1
  have hp : Pre waL (FT Lm3_Tbo) zs := ⟨fun c hc => by
    have hc : c ∈ [(1, 6)] := hc
    simp only [List.mem_singleton] at hc; subst hc; rw [show zs.getD (1, 6).2 0 = zs.getD 6 0 from rfl, h6]; exact le_max (by omega), fun c hc => by
    have hc : c ∈ [6] := hc
    simp only [List.mem_singleton] at hc; subst hc; rw [h6]; omega, fun c hc => (by cases hc)⟩
  obtain ⟨ys, h1, h2⟩ := wa_val (FT Lm3_Tbo) zs hp
  rw [e, h1]
  rw [h6] at h2
  exact h2
theorem wt_cl (zs : List Int) (h6 : zs.getD 6 0 = wtL0.val (wtEnv xs)) (h7 : dec (zs.getD 7 0) = []) : ∃ ys, clG (FT Lm3_T) zs = 0 :: ys ∧ dec (ys.getD 7 0) = List.replicate (dec (wtL0.val (wtEnv xs))).length [-1] ∧ dec (ys.getD 8 0) = (dec (wtL0.val (wtEnv xs))).map nearB := by
  have hn := (wt_L0 hl).1
  have hp : Pre clL (FT Lm3_T) zs := ⟨fun c hc => by
    have hc : c ∈ [(1, 6), (2, 7)] := hc
    simp only [List.mem_cons, List.not_mem_nil, or_false] at hc
    rcases hc with rfl | rfl
    · rw [show zs.getD (1, 6).2 0 = zs.getD 6 0 from rfl, h6]; exact le_max (by omega)
    · rw [show zs.getD (2, 7).2 0 = zs.getD 7 0 from rfl, h7]; exact Nat.zero_le _, fun c hc => by
    have hc : c ∈ [6] := hc
    simp only [List.mem_singleton] at hc; subst hc; rw [h6]; omega, fun c hc => by
    have hc : c ∈ [(SE.cmp .eql (.len (.lvar 7)) (.lit .i64 0), true)] := hc
    simp only [List.mem_singleton] at hc; subst hc
    have l := len_at (F := FT Lm3_T) (lv := 7) (n := 0) (xs := zs) (by rw [h7]; rfl) (Nat.zero_le _)
    have w0 : IntKind.i64.wrap 0 = 0 := rfl
    simp only [SE.val, b2i_ne, valCmp, w0]
    simp only [SE.val] at l
    rw [l]; rfl⟩
  obtain ⟨ys, h1, h2, h3⟩ := cl_val (FT Lm3_T) zs hp
  rw [h6] at h2 h3
  exact ⟨ys, h1, h2, h3⟩
theorem wt_L8 : dec (wtL8.val (wtEnv xs)) = List.replicate (dec (wtL0.val (wtEnv xs))).length [-1] := by
  have e : ∃ zs : List Int, wtL8.val (wtEnv xs) = (clG (FT Lm3_T) zs).getD 8 0 ∧ zs.getD 6 0 = wtL0.val (wtEnv xs) ∧ zs.getD 7 0 = wtL3.val (wtEnv xs) := by
    unfold wtL8 wtEnv; rw [lap_at, ft53]
    refine ⟨_, rfl, ?_, ?_⟩ <;> simp only [vals_c, vals_n, List.getD_cons_succ, List.getD_cons_zero]
  obtain ⟨zs, e, h6, h7⟩ := e
  obtain ⟨ys, h1, h2, h3⟩ := wt_cl hl zs h6 (by rw [h7]; exact wt_L3)
  rw [e, h1]; exact h2
theorem wt_L7 : dec (wtL7.val (wtEnv xs)) = (dec (wtL0.val (wtEnv xs))).map nearB := by
  have e : ∃ zs : List Int, wtL7.val (wtEnv xs) = (clG (FT Lm3_T) zs).getD 9 0 ∧ zs.getD 6 0 = wtL0.val (wtEnv xs) ∧ zs.getD 7 0 = wtL3.val (wtEnv xs) := by
    unfold wtL7 wtEnv; rw [lap_at, ft53]
    refine ⟨_, rfl, ?_, ?_⟩ <;> simp only [vals_c, vals_n, List.getD_cons_succ, List.getD_cons_zero]
  obtain ⟨zs, e, h6, h7⟩ := e
  obtain ⟨ys, h1, h2, h3⟩ := wt_cl hl zs h6 (by rw [h7]; exact wt_L3)
  rw [e, h1]; exact h3
theorem wt_L9 : (dec (wtL9.val (wtEnv xs))).length ≤ 10 ∧ ∀ el ∈ dec (wtL9.val (wtEnv xs)), isTe (FT Lm4_T) (dec (wtL0.val (wtEnv xs))).length el := by
  have e : ∃ zs : List Int, wtL9.val (wtEnv xs) = (twG (FT Lm4_T) zs).getD 8 0 ∧ zs.getD 0 0 = xs.getD 1 0 ∧ zs.getD 7 0 = wtL0.val (wtEnv xs) ∧ zs.getD 8 0 = wtL8.val (wtEnv xs) ∧ zs.getD 9 0 = wtL7.val (wtEnv xs) := by
    unfold wtL9 wtEnv; rw [lap_at, ft54]
    refine ⟨_, rfl, ?_, ?_, ?_, ?_⟩ <;> simp only [vals_c, vals_n, List.getD_cons_succ, List.getD_cons_zero, lvar_at]
  obtain ⟨zs, e, h0, h7, h8, h9⟩ := e
  have hn := (wt_L0 hl).1
  have hp : Pre twL (FT Lm4_T) zs := ⟨fun c hc => by
    have hc : c ∈ [(2, 9), (3, 8), (0, 0)] := hc
    simp only [List.mem_cons, List.not_mem_nil, or_false] at hc
    rcases hc with rfl | rfl | rfl
    · rw [show zs.getD (2, 9).2 0 = zs.getD 9 0 from rfl, h9, wt_L7 hl, List.length_map]; exact le_max (by omega)
    · rw [show zs.getD (3, 8).2 0 = zs.getD 8 0 from rfl, h8, wt_L8 hl, List.length_replicate]; exact le_max (by omega)
    · rw [show zs.getD (0, 0).2 0 = zs.getD 0 0 from rfl, h0]; exact hl.l1, fun c hc => (by cases hc), fun c hc => (by cases hc)⟩
  obtain ⟨ys, h1, h2, h3⟩ := tw_val (FT Lm4_T) zs hp
  rw [h7, sat_of (le_max (by omega))] at h3
  rw [e, h1]; exact ⟨h2, h3⟩
theorem wt_L5 : (dec (wtL5.val (wtEnv xs))).length = (dec (wtL0.val (wtEnv xs))).length ∧ ∀ j, ThR ((dec (wtL0.val (wtEnv xs))).getD j []) ((dec (wtL5.val (wtEnv xs))).getD j []) := by
  have e : ∃ zs : List Int, wtL5.val (wtEnv xs) = (tlG (FT Lm5_Ttw) zs).getD 9 0 ∧ zs.getD 0 0 = xs.getD 3 0 ∧ zs.getD 7 0 = wtL0.val (wtEnv xs) ∧ zs.getD 8 0 = wtL4.val (wtEnv xs) := by
    unfold wtL5 wtEnv; rw [lap_at, ft55]
    refine ⟨_, rfl, ?_, ?_, ?_⟩ <;> simp only [vals_c, vals_n, List.getD_cons_succ, List.getD_cons_zero, lvar_at]
  obtain ⟨zs, e, h0, h7, h8⟩ := e
  have hn := (wt_L0 hl).1
  have hp : Pre tlL (FT Lm5_Ttw) zs := ⟨fun c hc => by
    have hc : c ∈ [(2, 7), (3, 8), (0, 0)] := hc
    simp only [List.mem_cons, List.not_mem_nil, or_false] at hc
    rcases hc with rfl | rfl | rfl
    · rw [show zs.getD (2, 7).2 0 = zs.getD 7 0 from rfl, h7]; exact le_max (by omega)
    · rw [show zs.getD (3, 8).2 0 = zs.getD 8 0 from rfl, h8, wt_L4 hl, List.length_replicate]; exact le_max (by omega)
    · rw [show zs.getD (0, 0).2 0 = zs.getD 0 0 from rfl, h0]; exact hl.l3, fun c hc => by
    have hc : c ∈ [7] := hc
    simp only [List.mem_singleton] at hc; subst hc; rw [h7]; omega, fun c hc => (by cases hc)⟩
  obtain ⟨ys, h1, h2, h3⟩ := tl_val (FT Lm5_Ttw) zs hp
  rw [h7] at h2 h3
  rw [e, h1]; exact ⟨h2, h3⟩
theorem wt_L10 : (dec (wtL10.val (wtEnv xs))).length = (dec (wtL0.val (wtEnv xs))).length ∧ ∀ j, ThR ((dec (wtL7.val (wtEnv xs))).getD j []) ((dec (wtL10.val (wtEnv xs))).getD j []) := by
  have e : ∃ zs : List Int, wtL10.val (wtEnv xs) = (wlG (FT Lm5_Ttl) zs).getD 11 0 ∧ zs.getD 0 0 = xs.getD 3 0 ∧ zs.getD 7 0 = wtL0.val (wtEnv xs) ∧ zs.getD 8 0 = wtL9.val (wtEnv xs) ∧ zs.getD 9 0 = wtL8.val (wtEnv xs) ∧ zs.getD 10 0 = wtL7.val (wtEnv xs) := by
    unfold wtL10 wtEnv; rw [lap_at, ft56]
    refine ⟨_, rfl, ?_, ?_, ?_, ?_, ?_⟩ <;> simp only [vals_c, vals_n, List.getD_cons_succ, List.getD_cons_zero, lvar_at]
  obtain ⟨zs, e, h0, h7, h8, h9, h10⟩ := e
  have hn := (wt_L0 hl).1
  have hl7 : (dec (zs.getD 10 0)).length = (dec (wtL0.val (wtEnv xs))).length := by rw [h10, wt_L7 hl, List.length_map]
  have hp : Pre wlL (FT Lm5_Ttl) zs := ⟨fun c hc => by
    have hc : c ∈ [(2, 10), (3, 8), (4, 9), (0, 0)] := hc
    simp only [List.mem_cons, List.not_mem_nil, or_false] at hc
    rcases hc with rfl | rfl | rfl | rfl
    · rw [show zs.getD (2, 10).2 0 = zs.getD 10 0 from rfl, hl7]; exact le_max (by omega)
    · rw [show zs.getD (3, 8).2 0 = zs.getD 8 0 from rfl, h8]; exact le_max (by have := (wt_L9 hl).1; omega)
    · rw [show zs.getD (4, 9).2 0 = zs.getD 9 0 from rfl, h9, wt_L8 hl, List.length_replicate]; exact le_max (by omega)
    · rw [show zs.getD (0, 0).2 0 = zs.getD 0 0 from rfl, h0]; exact hl.l3, fun c hc => by
    have hc : c ∈ [10] := hc
    simp only [List.mem_singleton] at hc; subst hc; rw [hl7]; omega, fun c hc => by
    have hc : c ∈ [(SE.cmp .neq (.len (.lvar 7)) (.len (.lvar 10)), false)] := hc
    simp only [List.mem_singleton] at hc; subst hc
    have l7 := len_at (F := FT Lm5_Ttl) (lv := 7) (n := (dec (wtL0.val (wtEnv xs))).length) (xs := zs) (by rw [h7]) (le_max (by omega))
    have l10 := len_at (F := FT Lm5_Ttl) (lv := 10) (n := (dec (wtL0.val (wtEnv xs))).length) (xs := zs) hl7 (le_max (by omega))
    have v : ∀ a b : SE, ((SE.cmp .neq a b).val (envOf (FT Lm5_Ttl) zs) != 0) = (a.val (envOf (FT Lm5_Ttl) zs) != b.val (envOf (FT Lm5_Ttl) zs)) := fun a b => by simp only [SE.val, b2i_ne, valCmp]
    rw [v, l7, l10]; simp⟩
  obtain ⟨ys, h1, h2, h3⟩ := wl_val (FT Lm5_Ttl) zs hp
  rw [h7] at h2
  rw [h10] at h3
  rw [e, h1]; exact ⟨h2, h3⟩
theorem wt_L6 : (dec (wtL6.val (wtEnv xs))).length ≤ 2 := by
  have e : wtL6.val (wtEnv xs) = (raG (FT Lm5_Twl) [xs.getD 2 0]).getD 1 0 := by
    unfold wtL6 wtEnv; rw [lap_at, ft57]; simp only [vals_c, vals_n, lvar_at]
  have hp : Pre raL (FT Lm5_Twl) [xs.getD 2 0] := ⟨fun c hc => by
    have hc : c ∈ [(0, 0)] := hc
    simp only [List.mem_singleton] at hc; subst hc; exact hl.l2, fun c hc => (by cases hc), fun c hc => (by cases hc)⟩
  obtain ⟨ys, h1, h2, h3⟩ := ra_val (FT Lm5_Twl) [xs.getD 2 0] hp
  rw [e, h1]; exact h2
end
end Go.Proofs.Ytedfbamihjnhhaa.Own
