/- In whatever order bodies stand: what the reckoned walk needs, for each number of bodies and each turn. -/
import Derived.Test.YtedfbamihjnhhaaSumY
namespace Go.Proofs.Ytedfbamihjnhhaa.Own
open Go Go.RowKit Go.Proofs Go.Proofs.Ytedfbamihjnhhaa.Plain
set_option linter.unusedVariables false
set_option linter.unusedSimpArgs false
set_option maxRecDepth 100000
theorem lookK_mem : ∀ {L : List (SE × IntKind × Int)} {x : SE} {k : IntKind} {m : Int}, lookK L x = some (k, m) → (x, k, m) ∈ L
  | [], _, _, _, h => by cases h
  | (y, k', m') :: r, x, k, m, h => by
    simp only [lookK] at h
    cases hb : decide (y = x) with
    | true => rw [hb, cond_true] at h; cases h; rw [of_decide_eq_true hb]; exact .head _
    | false => rw [hb, cond_false] at h; exact .tail _ (lookK_mem h)
theorem knows_of {E : Env} : ∀ {ds : List (SE × Bool)}, (∀ p ∈ ds, eS E p.1 = .bool p.2) → Knows E ds
  | [], _ => .nil
  | (x, b) :: r, h => .cons (h _ (.head _)) (knows_of fun p hp => h p (.tail _ hp))
theorem loK_ok {q : SumE} {n r : Nat} {t : Int} (ht : q.iv 201 = t) (h0 : 0 ≤ t ∧ t ≤ 255) (hn : 0 < n ∧ n ≤ 12) (hr : t % (n : Int) = (r : Int)) : ∀ x k m, lookK (loKs n r) x = some (k, m) → eS (q.env n) x = .int k m := by
  intro x k m h
  have hm := lookK_mem h
  simp only [loKs, List.mem_map, List.mem_range, Prod.mk.injEq] at hm
  obtain ⟨i, hi, rfl, rfl, rfl⟩ := hm
  have e201 : (q.env n).iv 201 = t := ht
  simp only [eS, SE.ty, SE.val, valBin, e201]
  have hu : IntKind.u8.wrap t = t := by rw [IntKind.wrap_u8']; omega
  rw [hu]
  have hc : (Int.ofNat (n - 1 - i) : Int) = ((n - 1 - i : Nat) : Int) := rfl
  have hnn : (Int.ofNat n : Int) = (n : Int) := rfl
  rw [hc, hnn]
  have hb : ((n - 1 - i : Nat) : Int) ≤ 12 := by omega
  rw [i64_in t (by omega), i64_in ((n - 1 - i : Nat) : Int) (by omega), i64_in (n : Int) (by omega), i64_in (((n - 1 - i : Nat) : Int) + t) (by omega), Int.tmod_eq_emod_of_nonneg (by omega)]
  have e1 : (((n - 1 - i : Nat) : Int) + t) % (n : Int) = (((n - 1 - i : Nat) : Int) + (r : Int)) % (n : Int) := by rw [← hr]; simp
  have e2 : (((n - 1 - i : Nat) : Int) + (r : Int)) % (n : Int) = (((n - 1 - i + r) % n : Nat) : Int) := by rw [Int.natCast_emod, Int.natCast_add]
  have h3 : (n - 1 - i + r) % n < n := Nat.mod_lt _ hn.1
  rw [e1, e2, i64_in _ (by omega)]
  rfl
theorem loD_ok {q : SumE} {n : Nat} {last : Bool} {len : Nat} (hl : q.len = (len : Int)) (h63 : len < 9223372036854775808) (hn : n ≤ 12) (h4 : 4 * n ≤ len) (hlast : decide (4 * n + 3 < len) = last) : Knows (q.env n) (loDs n last) := by
  have hlen : IntKind.i64.wrap ((q.env n).iv 202) = (len : Int) := by
    have : (q.env n).iv 202 = (len : Int) := hl
    rw [this, i64_in _ (by omega)]
  have cm : ∀ k : Nat, k ≤ 1000 → eS (q.env n) (.cmp .lss (.lit .i64 (Int.ofNat k)) (.ivar .i64 202)) = .bool (decide (k < len)) := fun k hk => by
    rw [eS_cmp]
    simp only [SE.val, valCmp, hlen]
    have hk' : (Int.ofNat k : Int) = (k : Int) := rfl
    rw [hk', i64_in (k : Int) (by omega)]
    congr 1
    apply decide_eq_decide.2
    omega
  apply knows_of
  intro p hp
  simp only [loDs, List.mem_append, List.mem_singleton, List.mem_map, List.mem_range] at hp
  rcases hp with rfl | ⟨i, hi, rfl⟩
  · show eS (q.env n) (.cmp .lss (.lit .i64 (Int.ofNat (4 * n + 3))) (.ivar .i64 202)) = .bool last
    rw [cm _ (by omega), hlast]
  · show eS (q.env n) (.cmp .lss (.lit .i64 (Int.ofNat (4 * i + 3))) (.ivar .i64 202)) = .bool true
    rw [cm _ (by omega), decide_eq_true (by omega)]
theorem lo_ok {q : SumE} {n r len cap g b c : Nat} {last : Bool} {t : Int} (ht : q.iv 201 = t) (h0 : 0 ≤ t ∧ t ≤ 255) (hn : 0 < n ∧ n ≤ 12) (hr : t % (n : Int) = (r : Int)) (hl : q.len = (len : Int)) (h63 : len < 9223372036854775808) (h4 : 4 * n ≤ len) (hlast : decide (4 * n + 3 < len) = last)
    (hpv : q.pv 0 = .slice (some ⟨g, b, none⟩) len cap) : OK (loCfg bW n r last) (eV (q.env n)) [(g, b, c)] :=
  ⟨⟨eS_one _, (q.env n).pv1⟩, fun σ hx f vs v us h1 h2 => bW_ok.x (eV (q.env n)) [(g, b, c)] σ hx f vs v us h1 h2, fun σ hx f vs v us h1 h2 => hSum_ok awake22_pure σ f vs v us h1 h2,
    fun σ hx o vs us v h1 h2 => gX_ok (vl := loVl) (vi := loVi n) (ks := loKs n r) (σ0 := [(g, b, c)])
      (fun i x h => by
        have hm := lookN_mem h
        simp only [loVl, List.mem_singleton, Prod.mk.injEq] at hm
        obtain ⟨rfl, rfl⟩ := hm
        refine ⟨_, _, _, hpv, ?_⟩
        show IntKind.i64.wrap ((q.env n).iv 202) = _
        have : (q.env n).iv 202 = (len : Int) := hl
        rw [this, i64_in _ (by omega)])
      (fun i key cnt h => by
        have hm := lookN_mem h
        simp only [loVi, List.mem_singleton, Prod.mk.injEq] at hm
        obtain ⟨rfl, rfl, rfl⟩ := hm
        exact ⟨g, b, c, len, cap, rfl, hpv, h4⟩)
      (loK_ok ht h0 hn hr) hx h1 h2,
    fun x bb h => dS_ok (loD_ok hl h63 hn.2 h4 hlast) x bb h, fun _ _ _ _ _ _ _ _ _ _ _ h => (by cases h), bW_ok.mixed⟩
noncomputable def loB (n r : Nat) (last : Bool) : Bool := match evF (loCfg bW n r last) 300 4 loA [] (loF n) 1 with | some (.one (.bool b), _, _) => b | _ => false
/-- one case -/
theorem lo_case {n r len cap g b : Nat} {last : Bool} {how t : Int} {xs : List Int} {w : World} (hB : loB n r last = true) (hhow : 0 ≤ how ∧ how ≤ 255) (h0 : 0 ≤ t ∧ t ≤ 255) (hn : 0 < n ∧ n ≤ 12) (hr : t % (n : Int) = (r : Int)) (h63 : len < 9223372036854775808) (h4 : 4 * n ≤ len) (hlast : decide (4 * n + 3 < len) = last)
    (hx : ∀ i, i < 4 * n → 0 ≤ xs.getD i 0 ∧ xs.getD i 0 ≤ 255) (hg : g < w.heap.size) (hcell : ∀ i, i < 4 * n → w.cell? ⟨g, b + i, none⟩ = some (.int .u8 (xs.getD i 0))) :
    Calls Try.prog 4 #[.slice (some ⟨g, b, none⟩) len cap, .int .u8 how, .int .u8 t] w fun e w' => e = .returned (.bool true) ∧ Below w.heap.size w w' := by
  let q : SumE := ⟨fun i => if i = 200 then how else if i = 201 then t else xs.getD i 0, (len : Int), fun i => if i = 0 then .slice (some ⟨g, b, none⟩) len cap else .bool false, fun i => by by_cases h : i = 0 <;> simp [h, oneC]⟩
  have ok := lo_ok (q := q) (n := n) (r := r) (len := len) (cap := cap) (g := g) (b := b) (c := 0) (last := last) (t := t) rfl h0 hn hr rfl h63 h4 hlast rfl
  have hq : (evF (loCfg bW n r last) 300 4 loA [] (loF n) 1).map (·.1) = some (.one (.bool true)) := by
    unfold loB at hB
    split at hB
    · rename_i bb M nx hev
      rw [hev, hB]; rfl
    · cases hB
  have ivv : ∀ (k : Nat) (y : Int), q.iv k = y → k ≠ 202 → 0 ≤ y ∧ y ≤ 255 → eS (q.env n) (.ivar .u8 k) = .int .u8 y := fun k y hy hk hb => by
    have e : (q.env n).iv k = y := by show (if k = 202 then q.len else q.iv k) = y; rw [if_neg hk, hy]
    simp only [eS, SE.ty, SE.val, e]
    rw [IntKind.wrap_u8']
    congr 1
    omega
  refine calls_ev (c := loCfg bW n r last) (σ0 := [(g, b, 0)]) (nx := 1) ok rfl ?_ hq ?_ (.one .bool)
  · intro k cs T o hk
    have hk2 : k = 0 ∧ cs = (List.range (4 * n)).map (fun i => C.opq (.ivar .u8 i)) ∧ o = false := by
      simp only [loF, lkM, lkB] at hk
      cases hb : Nat.beq 0 k with
      | true =>
        simp only [hb, cond_true, Option.some.injEq, Prod.mk.injEq] at hk
        exact ⟨(Nat.eq_of_beq_eq_true hb).symm, hk.1.symm, hk.2.2.symm⟩
      | false => simp only [hb, cond_false] at hk; cases hk
    obtain ⟨rfl, rfl, rfl⟩ := hk2
    refine ⟨g, b, 0, (List.range (4 * n)).map fun i => .int .u8 (xs.getD i 0), rfl, ?_, hg, fun j v hj => ?_, fun h => by cases h⟩
    · have key : ∀ (l : List Nat), (∀ i ∈ l, i < 4 * n) → RelCs (eV (q.env n)) [(g, b, 0)] (l.map fun i => C.opq (.ivar .u8 i)) (l.map fun i => Value.int .u8 (xs.getD i 0)) := by
        intro l
        induction l with
        | nil => intro _; exact .nil
        | cons i l ih =>
          intro hl
          have hi := hl i (.head _)
          have r1 := rel_opq (σ := [(g, b, 0)]) (E := q.env n) (.ivar .u8 i)
          rw [ivv i (xs.getD i 0) (by show (if i = 200 then how else if i = 201 then t else xs.getD i 0) = _; rw [if_neg (by omega), if_neg (by omega)]) (by omega) (hx i hi)] at r1
          exact .cons r1 (ih fun j hj => hl j (.tail _ hj))
      exact key _ fun i hi => List.mem_range.1 hi
    · have hj2 : j < 4 * n := by have := (List.getElem?_eq_some_iff.1 hj).1; simpa using this
      have : v = .int .u8 (xs.getD j 0) := by
        rw [List.getElem?_map, List.getElem?_range hj2] at hj
        simpa using hj.symm
      rw [this]; exact hcell j hj2
  · have r1 := rel_opq (σ := [(g, b, 0)]) (E := q.env n) (.ivar .u8 200)
    have r2 := rel_opq (σ := [(g, b, 0)]) (E := q.env n) (.ivar .u8 201)
    rw [ivv 200 how rfl (by decide) hhow] at r1
    rw [ivv 201 t rfl (by decide) h0] at r2
    exact .cons (.one (.val (e := eV (q.env n)) (i := 0) rfl)) (.cons (.one r1) (.cons (.one r2) .nil))
end Go.Proofs.Ytedfbamihjnhhaa.Own
