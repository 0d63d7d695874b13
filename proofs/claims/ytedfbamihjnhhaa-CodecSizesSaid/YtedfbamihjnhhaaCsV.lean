/- How long a made world's bytes are: the law. -/
import Derived.Test.YtedfbamihjnhhaaWtF
import Derived.Test.YtedfbamihjnhhaaWmV
namespace Go.Proofs.Ytedfbamihjnhhaa.Own
open Go Go.RowKit Go.Proofs Go.Proofs.Ytedfbamihjnhhaa.Plain
set_option linter.unusedVariables false
set_option linter.unusedSectionVars false
set_option linter.unusedSimpArgs false
set_option maxRecDepth 100000
noncomputable def czEnv (xs : List Int) : Env := envOf (FT CzL_T) xs
theorem cz_old (xs : List Int) (x : SE) (h : x.fsB (fun f => (CzL_T.take 5).all fun e => !Nat.beq f e.f) = true) : x.val (czEnv xs) = x.val (wmE xs) :=
 val_drop 5 (by kernel_rfl) xs x h
theorem cz_fact {xs : List Int} {x : SE} {b : Bool} (h : x.fsB (fun f => (CzL_T.take 5).all fun e => !Nat.beq f e.f) = true) (hx : (x.val (wmE xs) != 0) = b) : (x.val (czEnv xs) != 0) = b := by
 rw [cz_old xs x h]; exact hx
theorem cz_wt {xs : List Int} {x : SE} {b : Bool} (h : x.fsB (fun f => (CzL_T.take 5).all fun e => !Nat.beq f e.f) = true) (h' : x.fsB (fun f => (Lm7_T.take 28).all fun e => !Nat.beq f e.f) = true) (hx : (x.val (wtEnv xs) != 0) = b) : (x.val (czEnv xs) != 0) = b :=
 cz_fact h (wm_fact h' hx)
theorem fm91 : FT CzL_T 20091 = pbG (FT Lm7_T) := (FT_at 4 (Tb' := CzL_Tpb) (by kernel_rfl) (by kernel_rfl)).trans (FT_hd (Tb := CzL_Tpb) rfl rfl)
theorem fm92 : FT CzL_T 20092 = ptG (FT CzL_Tpb) := (FT_at 3 (Tb' := CzL_Tpt) (by kernel_rfl) (by kernel_rfl)).trans (FT_hd (Tb := CzL_Tpt) rfl rfl)
theorem fm93 : FT CzL_T 20093 = prG (FT CzL_Tpt) := (FT_at 2 (Tb' := CzL_Tpr) (by kernel_rfl) (by kernel_rfl)).trans (FT_hd (Tb := CzL_Tpr) rfl rfl)
theorem fm94 : FT CzL_T 20094 = paG (FT CzL_Tpr) := (FT_at 1 (Tb' := CzL_Tpa) (by kernel_rfl) (by kernel_rfl)).trans (FT_hd (Tb := CzL_Tpa) rfl rfl)
theorem seq_v {e : Env} (a b : SE) : ((SE.seq a b).val e != 0) = decide (bytesOf (a.lst e) = bytesOf (b.lst e)) := by
 simp only [SE.val, b2i_ne]; rfl
theorem w6 {z : Int} (h0 : 0 ≤ z) (h1 : z ≤ 1000000) : IntKind.i64.wrap z = z := by rw [IntKind.wrap_i64]; omega
theorem sum4 {n m k s : Nat} (hn : n ≤ 5) (hm : m ≤ 10) (hk2 : k ≤ 2) (hs : s = 188 + n * 168 + m * 48 + k * 80) : valCmp .eql (s : Int) (valBin .add .i64 (valBin .add .i64 (valBin .add .i64 (valBin .add .i64 (IntKind.i64.wrap 188) (valBin .mul .i64 (n : Int) (IntKind.i64.wrap 168))) (valBin .mul .i64 (m : Int) (IntKind.i64.wrap 48))) (valBin .mul .i64 (k : Int) (IntKind.i64.wrap 80))) (IntKind.i64.wrap 0)) = true := by
 simp only [valBin, valCmp]
 rw [w6 (z := 188) (by omega) (by omega), w6 (z := 168) (by omega) (by omega), w6 (z := 48) (by omega) (by omega), w6 (z := 80) (by omega) (by omega), w6 (z := 0) (by omega) (by omega), w6 (z := (n : Int) * 168) (by omega) (by omega), w6 (z := (m : Int) * 48) (by omega) (by omega), w6 (z := (k : Int) * 80) (by omega) (by omega), w6 (z := 188 + (n : Int) * 168) (by omega) (by omega), w6 (z := 188 + (n : Int) * 168 + (m : Int) * 48) (by omega) (by omega), w6 (z := 188 + (n : Int) * 168 + (m : Int) * 48 + (k : Int) * 80) (by omega) (by omega), w6 (by omega) (by omega), beq_iff_eq]
 omega
theorem sum3 {n k s : Nat} (hn : n ≤ 5) (hk2 : k ≤ 2) (hs : s = 188 + n * 168 + k * 80) : valCmp .eql (s : Int) (valBin .add .i64 (valBin .add .i64 (valBin .add .i64 (valBin .add .i64 (IntKind.i64.wrap 188) (valBin .mul .i64 (n : Int) (IntKind.i64.wrap 168))) (IntKind.i64.wrap 0)) (valBin .mul .i64 (k : Int) (IntKind.i64.wrap 80))) (IntKind.i64.wrap 0)) = true := by
 have := sum4 (m := 0) hn (by omega) hk2 (s := s) (by omega)
 exact this
def W8 (e : Env) : List SE → Prop
 | [] => True
 | x :: r => (x.lst e).length = 8 ∧ W8 e r
theorem lb_lst (e : Env) (n : Int) : (lb n).lst e = [[IntKind.u8.wrap n]] := by unfold lb; rw [lst_lone]; simp only [SE.vals, SE.val]
theorem l8_len (e : Env) (n : Int) : ((l8 n).lst e).length = 8 := by unfold l8; simp only [lst_lcat, lb_lst, List.length_append, List.length_singleton]
theorem w8_len (e : Env) (x : SE) : ((w8 x).lst e).length = 8 := by rw [w8_lst, be8_len]
theorem cw_lst {e : Env} : ∀ (l : List SE) (t : SE), ∃ r, (cw t l).lst e = t.lst e ++ r ∧ (W8 e l → r.length = 8 * l.length)
 | [], t => ⟨[], by simp [cw], fun _ => rfl⟩
 | x :: l, t => by
  obtain ⟨r, h1, h2⟩ := cw_lst l (.lcat t x)
  refine ⟨x.lst e ++ r, by rw [cw, h1, lst_lcat, List.append_assoc], fun h => ?_⟩
  rw [List.length_append, h.1, h2 h.2, List.length_cons]; omega
theorem leq_t {e : Env} {x : SE} {n : Nat} (h : (x.lst e).length ≤ n) (hn : n ≤ 1000000) : ((leqT x n).val e != 0) = true := by
 unfold leqT
 rw [v_cmp, v_lit, i64_nat (by unfold maxLen; omega), len_v (n := (x.lst e).length) rfl (by omega)]
 exact decide_eq_true (by omega)
section
variable {xs : List Int} (hl : WtLen xs)
include hl
theorem e_L (x : SE) (h : x.fsB (fun f => (CzL_T.take 5).all fun e => !Nat.beq f e.f) = true) (h' : x.fsB (fun f => (Lm7_T.take 28).all fun e => !Nat.beq f e.f) = true) : x.val (czEnv xs) = x.val (wtEnv xs) := (cz_old xs x h).trans (wm_old xs x h')
theorem c0 : (wtL0.lst (czEnv xs)).length ≤ 5 := by show (dec _).length ≤ 5; rw [e_L hl wtL0 (by kernel_rfl) (by kernel_rfl)]; exact n_in hl
theorem c5 : (wtL5.lst (czEnv xs)).length = (wtL0.lst (czEnv xs)).length := by show (dec _).length = (dec _).length; rw [e_L hl wtL5 (by kernel_rfl) (by kernel_rfl), e_L hl wtL0 (by kernel_rfl) (by kernel_rfl)]; exact (wt_L5 hl).1
theorem c10 : (wtL10.lst (czEnv xs)).length = (wtL0.lst (czEnv xs)).length := by show (dec _).length = (dec _).length; rw [e_L hl wtL10 (by kernel_rfl) (by kernel_rfl), e_L hl wtL0 (by kernel_rfl) (by kernel_rfl)]; exact (wt_L10 hl).1
theorem c4 : (wtL4.lst (czEnv xs)).length = (wtL0.lst (czEnv xs)).length := by show (dec _).length = (dec _).length; rw [e_L hl wtL4 (by kernel_rfl) (by kernel_rfl), e_L hl wtL0 (by kernel_rfl) (by kernel_rfl)]; exact n4 hl
theorem c8 : (wtL8.lst (czEnv xs)).length = (wtL0.lst (czEnv xs)).length := by show (dec _).length = (dec _).length; rw [e_L hl wtL8 (by kernel_rfl) (by kernel_rfl), e_L hl wtL0 (by kernel_rfl) (by kernel_rfl)]; exact n8 hl
theorem c9 : (wtL9.lst (czEnv xs)).length ≤ 10 := by show (dec _).length ≤ 10; rw [e_L hl wtL9 (by kernel_rfl) (by kernel_rfl)]; exact (wt_L9 hl).1
theorem c6 : (wtL6.lst (czEnv xs)).length ≤ 2 := by show (dec _).length ≤ 2; rw [e_L hl wtL6 (by kernel_rfl) (by kernel_rfl)]; exact wt_L6 hl
end
section
variable {xs : List Int}
theorem csH_lst : ∃ r, csH.lst (czEnv xs) = (SE.lbs [80, 82, 71, 49]).lst (czEnv xs) ++ r ∧ (csH.lst (czEnv xs)).length = 116 := by
 obtain ⟨r, h1, h2⟩ := cw_lst (e := czEnv xs) [l8 0, l8 0, l8 16, w8 (.conv .u64 wtL1), w8 wtL2, l8 0, l8 64, l8 0, w8 csA, l8 0, w8 csB, w8 (.conv .u64 csC), w8 (.conv .u64 csD), w8 (.conv .u64 (.len wtL0))] (.lbs [80, 82, 71, 49])
 have h3 := h2 ⟨l8_len _ _, l8_len _ _, l8_len _ _, w8_len _ _, w8_len _ _, l8_len _ _, l8_len _ _, l8_len _ _, w8_len _ _, l8_len _ _, w8_len _ _, w8_len _ _, w8_len _ _, w8_len _ _, trivial⟩
 refine ⟨r, h1, ?_⟩
 have h4 : csH.lst (czEnv xs) = (SE.lbs [80, 82, 71, 49]).lst (czEnv xs) ++ r := h1
 rw [h4, List.length_append, h3]
 simp only [SE.lst, SE.val, dec_enc, List.length_map, List.length_cons, List.length_nil]
theorem put_b {a b c : SE} (h : (a.lst (czEnv xs)).length = (c.lst (czEnv xs)).length) (hN : (a.lst (czEnv xs)).length ≤ 400) : ∃ r, (SE.lap 20091 2 (.cons a (.cons b (.cons c .nil)))).lst (czEnv xs) = b.lst (czEnv xs) ++ r ∧ r.length = 160 * (a.lst (czEnv xs)).length := by
 obtain ⟨y, h1, h2⟩ := pv_val (fs := pbfs) (F := FT Lm7_T) (by simp [pbfs]) (xs := [a.val (czEnv xs), b.val (czEnv xs), c.val (czEnv xs)]) h hN
 refine ⟨_, ?_, (rowsB_len pbfs (c.lst (czEnv xs))).trans (by rw [h]; rfl)⟩
 have e : (SE.lap 20091 2 (.cons a (.cons b (.cons c .nil)))).val (czEnv xs) = y := by
  unfold czEnv; rw [lap_at, fm91, vals_c, vals_c, vals_c, vals_n]
  rw [show pbG (FT Lm7_T) [a.val (envOf (FT CzL_T) xs), b.val (envOf (FT CzL_T) xs), c.val (envOf (FT CzL_T) xs)] = _ from h1]; rfl
 show dec _ = _
 rw [e]; exact h2
theorem put_w {f : Nat} {fs : List (Bool × Nat)} {F : Nat → List Int → List Int} (hf : FT CzL_T f = pwG fs F) (hfs : fs ≠ []) {a b : SE} (hN : (a.lst (czEnv xs)).length ≤ 400) : ∃ r, (SE.lap f 2 (.cons a (.cons b .nil))).lst (czEnv xs) = b.lst (czEnv xs) ++ r ∧ r.length = 8 * fs.length * (a.lst (czEnv xs)).length := by
 obtain ⟨y, h1, h2⟩ := pw_val (fs := fs) (F := F) hfs (xs := [a.val (czEnv xs), b.val (czEnv xs)]) hN
 refine ⟨_, ?_, rowsB_len fs (a.lst (czEnv xs))⟩
 have e : (SE.lap f 2 (.cons a (.cons b .nil))).val (czEnv xs) = y := by
  unfold czEnv; rw [lap_at, hf, vals_c, vals_c, vals_n]
  rw [show pwG fs F [a.val (envOf (FT CzL_T) xs), b.val (envOf (FT CzL_T) xs)] = _ from h1]; rfl
 show dec _ = _
 rw [e]; exact h2
theorem one_w {t x : SE} (h : (x.lst (czEnv xs)).length = 8) : ∃ r, (SE.lcat t x).lst (czEnv xs) = t.lst (czEnv xs) ++ r ∧ r.length = 8 := ⟨_, lst_lcat _ _, h⟩
def Beh (xs : List Int) (x : SE) (n : Nat) : Prop := ∃ r, x.lst (czEnv xs) = (SE.lbs [80, 82, 71, 49]).lst (czEnv xs) ++ r ∧ (x.lst (czEnv xs)).length = n
theorem Beh.more {x y : SE} {n m : Nat} (h : Beh xs x n) (g : ∃ r, y.lst (czEnv xs) = x.lst (czEnv xs) ++ r ∧ r.length = m) : Beh xs y (n + m) := by
 obtain ⟨r, h1, h2⟩ := h
 obtain ⟨s, g1, g2⟩ := g
 exact ⟨r ++ s, by rw [g1, h1, List.append_assoc], by rw [g1, List.length_append, h2, g2]⟩
theorem beh_cw {t : SE} {l : List SE} (h : W8 (czEnv xs) l) : ∃ r, (cw t l).lst (czEnv xs) = t.lst (czEnv xs) ++ r ∧ r.length = 8 * l.length := by
 obtain ⟨r, h1, h2⟩ := cw_lst (e := czEnv xs) l t
 exact ⟨r, h1, h2 h⟩
theorem z7_w : W8 (czEnv xs) z7 := ⟨l8_len _ _, l8_len _ _, l8_len _ _, l8_len _ _, l8_len _ _, l8_len _ _, l8_len _ _, trivial⟩
theorem beh_H : Beh xs csH 116 := csH_lst
theorem beh_4 {x : SE} {n : Nat} (h : Beh xs x n) (h4 : 4 ≤ n) (hn : n ≤ 1000000) : ((SE.cmp .leq (.lit .i64 4) (.len x)).val (czEnv xs) != 0) = true := by
 obtain ⟨r, h1, h2⟩ := h
 rw [v_cmp, v_lit, len_v (n := n) h2 hn]
 exact decide_eq_true (by show IntKind.i64.wrap 4 ≤ _; rw [show IntKind.i64.wrap 4 = 4 from rfl]; omega)
theorem beh_s {x : SE} {n : Nat} (h : Beh xs x n) : ((SE.seq (.ltk x (.lit .i64 4)) (.lbs [80, 82, 71, 49])).val (czEnv xs) != 0) = true := by
 obtain ⟨r, h1, h2⟩ := h
 have e := seq_v (e := czEnv xs) (.ltk x (.lit .i64 4)) (.lbs [80, 82, 71, 49])
 have t : (SE.ltk x (.lit .i64 4)).lst (czEnv xs) = (SE.lbs [80, 82, 71, 49]).lst (czEnv xs) := by
  have q : (SE.ltk x (.lit .i64 4)).lst (czEnv xs) = (x.lst (czEnv xs)).take 4 := by simp only [SE.lst, SE.val, dec_enc]; rfl
  rw [q, h1, List.take_append_of_le_length (by simp [SE.lst, SE.val, dec_enc]), List.take_of_length_le (by simp [SE.lst, SE.val, dec_enc])]
 rw [e, t]; exact decide_eq_true rfl
theorem sum_t {a b c t : SE} {n m k s : Nat} (ht : (t.lst (czEnv xs)).length = s) (ha : (a.lst (czEnv xs)).length = n) (hb : (b.lst (czEnv xs)).length = m) (hn : n ≤ 5) (hm : m ≤ 10) (hk : (c.lst (czEnv xs)).length = k) (hk2 : k ≤ 2) (hs : s = 188 + n * 168 + m * 48 + k * 80) :
  ((SE.cmp .eql (.len t) (.bin .add .i64 (.bin .add .i64 (.bin .add .i64 (.bin .add .i64 (.lit .i64 188) (.bin .mul .i64 (.len a) (.lit .i64 168))) (.bin .mul .i64 (.len b) (.lit .i64 48))) (.bin .mul .i64 (.len c) (.lit .i64 80))) (.lit .i64 0))).val (czEnv xs) != 0) = true := by
 rw [v_cmp, v_bin, v_bin, v_bin, v_bin, v_bin, v_bin, v_bin, v_lit, v_lit, v_lit, v_lit, v_lit, len_v ht (by omega : s ≤ 1000000), len_v ha (by omega : n ≤ 1000000), len_v hb (by omega : m ≤ 1000000), len_v hk (by omega : k ≤ 1000000)]
 exact sum4 hn hm hk2 hs
theorem sum_n {a c t : SE} {n k s : Nat} (ht : (t.lst (czEnv xs)).length = s) (ha : (a.lst (czEnv xs)).length = n) (hn : n ≤ 5) (hk : (c.lst (czEnv xs)).length = k) (hk2 : k ≤ 2) (hs : s = 188 + n * 168 + k * 80) :
  ((SE.cmp .eql (.len t) (.bin .add .i64 (.bin .add .i64 (.bin .add .i64 (.bin .add .i64 (.lit .i64 188) (.bin .mul .i64 (.len a) (.lit .i64 168))) (.lit .i64 0)) (.bin .mul .i64 (.len c) (.lit .i64 80))) (.lit .i64 0))).val (czEnv xs) != 0) = true := by
 rw [v_cmp, v_bin, v_bin, v_bin, v_bin, v_bin, v_bin, v_lit, v_lit, v_lit, v_lit, len_v ht (by omega : s ≤ 1000000), len_v ha (by omega : n ≤ 1000000), len_v hk (by omega : k ≤ 1000000)]
 exact sum3 hn hk2 hs
end
section
variable {xs : List Int} (hl : WtLen xs)
include hl
theorem b_ct1 : Beh xs ct1 (116 + 160 * (wtL0.lst (czEnv xs)).length) := beh_H.more (put_b (c5 hl).symm (by have := c0 hl; omega))
theorem b_ctB : Beh xs ctB (116 + 160 * (wtL0.lst (czEnv xs)).length + 8 * 2) := (b_ct1 hl).more (beh_cw (l := [l8 0, w8 (.conv .u64 (.len wtL6))]) ⟨l8_len _ _, w8_len _ _, trivial⟩)
theorem b_ct3 : Beh xs ct3 (116 + 160 * (wtL0.lst (czEnv xs)).length + 8 * 2 + 8 * 10 * (wtL6.lst (czEnv xs)).length) := (b_ctB hl).more (put_w (fs := prfs) fm93 (by simp [prfs]) (by have := c6 hl; omega))
theorem b_ct4 : Beh xs ct4 (116 + 160 * (wtL0.lst (czEnv xs)).length + 8 * 2 + 8 * 10 * (wtL6.lst (czEnv xs)).length + 8 * 1 * (wtL4.lst (czEnv xs)).length) := (b_ct3 hl).more (put_w (fs := pafs) fm94 (by simp [pafs]) (by have := c4 hl; have := c0 hl; omega))
theorem b_ctZ : Beh xs ctZ (116 + 160 * (wtL0.lst (czEnv xs)).length + 8 * 2 + 8 * 10 * (wtL6.lst (czEnv xs)).length + 8 * 1 * (wtL4.lst (czEnv xs)).length + 8 * 7) := (b_ct4 hl).more (beh_cw (l := z7) z7_w)
theorem b_cf1 : Beh xs cf1 (116 + 160 * (wtL0.lst (czEnv xs)).length) := beh_H.more (put_b (c10 hl).symm (by have := c0 hl; omega))
theorem b_cfB : Beh xs cfB (116 + 160 * (wtL0.lst (czEnv xs)).length + 8) := (b_cf1 hl).more (one_w (w8_len _ _))
theorem b_cf2 : Beh xs cf2 (116 + 160 * (wtL0.lst (czEnv xs)).length + 8 + 8 * 6 * (wtL9.lst (czEnv xs)).length) := (b_cfB hl).more (put_w (fs := ptfs) fm92 (by simp [ptfs]) (by have := c9 hl; omega))
theorem b_cfC : Beh xs cfC (116 + 160 * (wtL0.lst (czEnv xs)).length + 8 + 8 * 6 * (wtL9.lst (czEnv xs)).length + 8) := (b_cf2 hl).more (one_w (w8_len _ _))
theorem b_cf3 : Beh xs cf3 (116 + 160 * (wtL0.lst (czEnv xs)).length + 8 + 8 * 6 * (wtL9.lst (czEnv xs)).length + 8 + 8 * 10 * (wtL6.lst (czEnv xs)).length) := (b_cfC hl).more (put_w (fs := prfs) fm93 (by simp [prfs]) (by have := c6 hl; omega))
theorem b_cf4 : Beh xs cf4 (116 + 160 * (wtL0.lst (czEnv xs)).length + 8 + 8 * 6 * (wtL9.lst (czEnv xs)).length + 8 + 8 * 10 * (wtL6.lst (czEnv xs)).length + 8 * 1 * (wtL8.lst (czEnv xs)).length) := (b_cf3 hl).more (put_w (fs := pafs) fm94 (by simp [pafs]) (by have := c8 hl; have := c0 hl; omega))
theorem b_cfZ : Beh xs cfZ (116 + 160 * (wtL0.lst (czEnv xs)).length + 8 + 8 * 6 * (wtL9.lst (czEnv xs)).length + 8 + 8 * 10 * (wtL6.lst (czEnv xs)).length + 8 * 1 * (wtL8.lst (czEnv xs)).length + 8 * 7) := (b_cf4 hl).more (beh_cw (l := z7) z7_w)
end
def AllC (xs : List Int) : List (SE × Bool) → Prop
 | [] => True
 | p :: r => (isBool p.1 = true ∧ (p.1.val (czEnv xs) != 0) = p.2) ∧ AllC xs r
theorem AllC.knows {xs : List Int} : ∀ {l : List (SE × Bool)}, AllC xs l → Knows (czEnv xs) l
 | [], _ => .nil
 | (x, b) :: r, h => .cons (by rw [eS_k (isBool_ty h.1.1)]; show Value.bool _ = _; rw [show (x.val (czEnv xs) != 0) = b from h.1.2]) (AllC.knows h.2)
section
variable {xs : List Int} (hl : WtLen xs)
include hl
theorem cz_all_t (hb : decide (128 ≤ wtHow xs) = true) : AllC xs czD_t := ⟨⟨rfl, cz_wt (by kernel_rfl) (by kernel_rfl) (by
  have v : ∀ a b : SE, ((SE.cmp .geq a b).val (wtEnv xs) != 0) = decide (a.val (wtEnv xs) ≥ b.val (wtEnv xs)) := fun a b => by simp only [SE.val, b2i_ne, valCmp]
  have e1 : (SE.ivar .u8 4).val (wtEnv xs) = wtHow xs := by unfold wtHow wtEnv; rw [iu_at]
  have e2 : (SE.lit .u8 128).val (wtEnv xs) = 128 := by simp only [SE.val]; rfl
  unfold wtH0
  rw [v, e1, e2, ← hb])⟩,
 ⟨rfl, cz_wt (by kernel_rfl) (by kernel_rfl) (k0 hl)⟩,
 ⟨rfl, cz_wt (by kernel_rfl) (by kernel_rfl) (k1)⟩,
 ⟨rfl, cz_wt (by kernel_rfl) (by kernel_rfl) (k2 xs)⟩,
 ⟨rfl, cz_wt (by kernel_rfl) (by kernel_rfl) (k3 xs)⟩,
 ⟨rfl, cz_wt (by kernel_rfl) (by kernel_rfl) (k4 xs)⟩,
 ⟨rfl, cz_wt (by kernel_rfl) (by kernel_rfl) (k26 xs)⟩,
 ⟨rfl, cz_wt (by kernel_rfl) (by kernel_rfl) (k33 xs)⟩,
 ⟨rfl, cz_wt (by kernel_rfl) (by kernel_rfl) (k34 hl)⟩,
 ⟨rfl, cz_wt (by kernel_rfl) (by kernel_rfl) (k35 hl)⟩,
 ⟨rfl, cz_wt (by kernel_rfl) (by kernel_rfl) (k45 hl)⟩,
 ⟨rfl, cz_wt (by kernel_rfl) (by kernel_rfl) (k6 hl)⟩,
 ⟨rfl, cz_wt (by kernel_rfl) (by kernel_rfl) (k7 hl)⟩,
 ⟨rfl, cz_fact (by kernel_rfl) (mf0 hl)⟩,
 ⟨rfl, cz_fact (by kernel_rfl) (mf1 hl)⟩,
 ⟨rfl, cz_fact (by kernel_rfl) (mf2 hl)⟩,
 ⟨rfl, leq_t (n := 400) (by have := c0 hl; have := c4 hl; have := c6 hl; have := c9 hl; have := c8 hl; omega) (by decide)⟩,
 ⟨rfl, leq_t (n := 20000) (by obtain ⟨_, _, h⟩ := beh_H (xs := xs); omega) (by decide)⟩,
 ⟨rfl, leq_t (n := 1000000) (by obtain ⟨_, _, h⟩ := b_ct1 hl; have := c0 hl; have := c4 hl; have := c6 hl; have := c9 hl; have := c8 hl; omega) (by decide)⟩,
 ⟨rfl, leq_t (n := 100000) (by obtain ⟨_, _, h⟩ := b_ct1 hl; have := c0 hl; have := c4 hl; have := c6 hl; have := c9 hl; have := c8 hl; omega) (by decide)⟩,
 ⟨rfl, leq_t (n := 400) (by have := c0 hl; have := c4 hl; have := c6 hl; have := c9 hl; have := c8 hl; omega) (by decide)⟩,
 ⟨rfl, leq_t (n := 20000) (by obtain ⟨_, _, h⟩ := b_ctB hl; have := c0 hl; have := c4 hl; have := c6 hl; have := c9 hl; have := c8 hl; omega) (by decide)⟩,
 ⟨rfl, leq_t (n := 400) (by have := c0 hl; have := c4 hl; have := c6 hl; have := c9 hl; have := c8 hl; omega) (by decide)⟩,
 ⟨rfl, leq_t (n := 20000) (by obtain ⟨_, _, h⟩ := b_ct3 hl; have := c0 hl; have := c4 hl; have := c6 hl; have := c9 hl; have := c8 hl; omega) (by decide)⟩,
 ⟨rfl, leq_t (n := 1000000) (by obtain ⟨_, _, h⟩ := b_ct4 hl; have := c0 hl; have := c4 hl; have := c6 hl; have := c9 hl; have := c8 hl; omega) (by decide)⟩,
 ⟨rfl, leq_t (n := 100000) (by obtain ⟨_, _, h⟩ := b_ct4 hl; have := c0 hl; have := c4 hl; have := c6 hl; have := c9 hl; have := c8 hl; omega) (by decide)⟩,
 ⟨rfl, by obtain ⟨_, _, h⟩ := b_ctZ hl; exact sum_n h rfl (c0 hl) rfl (c6 hl) (by have := c4 hl; omega)⟩,
 ⟨rfl, beh_4 (b_ctZ hl) (by omega) (by have := c0 hl; have := c4 hl; have := c6 hl; omega)⟩,
 ⟨rfl, beh_s (b_ctZ hl)⟩, trivial⟩
theorem cz_all_f (hb : decide (128 ≤ wtHow xs) = false) : AllC xs czD_f := ⟨⟨rfl, cz_wt (by kernel_rfl) (by kernel_rfl) (by
  have v : ∀ a b : SE, ((SE.cmp .geq a b).val (wtEnv xs) != 0) = decide (a.val (wtEnv xs) ≥ b.val (wtEnv xs)) := fun a b => by simp only [SE.val, b2i_ne, valCmp]
  have e1 : (SE.ivar .u8 4).val (wtEnv xs) = wtHow xs := by unfold wtHow wtEnv; rw [iu_at]
  have e2 : (SE.lit .u8 128).val (wtEnv xs) = 128 := by simp only [SE.val]; rfl
  unfold wtH0
  rw [v, e1, e2, ← hb])⟩,
 ⟨rfl, cz_wt (by kernel_rfl) (by kernel_rfl) (k0 hl)⟩,
 ⟨rfl, cz_wt (by kernel_rfl) (by kernel_rfl) (k1)⟩,
 ⟨rfl, cz_wt (by kernel_rfl) (by kernel_rfl) (k2 xs)⟩,
 ⟨rfl, cz_wt (by kernel_rfl) (by kernel_rfl) (k3 xs)⟩,
 ⟨rfl, cz_wt (by kernel_rfl) (by kernel_rfl) (k4 xs)⟩,
 ⟨rfl, cz_wt (by kernel_rfl) (by kernel_rfl) (k26 xs)⟩,
 ⟨rfl, cz_wt (by kernel_rfl) (by kernel_rfl) (k33 xs)⟩,
 ⟨rfl, cz_wt (by kernel_rfl) (by kernel_rfl) (k34 hl)⟩,
 ⟨rfl, cz_wt (by kernel_rfl) (by kernel_rfl) (k35 hl)⟩,
 ⟨rfl, cz_wt (by kernel_rfl) (by kernel_rfl) (k13 hl)⟩,
 ⟨rfl, cz_wt (by kernel_rfl) (by kernel_rfl) (k14 hl)⟩,
 ⟨rfl, cz_wt (by kernel_rfl) (by kernel_rfl) (k40 hl)⟩,
 ⟨rfl, cz_wt (by kernel_rfl) (by kernel_rfl) (k46 hl)⟩,
 ⟨rfl, cz_wt (by kernel_rfl) (by kernel_rfl) (k15 hl)⟩,
 ⟨rfl, cz_wt (by kernel_rfl) (by kernel_rfl) (k16 hl)⟩,
 ⟨rfl, cz_fact (by kernel_rfl) (mf0 hl)⟩,
 ⟨rfl, cz_fact (by kernel_rfl) (mf11 hl)⟩,
 ⟨rfl, cz_fact (by kernel_rfl) (mf12 hl)⟩,
 ⟨rfl, cz_fact (by kernel_rfl) (mf13 hl)⟩,
 ⟨rfl, leq_t (n := 400) (by have := c0 hl; have := c4 hl; have := c6 hl; have := c9 hl; have := c8 hl; omega) (by decide)⟩,
 ⟨rfl, leq_t (n := 20000) (by obtain ⟨_, _, h⟩ := beh_H (xs := xs); omega) (by decide)⟩,
 ⟨rfl, leq_t (n := 1000000) (by obtain ⟨_, _, h⟩ := b_cf1 hl; have := c0 hl; have := c4 hl; have := c6 hl; have := c9 hl; have := c8 hl; omega) (by decide)⟩,
 ⟨rfl, leq_t (n := 400) (by have := c0 hl; have := c4 hl; have := c6 hl; have := c9 hl; have := c8 hl; omega) (by decide)⟩,
 ⟨rfl, leq_t (n := 20000) (by obtain ⟨_, _, h⟩ := b_cfB hl; have := c0 hl; have := c4 hl; have := c6 hl; have := c9 hl; have := c8 hl; omega) (by decide)⟩,
 ⟨rfl, leq_t (n := 1000000) (by obtain ⟨_, _, h⟩ := b_cf2 hl; have := c0 hl; have := c4 hl; have := c6 hl; have := c9 hl; have := c8 hl; omega) (by decide)⟩,
 ⟨rfl, leq_t (n := 400) (by have := c0 hl; have := c4 hl; have := c6 hl; have := c9 hl; have := c8 hl; omega) (by decide)⟩,
 ⟨rfl, leq_t (n := 20000) (by obtain ⟨_, _, h⟩ := b_cfC hl; have := c0 hl; have := c4 hl; have := c6 hl; have := c9 hl; have := c8 hl; omega) (by decide)⟩,
 ⟨rfl, leq_t (n := 400) (by have := c0 hl; have := c4 hl; have := c6 hl; have := c9 hl; have := c8 hl; omega) (by decide)⟩,
 ⟨rfl, leq_t (n := 20000) (by obtain ⟨_, _, h⟩ := b_cf3 hl; have := c0 hl; have := c4 hl; have := c6 hl; have := c9 hl; have := c8 hl; omega) (by decide)⟩,
 ⟨rfl, leq_t (n := 1000000) (by obtain ⟨_, _, h⟩ := b_cf4 hl; have := c0 hl; have := c4 hl; have := c6 hl; have := c9 hl; have := c8 hl; omega) (by decide)⟩,
 ⟨rfl, leq_t (n := 100000) (by obtain ⟨_, _, h⟩ := b_cf4 hl; have := c0 hl; have := c4 hl; have := c6 hl; have := c9 hl; have := c8 hl; omega) (by decide)⟩,
 ⟨rfl, by obtain ⟨_, _, h⟩ := b_cfZ hl; exact sum_t h rfl rfl (c0 hl) (c9 hl) rfl (c6 hl) (by have := c8 hl; omega)⟩,
 ⟨rfl, beh_4 (b_cfZ hl) (by omega) (by have := c0 hl; have := c8 hl; have := c6 hl; have := c9 hl; omega)⟩,
 ⟨rfl, beh_s (b_cfZ hl)⟩, trivial⟩
end
section
variable {xs : List Int} {σ : List (Nat × Nat × Nat)} {us : List Value} {w : World} (hl : WtLen xs) (hn : σ.length = 4) (hus : RelVs (eV (czEnv xs)) σ wmA us) (hF : FR (bW.loops CzL_L).P (eV (czEnv xs)) σ [wtM] w)
include hl hn hus hF
theorem cz_law : Calls Try.prog 9 (List.toArray us) w fun en w' => en = .returned (.bool true) ∧ Below w.heap.size w w' := by
 cases hb : decide (128 ≤ wtHow xs) with
 | true => exact law_soundK (b := bW.loops CzL_L) (Tb := CzL_T) (K := czK) (loops_ok bW_ok _) czK_ok (lb_of CzL_lb) CzL_ok (E := czEnv xs) rfl hn hus hF .done czD_t czC_t (cz_all_t hl hb).knows trivial
 | false => exact law_soundK (b := bW.loops CzL_L) (Tb := CzL_T) (K := czK) (loops_ok bW_ok _) czK_ok (lb_of CzL_lb) CzL_ok (E := czEnv xs) rfl hn hus hF .done czD_f czC_f (cz_all_f hl hb).knows trivial
end
theorem cz_row {us : List Value} {xs : List Int} {ss : List (Nat × Nat × Nat)} {w : World} (h : LfsOK w wmLs us xs ss) : Calls Try.prog 9 (List.toArray us) w fun en w' => en = .returned (.bool true) ∧ Below w.heap.size w w' := by
 have h2 := symL_rel (P := (bW.loops CzL_L).P) (E := czEnv xs) (σ := ss) h 0 0 (fun i _ => by rw [Nat.zero_add]; exact ⟨rfl, rfl⟩) (fun i x hi => by rw [Nat.zero_add]; exact hi)
 have hn : ss.length = 4 := h.slen
 have hl : WtLen xs := ⟨h.atL 0 rfl, h.atL 1 rfl, h.atL 2 rfl, h.atL 3 rfl⟩
 exact cz_law hl hn (rel_ones h2.1) h2.2
end Go.Proofs.Ytedfbamihjnhhaa.Own
