/- Contracts of the functions of package field that the laws reach. -/
import Derived.Test.YtcnbinjoeilfgaaGA
namespace Go.Proofs.Ytcnbinjoeilfgaa
open Go.RowKit

set_option maxHeartbeats 1000000 in
theorem Valid_c (p : Nat) (w : World) :
    Calls Try.prog 39 #[.agg #[.int .u64 p]] w fun e w' => e = .returned (.bool (vld p)) ∧ Ext w w' := by
  cases h : vld p
  · obtain ⟨h1, h2, h3, h4, h5, h6, h7⟩ := vld_not h
    have g1 : ((p : Int) == 17) = false := beq_eq_false_iff_ne.2 (by omega)
    have g2 : ((p : Int) == 97) = false := beq_eq_false_iff_ne.2 (by omega)
    have g3 : ((p : Int) == 193) = false := beq_eq_false_iff_ne.2 (by omega)
    have g4 : ((p : Int) == 257) = false := beq_eq_false_iff_ne.2 (by omega)
    have g5 : ((p : Int) == 12289) = false := beq_eq_false_iff_ne.2 (by omega)
    have g6 : ((p : Int) == 65537) = false := beq_eq_false_iff_ne.2 (by omega)
    have g7 : ((p : Int) == 18446744069414584321) = false := beq_eq_false_iff_ne.2 (by omega)
    clear h h1 h2 h3 h4 h5 h6 h7
    go_enter Try.func39, Try.ntmps39
    go_wp2
    go_ret
    exact ⟨rfl, (Ext.refl _).alloc _⟩
  · rcases vld_cases h with rfl | rfl | rfl | rfl | rfl | rfl | rfl
    all_goals
      clear h
      go_enter Try.func39, Try.ntmps39
      go_wp2
      go_ret
      exact ⟨rfl, (Ext.refl _).alloc _⟩

set_option maxHeartbeats 400000 in
theorem reduced_c (p n : Nat) (w : World) (hp : 0 < p) :
    Calls Try.prog 70 #[.agg #[.int .u64 p], .int .u64 n] w fun e w' => e = .returned (.int .u64 ((n % p : Nat) : Int)) ∧ Ext w w' := by
  by_cases h : n < p
  · have h' : decide (p ≤ n) = false := by simp; omega
    go_enter Try.func70, Try.ntmps70
    go_wp2
    go_ret
    exact ⟨ret_u _ _ (by rw [Nat.mod_eq_of_lt h]), (Ext.refl _).alloc _⟩
  · have h' : decide (p ≤ n) = true := by simp; omega
    go_enter Try.func70, Try.ntmps70
    go_wp2
    go_ret
    exact ⟨ret_u _ _ (by simp), (Ext.refl _).alloc _⟩

set_option maxHeartbeats 400000 in
theorem Reduce_c (p n : Nat) (w : World) :
    Calls Try.prog 46 #[.agg #[.int .u64 p], .int .u64 n] w fun e w' => e = .returned (.int .u64 (fred p n)) ∧ Ext w w' := by
  cases h : vld p
  · have H := Lib.hid h
    go_enter Try.func46, Try.ntmps46
    go_wp2_with (go_at_call 39; refine (Valid_c _ _).mono ?_; rintro e w1 ⟨rfl, hb1⟩)
    go_ret
    exact ⟨ret_u _ _ (by simp [fred, H.out]), hb1.box⟩
  · have H := Lib.hid h
    have hp := (vld_bd h).1
    go_enter Try.func46, Try.ntmps46
    go_wp2_with (first
      | (go_at_call 39; refine (Valid_c _ _).mono ?_; rintro e w1 ⟨rfl, hb1⟩; have hc := hb1.boxCell)
      | (go_at_call 70; refine (reduced_c p n _ (by omega)).mono ?_; rintro e w2 ⟨rfl, hb2⟩))
    go_ret
    exact ⟨ret_u _ _ (by simp [fred, H.out]), hb1.box.trans hb2⟩

theorem neg_val {p n : Nat} (h : vld p = true) (h0 : 0 < fred p n) : (p : Int) - (fred p n : Int) = (fneg p n : Int) := by
  have hlt := lt_of_mod (n := n) h
  unfold fred at h0 ⊢; unfold fneg
  rw [if_pos h] at h0 ⊢
  rw [if_pos h, Nat.mod_eq_of_lt (a := p - n % p) (by omega)]; omega
set_option maxHeartbeats 400000 in
theorem Neg_c (p n : Nat) (w : World) :
    Calls Try.prog 78 #[.agg #[.int .u64 p], .int .u64 n] w fun e w' => e = .returned (.int .u64 (fneg p n)) ∧ Ext w w' := by
  have hr : fred p n = 0 ∨ (vld p = true ∧ 0 < fred p n) := by
    unfold fred; split
    · rename_i h; rcases Nat.eq_zero_or_pos (n % p) with h0 | h0
      · exact .inl h0
      · exact .inr ⟨h, h0⟩
    · exact .inl rfl
  rcases hr with h | ⟨h, h0⟩
  · have H := Lib.hid h
    have g : ((fred p n : Int) == 0) = true := by rw [h]; rfl
    clear h
    go_enter Try.func78, Try.ntmps78
    go_wp2_with (go_at_call 46; refine (Reduce_c _ _ _).mono ?_; rintro e w1 ⟨rfl, hb1⟩)
    go_ret
    exact ⟨ret_u _ _ (by have := H.out; unfold fred at this; unfold fneg; split <;> simp_all), hb1.box⟩
  · have H := Lib.hid h
    have hb := vld_bd h
    have hlt : fred p n < p := by unfold fred; rw [if_pos h]; exact lt_of_mod h
    have g : ((fred p n : Int) == 0) = false := beq_eq_false_iff_ne.2 (by omega)
    clear h
    go_enter Try.func78, Try.ntmps78
    go_wp2_with (first
      | (go_at_call 46; refine (Reduce_c _ _ _).mono ?_; rintro e w1 ⟨rfl, hb1⟩; have hc := hb1.boxCell))
    go_ret
    exact ⟨ret_u _ _ (by have := H.out; exact neg_val this h0), hb1.box⟩

theorem Add64_c (x y : Nat) (w : World) : (callFunc 79 #[.int .u64 x, .int .u64 y, .int .u64 0]).run Try.prog w =
    .ok (.value (.tuple #[.int .u64 (((x + y) % 18446744073709551616 : Nat) : Int), .int .u64 (((x + y) / 18446744073709551616 : Nat) : Int)])) w := by
  rw [run_callFunc_extern Try.func79 (by kernel_rfl) (by kernel_rfl) (by kernel_rfl) (e := add64Entry) (by kernel_rfl), run_add64 x y 0 (by omega) (by omega) (by omega) (by omega)]
  simp only [Result.andThen]
  congr 5 <;> omega

set_option maxHeartbeats 800000 in
theorem add_c (p a b : Nat) (w : World) (hp : vld p = true) (ha : a < p) (hb : b < p) :
    Calls Try.prog 74 #[.agg #[.int .u64 p], .int .u64 a, .int .u64 b] w fun e w' => e = .returned (.int .u64 (fadd p a b)) ∧ Ext w w' := by
  have hq := vld_bd hp
  have hf : fadd p a b = if a + b < p then a + b else a + b - p := by
    unfold fadd; rw [if_pos hp]; split
    · exact Nat.mod_eq_of_lt (by assumption)
    · rw [Nat.mod_eq_sub_mod (by omega), Nat.mod_eq_of_lt (by omega)]
  have H := Lib.hid hf
  clear hf hp
  by_cases h1 : a + b < 18446744073709551616
  · obtain ⟨s, hs⟩ : ∃ s, s = (a + b) % 18446744073709551616 := ⟨_, rfl⟩
    obtain ⟨c, hc⟩ : ∃ c, c = (a + b) / 18446744073709551616 := ⟨_, rfl⟩
    have h2 : s = a + b := by omega
    have h3 : c = 0 := by omega
    have A := Add64_c a b
    rw [← hs, ← hc] at A
    subst h3
    have H2 := Lib.hid h2
    clear hs hc h2
    by_cases h4 : s < p
    · have g : decide (p ≤ s) = false := by simp; omega
      go_enter Try.func74, Try.ntmps74
      go_wp2_with (simp only [A])
      go_ret
      exact ⟨ret_u _ _ (by rw [H.out, ← H2.out, if_pos h4]), (Ext.refl _).alloc _⟩
    · have g : decide (p ≤ s) = true := by simp; omega
      have g2 : (p : Int) ≤ s := by omega
      have g3 : (s : Int) < 18446744073709551616 := by have := H2.out; omega
      go_enter Try.func74, Try.ntmps74
      go_wp2_with (simp only [A])
      go_ret
      exact ⟨ret_u _ _ (by rw [H.out, ← H2.out, if_neg h4]; omega), (Ext.refl _).alloc _⟩
  · obtain ⟨s, hs⟩ : ∃ s, s = (a + b) % 18446744073709551616 := ⟨_, rfl⟩
    obtain ⟨c, hc⟩ : ∃ c, c = (a + b) / 18446744073709551616 := ⟨_, rfl⟩
    have h2 : s + 18446744073709551616 = a + b := by omega
    have h3 : c = 1 := by omega
    have A := Add64_c a b
    rw [← hs, ← hc] at A
    subst h3
    have H2 := Lib.hid h2
    clear hs hc h2
    go_enter Try.func74, Try.ntmps74
    go_wp2_with (simp only [A])
    go_ret
    exact ⟨ret_u _ _ (by have h2 := H2.out; rw [H.out, if_neg (by omega), IntKind.wrap_u64]; omega), (Ext.refl _).alloc _⟩

set_option maxHeartbeats 800000 in
theorem Add_c (p a b : Nat) (w : World) :
    Calls Try.prog 48 #[.agg #[.int .u64 p], .int .u64 a, .int .u64 b] w fun e w' => e = .returned (.int .u64 (fadd p a b)) ∧ Ext w w' := by
  cases h : vld p
  · have H := Lib.hid h
    go_enter Try.func48, Try.ntmps48
    go_wp2_with (go_at_call 39; refine (Valid_c _ _).mono ?_; rintro e w1 ⟨rfl, hb1⟩)
    go_ret
    exact ⟨ret_u _ _ (by simp [fadd, H.out]), hb1.box⟩
  · have H := Lib.hid h
    have hp := (vld_bd h).1
    go_enter Try.func48, Try.ntmps48
    go_wp2_with (go_at_call 39; refine (Valid_c _ _).mono ?_; rintro e w1 ⟨rfl, hb1⟩; have hc := hb1.boxCell)
    refine region_facts [[], [], [], [(1, 11), (2, 12)], [], [], [(4, 14), (5, 15)], [(0, 10), (3, 13), (6, 16)], [(7, 17)]] [some 10, some 11, some 12, some 13, some 14, some 15, some 16, some 17, some 6] (by kernel_rfl) (by kernel_rfl) ?_
    apply From.eq
    · intro w' hx; have hcx := hx.cell hc; dsimp only [DepsV, fat, List.nil_append, List.cons_append, eqF]; go_wp2; exact OpPost.some _ rfl rfl (Ext.refl _) rfl
    apply From.eq
    · intro w' hx; have hcx := hx.cell hc; dsimp only [DepsV, fat, List.nil_append, List.cons_append, eqF]; go_wp2; exact OpPost.some _ rfl rfl (Ext.refl _) rfl
    apply From.eq
    · intro w' hx; have hcx := hx.cell hc; dsimp only [DepsV, fat, List.nil_append, List.cons_append, eqF]; go_wp2; exact OpPost.some _ rfl rfl (Ext.refl _) rfl
    apply From.eq
    · intro w' hx; have hcx := hx.cell hc; dsimp only [DepsV, fat, List.nil_append, List.cons_append, eqF]; rintro _ rfl _ rfl; go_wp2_with (go_at_call 70; refine (reduced_c p a _ (by omega)).mono ?_; rintro e w2 ⟨rfl, hb2⟩); exact OpPost.some _ rfl rfl hb2 rfl
    apply From.eq
    · intro w' hx; have hcx := hx.cell hc; dsimp only [DepsV, fat, List.nil_append, List.cons_append, eqF]; go_wp2; exact OpPost.some _ rfl rfl (Ext.refl _) rfl
    apply From.eq
    · intro w' hx; have hcx := hx.cell hc; dsimp only [DepsV, fat, List.nil_append, List.cons_append, eqF]; go_wp2; exact OpPost.some _ rfl rfl (Ext.refl _) rfl
    apply From.eq
    · intro w' hx; have hcx := hx.cell hc; dsimp only [DepsV, fat, List.nil_append, List.cons_append, eqF]; rintro _ rfl _ rfl; go_wp2_with (go_at_call 70; refine (reduced_c p b _ (by omega)).mono ?_; rintro e w2 ⟨rfl, hb2⟩); exact OpPost.some _ rfl rfl hb2 rfl
    apply From.eq
    · intro w' hx; have hcx := hx.cell hc; dsimp only [DepsV, fat, List.nil_append, List.cons_append, eqF]; rintro _ rfl _ rfl _ rfl; go_wp2_with (go_at_call 74; refine (add_c p (a % p) (b % p) _ H.out (Nat.mod_lt _ (by omega)) (Nat.mod_lt _ (by omega))).mono ?_; rintro e w2 ⟨rfl, hb2⟩); exact OpPost.some _ rfl rfl hb2 rfl
    apply From.eq
    · intro w' hx; have hcx := hx.cell hc; dsimp only [DepsV, fat, List.nil_append, List.cons_append, eqF]; rintro _ rfl; go_wp2; exact OpPost.some _ rfl rfl (Ext.refl _) rfl
    refine From.fin (fun w' hx => ?_)
    dsimp only [EndV, List.nil_append, List.cons_append, eqF]; rintro _ rfl _ rfl _ rfl _ rfl _ rfl _ rfl _ rfl _ rfl _ rfl; simp only [Act.put, List.setIfInBounds_toArray, List.set_cons_zero, List.set_cons_succ]
    go_wp2
    go_ret
    exact ⟨ret_u _ _ (by unfold fadd; rw [H.out]; simp), hb1.box.trans hx⟩


set_option maxHeartbeats 800000 in
theorem Sub_c (p a b : Nat) (w : World) :
    Calls Try.prog 68 #[.agg #[.int .u64 p], .int .u64 a, .int .u64 b] w fun e w' => e = .returned (.int .u64 (fsub p a b)) ∧ Ext w w' := by
  go_enter Try.func68, Try.ntmps68
  go_wp2
  have hc : (w.alloc (.cells #[.int .u64 p] 29)).cell? ⟨w.heap.size, 0, none⟩ = some (.int .u64 p) := by simp
  refine region_facts [[], [], [], [], [(2, 9), (3, 10)], [(0, 7), (1, 8), (4, 11)], [(5, 12)]] [some 7, some 8, some 9, some 10, some 11, some 12, some 6] (by kernel_rfl) (by kernel_rfl) ?_
  apply From.eq
  · intro w' hx; have hcx := hx.cell hc; dsimp only [DepsV, fat, List.nil_append, List.cons_append, eqF]; go_wp2; exact OpPost.some _ rfl rfl (Ext.refl _) rfl
  apply From.eq
  · intro w' hx; have hcx := hx.cell hc; dsimp only [DepsV, fat, List.nil_append, List.cons_append, eqF]; go_wp2; exact OpPost.some _ rfl rfl (Ext.refl _) rfl
  apply From.eq
  · intro w' hx; have hcx := hx.cell hc; dsimp only [DepsV, fat, List.nil_append, List.cons_append, eqF]; go_wp2; exact OpPost.some _ rfl rfl (Ext.refl _) rfl
  apply From.eq
  · intro w' hx; have hcx := hx.cell hc; dsimp only [DepsV, fat, List.nil_append, List.cons_append, eqF]; go_wp2; exact OpPost.some _ rfl rfl (Ext.refl _) rfl
  apply From.eq
  · intro w' hx; have hcx := hx.cell hc; dsimp only [DepsV, fat, List.nil_append, List.cons_append, eqF]; rintro _ rfl _ rfl; go_wp2_with (go_at_call 78; refine (Neg_c _ _ _).mono ?_; rintro e w2 ⟨rfl, hb2⟩); exact OpPost.some _ rfl rfl hb2 rfl
  apply From.eq
  · intro w' hx; have hcx := hx.cell hc; dsimp only [DepsV, fat, List.nil_append, List.cons_append, eqF]; rintro _ rfl _ rfl _ rfl; go_wp2_with (go_at_call 48; refine (Add_c _ _ _ _).mono ?_; rintro e w2 ⟨rfl, hb2⟩); exact OpPost.some _ rfl rfl hb2 rfl
  apply From.eq
  · intro w' hx; have hcx := hx.cell hc; dsimp only [DepsV, fat, List.nil_append, List.cons_append, eqF]; rintro _ rfl; go_wp2; exact OpPost.some _ rfl rfl (Ext.refl _) rfl
  refine From.fin (fun w' hx => ?_)
  dsimp only [EndV, List.nil_append, List.cons_append, eqF]; rintro _ rfl _ rfl _ rfl _ rfl _ rfl _ rfl _ rfl; simp only [Act.put, List.setIfInBounds_toArray, List.set_cons_zero, List.set_cons_succ]
  go_wp2
  go_ret
  exact ⟨rfl, hx.box⟩
end Go.Proofs.Ytcnbinjoeilfgaa
