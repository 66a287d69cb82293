/- Contracts: generators and roots. -/
import Derived.Test.YtcnbinjoeilfgaaRef1
import Derived.Test.YtcnbinjoeilfgaaGP
import Derived.Laws.Bits64b
namespace Go.Proofs.Ytcnbinjoeilfgaa
open Go.RowKit

theorem and_i64 (a b : Nat) (ha : a < 9223372036854775808) (hb : b < 9223372036854775808) : bits .and .i64 (a : Int) (b : Int) = ((a &&& b : Nat) : Int) := by
  have hx : a &&& b < 2 ^ 63 := Nat.and_lt_two_pow _ (by omega)
  have h1 : (BitVec.ofInt 64 (a : Int)).toNat = a := by
    rw [BitVec.ofInt_natCast, BitVec.toNat_ofNat]; exact Nat.mod_eq_of_lt (by omega)
  have h2 : (BitVec.ofInt 64 (b : Int)).toNat = b := by
    rw [BitVec.ofInt_natCast, BitVec.toNat_ofNat]; exact Nat.mod_eq_of_lt (by omega)
  show IntKind.i64.wrap ((BitVec.ofInt 64 (a : Int) &&& BitVec.ofInt 64 (b : Int)).toNat : Int) = _
  rw [BitVec.toNat_and, h1, h2, IntKind.wrap_i64]
  omega
theorem and_pow2 : ∀ m : Nat, 1 ≤ m → (m &&& (m - 1) = 0 ↔ ∃ k, m = 2 ^ k) := by
  intro m
  induction m using Nat.strongRecOn with
  | _ m ih =>
    intro h1
    have hd := Nat.and_div_two (a := m) (b := m - 1)
    by_cases ho : m % 2 = 1
    · by_cases h : m = 1
      · subst h; exact ⟨fun _ => ⟨0, rfl⟩, fun _ => rfl⟩
      · constructor
        · intro h0
          rw [h0, show (m - 1) / 2 = m / 2 by omega, Nat.and_self] at hd
          omega
        · rintro ⟨k, rfl⟩
          cases k with
          | zero => simp at h
          | succ k => rw [Nat.pow_succ] at ho; omega
    · have hj := ih (m / 2) (by omega) (by omega)
      rw [show (m - 1) / 2 = m / 2 - 1 by omega] at hd
      have hm2 : (m &&& (m - 1)) % 2 = 0 := by
        have := Nat.and_mod_two_pow (a := m) (b := m - 1) (n := 1)
        rw [Nat.pow_one] at this
        rw [this, show m % 2 = 0 by omega]; simp
      constructor
      · intro h0
        rw [h0] at hd
        obtain ⟨k, hk⟩ := hj.1 (by omega)
        exact ⟨k + 1, by rw [Nat.pow_succ, ← hk]; omega⟩
      · rintro ⟨k, rfl⟩
        cases k with
        | zero => simp at ho
        | succ k =>
          have := hj.2 ⟨k, by rw [Nat.pow_succ]; omega⟩
          rw [this] at hd; omega
theorem pow2_bd {m k : Nat} (h : m = 2 ^ k) (hm : m < 9223372036854775808) : k < 63 := by
  rcases Nat.lt_or_ge k 63 with h1 | h1
  · exact h1
  · have := Nat.pow_le_pow_right (show 0 < 2 by omega) h1
    omega
theorem odd_pow2 : ∀ (k r j : Nat), r % 2 = 1 → r * 2 ^ j = 2 ^ k → r = 1
  | 0, r, j, _, h => by
    have := Nat.two_pow_pos j
    rw [Nat.pow_zero] at h
    exact Nat.eq_one_of_mul_eq_one_right h
  | k + 1, r, 0, h1, h => by rw [Nat.pow_zero, Nat.mul_one, Nat.pow_succ] at h; omega
  | k + 1, r, j + 1, h1, h => by
    rw [Nat.pow_succ, Nat.pow_succ, ← Nat.mul_assoc] at h
    exact odd_pow2 k r j h1 (by omega)

theorem gent_rg (p : Nat) : rg p = gent p := rfl
def NumPost (p : Nat) (w : World) (e : Ending) (w' : World) : Prop := ∃ a x, e = .returned (.tuple #[.int .u64 (gent p), .int .i64 a, .int .u64 x]) ∧ Ext w w'

set_option maxHeartbeats 1000000 in
theorem numbers_c (p : Nat) (w : World) : Calls Try.prog 80 #[.agg #[.int .u64 p]] w (NumPost p w) := by
  cases h : vld p
  · obtain ⟨h1, h2, h3, h4, h5, h6, h7⟩ := vld_not h
    have g1 : ((p : Int) == 17) = false := beq_eq_false_iff_ne.2 (by omega)
    have g2 : ((p : Int) == 97) = false := beq_eq_false_iff_ne.2 (by omega)
    have g3 : ((p : Int) == 193) = false := beq_eq_false_iff_ne.2 (by omega)
    have g4 : ((p : Int) == 257) = false := beq_eq_false_iff_ne.2 (by omega)
    have g5 : ((p : Int) == 12289) = false := beq_eq_false_iff_ne.2 (by omega)
    have g6 : ((p : Int) == 65537) = false := beq_eq_false_iff_ne.2 (by omega)
    have g7 : ((p : Int) == 18446744069414584321) = false := beq_eq_false_iff_ne.2 (by omega)
    have e1 : Hid (gent p = 0) := Lib.hid (by simp [gent, h1, h2, h3, h4, h5, h6, h7])
    clear h h1 h2 h3 h4 h5 h6 h7
    go_enter Try.func80, Try.ntmps80
    go_wp2
    go_ret3
    exact ⟨0, 0, by rw [e1.out]; rfl, (Ext.refl _).alloc _⟩
  · rcases vld_cases h with rfl | rfl | rfl | rfl | rfl | rfl | rfl
    all_goals
      clear h
      go_enter Try.func80, Try.ntmps80
      go_wp2
      go_ret3
      exact ⟨_, _, rfl, (Ext.refl _).alloc _⟩

set_option maxHeartbeats 1000000 in
theorem Generator_c (p : Nat) (w : World) : Calls Try.prog 75 #[.agg #[.int .u64 p]] w fun e w' => e = .returned (.int .u64 (gent p)) ∧ Ext w w' := by
  go_enter Try.func75, Try.ntmps75
  go_wp2_with fail
  refine (numbers_c _ _).mono ?_; rintro e w1 ⟨a, x, rfl, hb1⟩
  go_wp2_with fail
  go_ret
  exact ⟨rfl, hb1.box⟩

set_option maxHeartbeats 1000000 in
theorem RGen_c (p : Nat) (w : World) : Calls Try.prog 73 #[.int .u64 p] w fun e w' => e = .returned (.int .u64 (gent p)) ∧ Ext w w' := by
  have i0 : ∀ w, (Instr.index 76 (.agg #[.int .u64 (rg p), .int .u64 (ra p), .int .u64 (rx p)]) (.int .i64 0)).run Try.prog w = .ok (.int .u64 (rg p)) w := fun _ => by kernel_rfl
  go_enter Try.func73, Try.ntmps73
  go_wp2_with (go_at_call 57; refine (row_c _ _).mono ?_; rintro e w1 ⟨rfl, hb1⟩)
  go_ret
  exact ⟨rfl, hb1⟩

def RootPost (p : Nat) (n : Int) (w : World) (e : Ending) (w' : World) : Prop := e = .returned (.tuple #[.int .u64 (rootV p n), .bool (rootB p n)]) ∧ Ext w w'
theorem rootV_no {p : Nat} {n : Int} (h : rootB p n = false) : rootV p n = 0 := by unfold rootV; rw [h]; rfl

set_option maxHeartbeats 1000000 in
theorem Root_c (p : Nat) (n : Int) (w : World) (hn : n ≤ 9223372036854775807) (hn2 : -9223372036854775808 ≤ n) : Calls Try.prog 67 #[.agg #[.int .u64 p], .int .i64 n] w (RootPost p n w) := by
  by_cases hv : vld p = false
  · have V := Lib.hid hv
    have E : Hid (rootB p n = false) := Lib.hid (by unfold rootB; rw [hv]; rfl)
    clear hv
    go_enter Try.func67, Try.ntmps67
    go_wp2_with fail
    refine (Valid_c _ _).mono ?_; rintro e w1 ⟨rfl, hb1⟩; rw [V.out]
    go_wp2_with fail
    go_ret2
    exact ⟨by rw [rootV_no E.out, E.out]; rfl, hb1.box⟩
  rw [Bool.not_eq_false] at hv
  have V := Lib.hid hv
  clear hv
  by_cases h1 : n < 1
  · have E : Hid (rootB p n = false) := Lib.hid (by unfold rootB; rw [decide_eq_false (show ¬ 1 ≤ n by omega)]; simp)
    have t1 : decide (n < 1) = true := by simpa using h1
    go_enter Try.func67, Try.ntmps67
    go_wp2_with fail
    refine (Valid_c _ _).mono ?_; rintro e w1 ⟨rfl, hb1⟩; rw [V.out]
    go_wp2_with fail
    go_ret2
    exact ⟨by rw [rootV_no E.out, E.out]; rfl, hb1.box⟩
  have t1 : decide (n < 1) = false := by simpa using h1
  obtain ⟨m, rfl⟩ : ∃ m : Nat, n = (m : Int) := ⟨n.toNat, by omega⟩
  have ha := and_i64 m (m - 1) (by omega) (by omega)
  have hm1 : (((m - 1 : Nat) : Nat) : Int) = (m : Int) - 1 := by omega
  rw [hm1] at ha
  by_cases h2 : ∃ k, m = 2 ^ k
  case neg =>
    have E : Hid (rootB p (m : Int) = false) := Lib.hid (by
      unfold rootB
      rw [decide_eq_false (p := ∃ k, k < 63 ∧ (m : Int).toNat = 2 ^ k) (by rintro ⟨k, _, hk⟩; exact h2 ⟨k, by simpa using hk⟩)]; simp)
    have t2 : (bits .and .i64 (m : Int) ((m : Int) - 1) != 0) = true := by
      rw [ha, bne_iff_ne]; intro h; exact h2 ((and_pow2 m (by omega)).1 (by omega))
    clear ha hm1 h2
    go_enter Try.func67, Try.ntmps67
    go_wp2_with fail
    refine (Valid_c _ _).mono ?_; rintro e w1 ⟨rfl, hb1⟩; rw [V.out]
    go_wp2_with fail
    go_ret2
    exact ⟨by rw [rootV_no E.out, E.out]; rfl, hb1.box⟩
  obtain ⟨k, hk⟩ := h2
  have t2 : (bits .and .i64 (m : Int) ((m : Int) - 1) != 0) = false := by
    rw [ha, (and_pow2 m (by omega)).2 ⟨k, hk⟩]; rfl
  have hkb := pow2_bd hk (by omega)
  have hb := vld_bd V.out
  have HK := Lib.hid hk
  have e1 : (p : Int) - 1 = ((p - 1 : Nat) : Int) := by omega
  have g0 : ((m : Int) == 0) = false := beq_eq_false_iff_ne.2 (by omega)
  clear ha hm1 hk
  by_cases h3 : (p - 1) % m = 0
  case neg =>
    have E : Hid (rootB p (m : Int) = false) := Lib.hid (by
      unfold rootB
      rw [decide_eq_false (p := (p - 1) % (m : Int).toNat = 0) (by simpa using h3)]; simp)
    have t3 : ((((p - 1 : Nat) : Int) % (m : Int)) != 0) = true := by
      rw [bne_iff_ne, ← Int.natCast_emod]; omega
    clear h3
    go_enter Try.func67, Try.ntmps67
    go_wp2_with fail
    refine (Valid_c _ _).mono ?_; rintro e w1 ⟨rfl, hb1⟩; rw [V.out]; have hc := hb1.boxCell
    go_wp2_with fail
    go_ret2
    exact ⟨by rw [rootV_no E.out, E.out]; rfl, hb1.box⟩
  have E : Hid (rootB p (m : Int) = true) := Lib.hid (by rw [HK.out]; exact rootB_mk V.out hkb (by rw [← HK.out]; exact h3))
  have E2 : Hid (rootV p (m : Int) = gent p ^ ((p - 1) / m) % p) := Lib.hid (by unfold rootV; rw [E.out, if_pos rfl]; simp [rootN])
  have t3 : ((((p - 1 : Nat) : Int) % (m : Int)) != 0) = false := by
    rw [← Int.natCast_emod, h3]; rfl
  have hq : (p - 1) / m ≤ p := Nat.le_trans (Nat.div_le_self _ _) (by omega)
  have hq2 : (((p - 1 : Nat) : Int) / (m : Int)) = (((p - 1) / m : Nat) : Int) := by rw [Int.natCast_ediv]
  obtain ⟨q, hq0⟩ : ∃ q, q = (p - 1) / m := ⟨_, rfl⟩
  rw [← hq0] at hq hq2 E2
  clear hq0
  have hg : gent p < p := by
    have := V.out
    rcases vld_cases this with h | h | h | h | h | h | h <;> subst h <;> decide
  clear h3
  go_enter Try.func67, Try.ntmps67
  go_wp2_with fail
  refine (Valid_c _ _).mono ?_; rintro e w1 ⟨rfl, hb1⟩; rw [V.out]; have hc := hb1.boxCell
  go_wp2_with fail
  refine region_facts [[], [], [(1, 28)], [], [(3, 30)], [(4, 31)], [], [(6, 33)], [(5, 32), (7, 34)], [(0, 27), (2, 29), (8, 35)], [(9, 36)], []] [some 27, some 28, some 29, some 30, some 31, some 32, some 33, some 34, some 35, some 36, some 4, some 5] (by kernel_rfl) (by kernel_rfl) ?_
  with_reducible apply From.eq
  · intro w' hx; have hcx := hx.cell hc; (try dsimp only [List.nil_append, List.cons_append]); dsimp only [DepsV, fat, eqF]; go_wp2; exact OpPost.some _ rfl rfl (Ext.refl _) rfl
  with_reducible apply From.eq
  · intro w' hx; have hcx := hx.cell hc; (try dsimp only [List.nil_append, List.cons_append]); dsimp only [DepsV, fat, eqF]; go_wp2; exact OpPost.some _ rfl rfl (Ext.refl _) rfl
  with_reducible apply From.eq
  · intro w' hx; have hcx := hx.cell hc; (try dsimp only [List.nil_append, List.cons_append]); dsimp only [DepsV, fat, eqF]; rintro _ rfl; go_wp2_with (go_at_call 75; refine (Generator_c _ _).mono ?_; rintro e w2 ⟨rfl, hb2⟩); exact OpPost.some _ rfl rfl hb2 rfl
  with_reducible apply From.eq
  · intro w' hx; have hcx := hx.cell hc; (try dsimp only [List.nil_append, List.cons_append]); dsimp only [DepsV, fat, eqF]; go_wp2; exact OpPost.some _ rfl rfl (Ext.refl _) rfl
  with_reducible apply From.eq
  · intro w' hx; have hcx := hx.cell hc; (try dsimp only [List.nil_append, List.cons_append]); dsimp only [DepsV, fat, eqF]; rintro _ rfl; go_wp2; exact OpPost.some _ rfl rfl (Ext.refl _) rfl
  with_reducible apply From.eq
  · intro w' hx; have hcx := hx.cell hc; (try dsimp only [List.nil_append, List.cons_append]); dsimp only [DepsV, fat, eqF]; rintro _ rfl; go_wp2; exact OpPost.some _ rfl rfl (Ext.refl _) rfl
  with_reducible apply From.eq
  · intro w' hx; have hcx := hx.cell hc; (try dsimp only [List.nil_append, List.cons_append]); dsimp only [DepsV, fat, eqF]; go_wp2; exact OpPost.some _ rfl rfl (Ext.refl _) rfl
  with_reducible apply From.eq
  · intro w' hx; have hcx := hx.cell hc; (try dsimp only [List.nil_append, List.cons_append]); dsimp only [DepsV, fat, eqF]; rintro _ rfl; go_wp2; exact OpPost.some _ rfl rfl (Ext.refl _) rfl
  with_reducible apply From.eq
  · intro w' hx; have hcx := hx.cell hc; (try dsimp only [List.nil_append, List.cons_append]); dsimp only [DepsV, fat, eqF]; rintro _ rfl _ rfl; go_wp2; exact OpPost.some _ rfl rfl (Ext.refl _) rfl
  with_reducible apply From.eq
  · intro w' hx; have hcx := hx.cell hc; (try dsimp only [List.nil_append, List.cons_append]); dsimp only [DepsV, fat, eqF]; rintro _ rfl _ rfl _ rfl; go_wp2_with (go_at_call 69; refine (pow_c p (gent p) q _ V.out hg (by omega)).mono ?_; rintro e w2 ⟨rfl, hb2⟩); exact OpPost.some _ rfl rfl hb2 rfl
  with_reducible apply From.eq
  · intro w' hx; have hcx := hx.cell hc; (try dsimp only [List.nil_append, List.cons_append]); dsimp only [DepsV, fat, eqF]; rintro _ rfl; go_wp2; exact OpPost.some _ rfl rfl (Ext.refl _) rfl
  with_reducible apply From.eq
  · intro w' hx; have hcx := hx.cell hc; (try dsimp only [List.nil_append, List.cons_append]); dsimp only [DepsV, fat, eqF]; go_wp2; exact OpPost.some _ rfl rfl (Ext.refl _) rfl
  with_reducible refine From.fin ?_
  intro w' hx
  (try dsimp only [List.nil_append, List.cons_append]); dsimp only [EndV, eqF]; rintro _ rfl _ rfl _ rfl _ rfl _ rfl _ rfl _ rfl _ rfl _ rfl _ rfl _ rfl _ rfl; simp only [Act.put, List.setIfInBounds_toArray, List.set_cons_zero, List.set_cons_succ]
  go_wp2
  go_ret2
  refine ⟨?_, hb1.box.trans hx⟩
  rw [E.out, E2.out]
  show Ending.returned (.tuple #[.int .u64 ((gent p : Int) ^ q % (p : Int)), .bool true]) = _
  rw [Int.natCast_emod, Int.natCast_pow]

theorem root_c (p : Nat) (n : Int) (w : World) (hn : n ≤ 9223372036854775807) (hn2 : -9223372036854775808 ≤ n) :
    Calls Try.prog 40 #[.agg #[.int .u64 p], .int .i64 n] w (RootPost (if n ≤ 4096 then p else 0) n w) := by
  by_cases h1 : n < 1
  · have E : Hid (∀ q, rootB q n = false) := Lib.hid (fun q => by unfold rootB; rw [decide_eq_false (show ¬ 1 ≤ n by omega)]; simp)
    have t1 : decide (n < 1) = true := by simpa using h1
    go_enter Try.func40, Try.ntmps40
    go_wp2_with fail
    go_ret2
    exact ⟨by rw [rootV_no (E.out _), E.out]; rfl, (Ext.refl _).alloc _⟩
  have t1 : decide (n < 1) = false := by simpa using h1
  by_cases h2 : n ≤ 4096
  case neg =>
    have E : Hid (rootB 0 n = false) := Lib.hid rfl
    have t2 : decide (4096 < n) = true := by simpa using h2
    rw [if_neg h2]
    clear h2
    go_enter Try.func40, Try.ntmps40
    go_wp2_with fail
    go_ret2
    exact ⟨by rw [rootV_no E.out, E.out]; rfl, (Ext.refl _).alloc _⟩
  have t2 : decide (4096 < n) = false := by simpa using h2
  rw [if_pos h2]
  have RC := Lib.hid (fun w' => Root_c p n w' hn hn2)
  clear h2
  go_enter Try.func40, Try.ntmps40
  go_wp2_with fail
  refine (RC.out _).mono ?_; rintro e w1 ⟨rfl, hb1⟩
  go_wp2_with fail
  go_ret2
  exact ⟨rfl, hb1.box⟩

def RRRel (m : Nat) (w : World) (s : Value) (wr : World) : Prop := ∃ r j : Nat, s = .int .i64 r ∧ r * 2 ^ j = m ∧ Ext w wr

set_option maxHeartbeats 1000000 in
theorem RRoot_c (p : Nat) (n : Int) (w : World) (hn : n ≤ 9223372036854775807) (hn2 : -9223372036854775808 ≤ n) : Calls Try.prog 47 #[.int .u64 p, .int .i64 n] w (RootPost p n w) := by
  by_cases hv : vld p = false
  · have V := Lib.hid hv
    have E : Hid (rootB p n = false) := Lib.hid (by unfold rootB; rw [hv]; rfl)
    clear hv
    go_enter Try.func47, Try.ntmps47
    go_wp2_with fail
    refine (RValid_c _ _).mono ?_; rintro e w1 ⟨rfl, hb1⟩; rw [V.out]
    go_wp2_with fail
    go_ret2
    exact ⟨by rw [rootV_no E.out, E.out]; rfl, hb1⟩
  rw [Bool.not_eq_false] at hv
  have V := Lib.hid hv
  clear hv
  by_cases h1 : n < 1
  · have E : Hid (rootB p n = false) := Lib.hid (by unfold rootB; rw [decide_eq_false (show ¬ 1 ≤ n by omega)]; simp)
    have t1 : decide (n < 1) = true := by simpa using h1
    go_enter Try.func47, Try.ntmps47
    go_wp2_with fail
    refine (RValid_c _ _).mono ?_; rintro e w1 ⟨rfl, hb1⟩; rw [V.out]
    go_wp2_with fail
    go_ret2
    exact ⟨by rw [rootV_no E.out, E.out]; rfl, hb1⟩
  have t1 : decide (n < 1) = false := by simpa using h1
  obtain ⟨m, rfl⟩ : ∃ m : Nat, n = (m : Int) := ⟨n.toNat, by omega⟩
  have hb := vld_bd V.out
  have e1 : (p : Int) - 1 = ((p - 1 : Nat) : Int) := by omega
  have g0 : ((m : Int) == 0) = false := beq_eq_false_iff_ne.2 (by omega)
  have hm1 : 1 ≤ m := by omega
  go_enter Try.func47, Try.ntmps47
  go_wp2_with fail
  refine (RValid_c _ _).mono ?_; rintro e w1 ⟨rfl, hb1⟩; rw [V.out]
  go_wp2_with fail
  go_loopw [6] (RRRel m w1) (fun s _ => (intOf s).toNat)
  case atStart => exact ⟨m, 0, rfl, by simp, Ext.refl _⟩
  case round =>
    obtain ⟨r, j, rfl, hr, hext⟩ := hrel
    have hr1 : 1 ≤ r := by rcases Nat.eq_zero_or_pos r with h | h; subst h; omega; exact h
    have hrm : r ≤ m := by rw [← hr]; exact Nat.le_mul_of_pos_right _ (Nat.two_pow_pos j)
    have HR := Lib.hid hr
    clear hr
    by_cases he : r % 2 = 0
    · have t2 : ((r : Int) % 2 == 0) = true := by simp; omega
      have HE := Lib.hid he
      clear he
      go_wp2
      go_roundw
      case rel =>
        refine ⟨r / 2, j + 1, by go_num, ?_, hext⟩
        have := HR.out
        have := HE.out
        rw [Nat.pow_succ, Nat.mul_comm (2 ^ j) 2, ← Nat.mul_assoc, show r / 2 * 2 = r by omega]; exact HR.out
      case measure => simp [intOf]; omega
    · have t2 : ((r : Int) % 2 == 0) = false := by simp; omega
      have HE : Hid (r % 2 = 1) := Lib.hid (by omega)
      clear he
      by_cases hr2 : r = 1
      · subst hr2
        have HK : Hid (m = 2 ^ j) := Lib.hid (by have := HR.out; omega)
        have hkb := pow2_bd HK.out (by omega)
        by_cases h3 : (p - 1) % m = 0
        · have E : Hid (rootB p (m : Int) = true) := Lib.hid (by rw [HK.out]; exact rootB_mk V.out hkb (by rw [← HK.out]; exact h3))
          have E2 : Hid (rootV p (m : Int) = gent p ^ ((p - 1) / m) % p) := Lib.hid (by unfold rootV; rw [E.out, if_pos rfl]; simp [rootN])
          have t3 : ((((p - 1 : Nat) : Int) % (m : Int)) != 0) = false := by
            rw [← Int.natCast_emod, h3]; rfl
          have hq : (p - 1) / m ≤ p := Nat.le_trans (Nat.div_le_self _ _) (by omega)
          have hq2 : (((p - 1 : Nat) : Int) / (m : Int)) = (((p - 1) / m : Nat) : Int) := by rw [Int.natCast_ediv]
          obtain ⟨q, hq0⟩ : ∃ q, q = (p - 1) / m := ⟨_, rfl⟩
          rw [← hq0] at hq hq2 E2
          have E3 : Hid (fpow p (gent p) q = rootV p (m : Int)) := Lib.hid (by rw [E2.out]; unfold fpow; rw [if_pos V.out])
          clear hq0 h3
          go_wp2_with fail
          refine region_facts [[], [], [(1, 31)], [], [(3, 33)], [], [(5, 35)], [(4, 34), (6, 36)], [(0, 30), (2, 32), (7, 37)], [(8, 38)], []] [some 30, some 31, some 32, some 33, some 34, some 35, some 36, some 37, some 38, some 4, some 5] (by kernel_rfl) (by kernel_rfl) ?_
          with_reducible apply From.eq
          · intro w' hx; (try dsimp only [List.nil_append, List.cons_append]); dsimp only [DepsV, fat, eqF]; go_wp2; exact OpPost.some _ rfl rfl (Ext.refl _) rfl
          with_reducible apply From.eq
          · intro w' hx; (try dsimp only [List.nil_append, List.cons_append]); dsimp only [DepsV, fat, eqF]; go_wp2; exact OpPost.some _ rfl rfl (Ext.refl _) rfl
          with_reducible apply From.eq
          · intro w' hx; (try dsimp only [List.nil_append, List.cons_append]); dsimp only [DepsV, fat, eqF]; rintro _ rfl; go_wp2_with (go_at_call 73; refine (RGen_c _ _).mono ?_; rintro e w2 ⟨rfl, hb2⟩); exact OpPost.some _ rfl rfl hb2 rfl
          with_reducible apply From.eq
          · intro w' hx; (try dsimp only [List.nil_append, List.cons_append]); dsimp only [DepsV, fat, eqF]; go_wp2; exact OpPost.some _ rfl rfl (Ext.refl _) rfl
          with_reducible apply From.eq
          · intro w' hx; (try dsimp only [List.nil_append, List.cons_append]); dsimp only [DepsV, fat, eqF]; rintro _ rfl; go_wp2; exact OpPost.some _ rfl rfl (Ext.refl _) rfl
          with_reducible apply From.eq
          · intro w' hx; (try dsimp only [List.nil_append, List.cons_append]); dsimp only [DepsV, fat, eqF]; go_wp2; exact OpPost.some _ rfl rfl (Ext.refl _) rfl
          with_reducible apply From.eq
          · intro w' hx; (try dsimp only [List.nil_append, List.cons_append]); dsimp only [DepsV, fat, eqF]; rintro _ rfl; go_wp2; exact OpPost.some _ rfl rfl (Ext.refl _) rfl
          with_reducible apply From.eq
          · intro w' hx; (try dsimp only [List.nil_append, List.cons_append]); dsimp only [DepsV, fat, eqF]; rintro _ rfl _ rfl; go_wp2; exact OpPost.some _ rfl rfl (Ext.refl _) rfl
          with_reducible apply From.eq
          · intro w' hx; (try dsimp only [List.nil_append, List.cons_append]); dsimp only [DepsV, fat, eqF]; rintro _ rfl _ rfl _ rfl; go_wp2_with (go_at_call 72; refine (RPow_c p (gent p) q _ (by omega)).mono ?_; rintro e w2 ⟨rfl, hb2⟩); exact OpPost.some _ rfl rfl hb2 rfl
          with_reducible apply From.eq
          · intro w' hx; (try dsimp only [List.nil_append, List.cons_append]); dsimp only [DepsV, fat, eqF]; rintro _ rfl; go_wp2; exact OpPost.some _ rfl rfl (Ext.refl _) rfl
          with_reducible apply From.eq
          · intro w' hx; (try dsimp only [List.nil_append, List.cons_append]); dsimp only [DepsV, fat, eqF]; go_wp2; exact OpPost.some _ rfl rfl (Ext.refl _) rfl
          with_reducible refine From.fin ?_
          intro w' hx
          (try dsimp only [List.nil_append, List.cons_append]); dsimp only [EndV, eqF]; rintro _ rfl _ rfl _ rfl _ rfl _ rfl _ rfl _ rfl _ rfl _ rfl _ rfl _ rfl; simp only [Act.put, List.setIfInBounds_toArray, List.set_cons_zero, List.set_cons_succ]
          go_wp2
          go_ret2
          exact ⟨by rw [E.out, ← E3.out]; rfl, (hb1.trans hext).trans hx⟩
        · have E : Hid (rootB p (m : Int) = false) := Lib.hid (by
            unfold rootB
            rw [decide_eq_false (p := (p - 1) % (m : Int).toNat = 0) (by simpa using h3)]; simp)
          have t3 : ((((p - 1 : Nat) : Int) % (m : Int)) != 0) = true := by
            rw [bne_iff_ne, ← Int.natCast_emod]; omega
          clear h3
          go_wp2_with fail
          go_ret2
          exact ⟨by rw [rootV_no E.out, E.out]; rfl, hb1.trans hext⟩
      · have E : Hid (rootB p (m : Int) = false) := Lib.hid (by
          unfold rootB
          rw [decide_eq_false (p := ∃ k, k < 63 ∧ (m : Int).toNat = 2 ^ k) (by
            rintro ⟨k, _, hk⟩
            rw [Int.toNat_natCast, ← HR.out] at hk
            exact hr2 (odd_pow2 k r j HE.out hk))]; simp)
        have t3 : ((r : Int) != 1) = true := by rw [bne_iff_ne]; omega
        clear hr2
        go_wp2_with fail
        go_ret2
        exact ⟨by rw [rootV_no E.out, E.out]; rfl, hb1.trans hext⟩
end Go.Proofs.Ytcnbinjoeilfgaa
