/- math/bits.Mul64 and Div64 (as the fields use them). -/
import Derived.Test.YtcnbinjoeilfgaaField
import Derived.Lib.Mul64
import Derived.Laws.Bits64b
namespace Go.Proofs.Ytcnbinjoeilfgaa
open Go.RowKit

theorem maskN (a : Nat) (ha : a < 18446744073709551616) : bits .and .u64 (a : Int) 4294967295 = ((a % 4294967296 : Nat) : Int) := by
  have h := bits_and_u64_nat a 4294967295 ha (by omega)
  have e : a &&& 4294967295 = a % 4294967296 := Nat.and_two_pow_sub_one_eq_mod a 32
  rw [e] at h
  exact h
theorem divN (a : Nat) : (a : Int) / 4294967296 = ((a / 4294967296 : Nat) : Int) := by omega
theorem mulN (a b : Nat) : (a : Int) * (b : Int) = ((a * b : Nat) : Int) := (Int.natCast_mul a b).symm
theorem addN (a b : Nat) : (a : Int) + (b : Int) = ((a + b : Nat) : Int) := (Int.natCast_add a b).symm
theorem wrapN (a : Nat) (ha : a < 18446744073709551616) : IntKind.u64.wrap (a : Int) = (a : Int) := by rw [IntKind.wrap_u64]; omega
theorem wrapM (a : Nat) : IntKind.u64.wrap (a : Int) = ((a % 18446744073709551616 : Nat) : Int) := by rw [IntKind.wrap_u64]; omega

set_option maxHeartbeats 1000000 in
theorem Mul64_c (x y : Nat) (hx : x < 18446744073709551616) (hy : y < 18446744073709551616) (w : World) :
    Calls Try.prog 58 #[.int .u64 x, .int .u64 y] w fun e w' => e = .returned (.tuple #[.int .u64 ((x * y / 18446744073709551616 : Nat) : Int), .int .u64 ((x * y % 18446744073709551616 : Nat) : Int)]) ∧ w = w' := by
  obtain ⟨bd, bt, bw, hhi⟩ := Lib.mul64_hi x y hx hy
  have ba := Lib.half_mul_le (a := x / 4294967296) (b := y / 4294967296) (by omega) (by omega)
  have bb := Lib.half_mul_le (a := x / 4294967296) (b := y % 4294967296) (by omega) (by omega)
  have bc := Lib.half_mul_le (a := x % 4294967296) (b := y / 4294967296) (by omega) (by omega)
  have ba' : x / 4294967296 * (y / 4294967296) < 18446744073709551616 := by omega
  have bb' : x / 4294967296 * (y % 4294967296) < 18446744073709551616 := by omega
  have bc' : x % 4294967296 * (y / 4294967296) < 18446744073709551616 := by omega
  have bh1 : x / 4294967296 * (y / 4294967296) + (x / 4294967296 * (y % 4294967296) + x % 4294967296 * (y % 4294967296) / 4294967296) / 4294967296 < 18446744073709551616 := by omega
  have bh : x / 4294967296 * (y / 4294967296) + (x / 4294967296 * (y % 4294967296) + x % 4294967296 * (y % 4294967296) / 4294967296) / 4294967296 + ((x / 4294967296 * (y % 4294967296) + x % 4294967296 * (y % 4294967296) / 4294967296) % 4294967296 + x % 4294967296 * (y / 4294967296)) / 4294967296 < 18446744073709551616 := by omega
  go_enter Try.func58, Try.ntmps58
  go_wp2
  simp only [maskN x hx, maskN y hy, divN, mulN, addN, wrapN _ bd, wrapN _ bb', wrapN _ bt, maskN _ bt, wrapN _ bc', wrapN _ bw, wrapN _ ba', wrapN _ bh1, wrapN _ bh, wrapM (x * y)]
  rw [hhi]
  go_ret2
  exact ⟨rfl, rfl⟩

theorem wrapDiv (a b : Nat) (h : a < 18446744073709551616) : IntKind.u64.wrap ((a : Int) / (b : Int)) = ((a / b : Nat) : Int) := by
  have e : (a : Int) / (b : Int) = ((a / b : Nat) : Int) := rfl
  have := Nat.div_le_self a b
  rw [e, IntKind.wrap_u64]
  generalize a / b = c at this ⊢
  clear e; omega
set_option maxRecDepth 100000 in
set_option maxHeartbeats 1000000 in
theorem Div64_small (lo y : Nat) (hy : 0 < y) (hlo : lo < 18446744073709551616) (w : World) :
    Calls Try.prog 59 #[.int .u64 0, .int .u64 lo, .int .u64 y] w fun e w' => e = .returned (.tuple #[.int .u64 ((lo / y : Nat) : Int), .int .u64 ((lo % y : Nat) : Int)]) ∧ Ext w w' := by
  have g1 : ((y : Int) == 0) = false := beq_eq_false_iff_ne.2 (by omega)
  have g2 : decide ((y : Int) ≤ 0) = false := by simp; omega
  go_enter Try.func59, Try.ntmps59
  go_wp2
  refine region_facts [[], [], [(0, 28), (1, 29)], [], [], [(3, 31), (4, 32)], [(2, 30)], [(5, 33)]] [some 28, some 29, some 30, some 31, some 32, some 33, some 6, some 7] (by kernel_rfl) (by kernel_rfl) ?_
  apply From.eq
  · intro w' hx; dsimp only [DepsV, fat, List.nil_append, List.cons_append, eqF]; go_wp2; exact OpPost.some _ rfl rfl (Ext.refl _) rfl
  apply From.eq
  · intro w' hx; dsimp only [DepsV, fat, List.nil_append, List.cons_append, eqF]; go_wp2; exact OpPost.some _ rfl rfl (Ext.refl _) rfl
  apply From.eq
  · intro w' hx; dsimp only [DepsV, fat, List.nil_append, List.cons_append, eqF]; rintro _ rfl _ rfl; go_wp2; exact OpPost.some _ rfl rfl (Ext.refl _) rfl
  apply From.eq
  · intro w' hx; dsimp only [DepsV, fat, List.nil_append, List.cons_append, eqF]; go_wp2; exact OpPost.some _ rfl rfl (Ext.refl _) rfl
  apply From.eq
  · intro w' hx; dsimp only [DepsV, fat, List.nil_append, List.cons_append, eqF]; go_wp2; exact OpPost.some _ rfl rfl (Ext.refl _) rfl
  apply From.eq
  · intro w' hx; dsimp only [DepsV, fat, List.nil_append, List.cons_append, eqF]; rintro _ rfl _ rfl; go_wp2; exact OpPost.some _ rfl rfl (Ext.refl _) rfl
  apply From.eq
  · intro w' hx; dsimp only [DepsV, fat, List.nil_append, List.cons_append, eqF]; rintro _ rfl; go_wp2; exact OpPost.some _ rfl rfl (Ext.refl _) rfl
  apply From.eq
  · intro w' hx; dsimp only [DepsV, fat, List.nil_append, List.cons_append, eqF]; rintro _ rfl; go_wp2; exact OpPost.some _ rfl rfl (Ext.refl _) rfl
  refine From.fin (fun w' hx => ?_)
  dsimp only [EndV, List.nil_append, List.cons_append, eqF]; rintro _ rfl _ rfl _ rfl _ rfl _ rfl _ rfl _ rfl _ rfl; simp only [Act.put, List.setIfInBounds_toArray, List.set_cons_zero, List.set_cons_succ]
  go_wp2
  go_ret2
  exact ⟨by rw [wrapDiv lo y hlo]; rfl, hx⟩

set_option maxRecDepth 100000 in
set_option maxHeartbeats 1000000 in
theorem LZ_big' (w : World) : Calls Try.prog 77 #[.int .u64 18446744069414584321] w fun e w' => e = .returned (.int .i64 0) ∧ w = w' := by
  go_enter Try.func77, Try.ntmps77
  go_wp2
  go_ret
  exact ⟨by kernel_rfl, rfl⟩

theorem LZ_big (P : Nat) (hP : P = 18446744069414584321) (w : World) : Calls Try.prog 77 #[.int .u64 P] w fun e w' => e = .returned (.int .i64 0) ∧ w = w' := by
  subst hP; exact LZ_big' w

/-- One digit of the division by 2^64 - 2^32 + 1: the guess, and what is left. -/
structure Digit (u d q r : Nat) : Prop where
  lt : u < 18446744069414584321
  dlt : d < 4294967296
  eq : u = q * 4294967295 + r
  rlt : r < 4294967295
theorem Digit.q_le {u d q r : Nat} (h : Digit u d q r) : q ≤ 4294967296 := by have := h.lt; have := h.eq; omega
theorem Digit.over {u d q r : Nat} (h : Digit u d q r) (hc : r * 4294967296 + d < q) : r = 0 ∧ 0 < q := by have := h.q_le; omega
theorem Digit.noc {u d q r : Nat} (h : Digit u d q r) (hc : ¬ r * 4294967296 + d < q) : q ≤ 4294967295 := by have := h.lt; have := h.eq; have := h.dlt; omega
def DivPost (p hi lo : Nat) (w : World) (e : Ending) (w' : World) : Prop := ∃ q : Int, e = .returned (.tuple #[.int .u64 q, .int .u64 (((hi * 18446744073709551616 + lo) % p : Nat) : Int)]) ∧ Ext w w'
/-- The digit, corrected. -/
def dig (q r d : Nat) : Nat := if r * 4294967296 + d < q then q - 1 else q
def rst (q r d : Nat) : Nat := if r * 4294967296 + d < q then d + 18446744069414584321 - q else r * 4294967296 + d - q
theorem Digit.fin {u d q r : Nat} (h : Digit u d q r) : u * 4294967296 + d = dig q r d * 18446744069414584321 + rst q r d ∧ rst q r d < 18446744069414584321 := by
  have h1 := h.q_le; have h2 := h.eq; have h3 := h.dlt; have h4 := h.rlt
  unfold dig rst
  split
  · have := h.over (by assumption); omega
  · omega
theorem Digit.mk' (u d : Nat) (hu : u < 18446744069414584321) (hd : d < 4294967296) : Digit u d (u / 4294967295) (u % 4294967295) := ⟨hu, hd, by omega, by omega⟩
theorem Digit.wrap {u d q r : Nat} (h : Digit u d q r) :
    IntKind.u64.wrap (IntKind.u64.wrap (IntKind.u64.wrap ((u : Int) * 4294967296) + (d : Int)) - IntKind.u64.wrap ((dig q r d : Int) * 18446744069414584321)) = (rst q r d : Int) := by
  obtain ⟨h1, h2⟩ := h.fin
  generalize dig q r d = a at *
  generalize rst q r d = b at *
  simp only [IntKind.wrap_u64]
  omega

theorem Digit.next {P u d q r : Nat} (hP : P = 18446744069414584321) (h : Digit u d q r) (l0 x : Nat) (hl0 : l0 < 4294967296) (hx : x = dig q r d) : ∃ v q2 r2 : Nat, Digit v l0 q2 r2 ∧ (v : Int) / 4294967295 = (q2 : Int) ∧ (v : Int) - q2 * 4294967295 = (r2 : Int) ∧
    IntKind.u64.wrap (IntKind.u64.wrap (IntKind.u64.wrap ((u : Int) * 4294967296) + (d : Int)) - IntKind.u64.wrap ((x : Int) * (P : Int))) = (v : Int) ∧ u * 4294967296 + d = x * P + v := by
  subst hP
  obtain ⟨h1, h2⟩ := h.fin
  refine ⟨rst q r d, rst q r d / 4294967295, rst q r d % 4294967295, Digit.mk' _ _ h2 hl0, by omega, by omega, by rw [hx]; exact h.wrap, by rw [hx]; exact h1⟩
theorem rem_fin' {B P W hi lo l1 l0 x u y v : Nat} (hW : W = B * B) (h1 : lo = l1 * B + l0) (h2 : hi * B + l1 = x * P + u) (h3 : u * B + l0 = y * P + v) : hi * W + lo = v + P * (x * B + y) := by
  subst hW h1
  have e1 : hi * (B * B) + (l1 * B + l0) = (hi * B + l1) * B + l0 := by grind
  rw [e1, h2]
  have e2 : (x * P + u) * B + l0 = x * P * B + (u * B + l0) := by grind
  rw [e2, h3]; grind
theorem rem_fin {P hi lo l1 l0 x u y v : Nat} (h1 : lo = l1 * 4294967296 + l0) (h2 : hi * 4294967296 + l1 = x * P + u) (h3 : u * 4294967296 + l0 = y * P + v) (h4 : v < P) :
    (hi * 18446744073709551616 + lo) % P = v := by
  rw [rem_fin' (B := 4294967296) (by decide) h1 h2 h3, Nat.add_mul_mod_self_left, Nat.mod_eq_of_lt h4]

set_option maxRecDepth 100000 in
set_option maxHeartbeats 4000000 in
theorem Div64_bigP (P hi lo : Nat) (hP : Hid (P = 18446744069414584321)) (h1 : 0 < hi) (h2 : hi < P) (h3 : lo < 18446744073709551616) (w : World) :
    Calls Try.prog 59 #[.int .u64 hi, .int .u64 lo, .int .u64 P] w (DivPost P hi lo w) := by
  have g0 : ((P : Int) == 0) = false := beq_eq_false_iff_ne.2 (by omega)
  have g1 : ((hi : Int) == 0) = false := beq_eq_false_iff_ne.2 (by omega)
  have g2 : decide (P ≤ hi) = false := by simp; omega
  have g3 : hi < 18446744069414584321 := by have := hP.out; omega
  obtain ⟨l1, hl1⟩ : ∃ l1, l1 = lo / 4294967296 := ⟨_, rfl⟩
  obtain ⟨l0, hl0⟩ : ∃ l0, l0 = lo % 4294967296 := ⟨_, rfl⟩
  have e9 : (P : Int) / 4294967296 = 4294967295 := by have := hP.out; omega
  have e10 : bits BinOp.and IntKind.u64 (P : Int) 4294967295 = 1 := by rw [hP.out]; decide +kernel
  have e11 : bits BinOp.or IntKind.u64 (hi : Int) ((lo : Int) / 18446744073709551616) = (hi : Int) := by
    have : (lo : Int) / 18446744073709551616 = ((0 : Nat) : Int) := by omega
    rw [this, bits_or_u64_nat hi 0 (by omega) (by omega)]; simp
  have e14 : bits BinOp.and IntKind.u64 (lo : Int) 4294967295 = (l0 : Int) := by rw [maskN lo h3, hl0]
  have e13 : (lo : Int) / 4294967296 = (l1 : Int) := by omega
  have D1 := Digit.mk' hi l1 g3 (by omega)
  obtain ⟨q, hq⟩ : ∃ q, q = hi / 4294967295 := ⟨_, rfl⟩
  obtain ⟨r, hr⟩ : ∃ r, r = hi % 4294967295 := ⟨_, rfl⟩
  rw [← hq, ← hr] at D1
  have e15 : (hi : Int) / 4294967295 = (q : Int) := by omega
  have e16 : (hi : Int) - q * 4294967295 = (r : Int) := by omega
  have b1 := D1.q_le
  have b2 := D1.rlt
  have b3 := D1.dlt
  have HD := Lib.hid D1
  have HL := Lib.hid (show lo = l1 * 4294967296 + l0 ∧ l0 < 4294967296 by omega)
  clear D1 hq hr hl1 hl0
  go_enter Try.func59, Try.ntmps59
  go_wp2_with (go_at_call 77; refine (LZ_big P hP.out _).mono ?_; rintro e w1 ⟨rfl, rfl⟩)
  go_loop [15, 16] (fun a b => ∃ x y : Nat, a = .int .u64 x ∧ b = .int .u64 y ∧ ((x = q ∧ y = r) ∨ (r * 4294967296 + l1 < q ∧ x + 1 = q ∧ y = r + 4294967295))) (fun a _ => (intOf a).toNat)
  case atStart => exact ⟨q, r, rfl, rfl, .inl ⟨rfl, rfl⟩⟩
  case round =>
    obtain ⟨x, y, rfl, rfl, hxy⟩ := hrel
    by_cases hc : (x = q ∧ y = r) ∧ r * 4294967296 + l1 < q
    · obtain ⟨⟨rfl, rfl⟩, hc⟩ := hc
      have ho := HD.out.over hc
      obtain rfl : y = 0 := ho.1
      clear hxy
      by_cases h4 : x = 4294967296
      · subst h4
        go_wp2
        go_round
        case rel => exact ⟨4294967295, 4294967295, rfl, rfl, .inr ⟨hc, by omega, by omega⟩⟩
        case measure => simp [intOf]
      · have t1 : decide ((4294967296 : Int) ≤ x) = false := by simp; omega
        have t2 : decide ((l1 : Int) < x) = true := by simp; omega
        go_wp2
        go_round
        case rel => exact ⟨x - 1, 4294967295, by go_num, rfl, .inr ⟨hc, by omega, by omega⟩⟩
        case measure => simp [intOf]; omega
    · have hx : x = dig q r l1 := by unfold dig; split <;> omega
      have hle : x ≤ y * 4294967296 + l1 := by omega
      have t1 : decide ((4294967296 : Int) ≤ x) = false := by simp; omega
      have t2 : decide (4294967296 * (y : Int) + l1 < x) = false := by simp; omega
      have b5 : y ≤ 4294967295 := by
        rcases hxy with h | h
        · omega
        · have := HD.out.over h.1; omega
      have b6 : x ≤ 4294967295 := by omega
      obtain ⟨u, q2, r2, D2, e18, e19, e17, hf1⟩ := HD.out.next hP.out l0 x HL.out.2 hx
      have c1 := D2.q_le
      have c2 := D2.rlt
      have c3 := D2.dlt
      have HD2 := Lib.hid D2
      have HF := Lib.hid hf1
      have E18 := Lib.hid e18
      have E19 := Lib.hid e19
      clear hx hf1 D2 hxy hc e9 e10 e11 e13 e14 e15 e16
      go_wp2
      clear e17 e18 e19 t1 t2
      go_loop [18, 16] (fun a b => ∃ x y : Nat, a = .int .u64 x ∧ b = .int .u64 y ∧ ((x = q2 ∧ y = r2) ∨ (r2 * 4294967296 + l0 < q2 ∧ x + 1 = q2 ∧ y = r2 + 4294967295))) (fun a _ => (intOf a).toNat)
      case atStart => exact ⟨q2, r2, rfl, rfl, .inl ⟨rfl, rfl⟩⟩
      case round =>
        obtain ⟨x2, y2, rfl, rfl, hxy⟩ := hrel
        by_cases hc : (x2 = q2 ∧ y2 = r2) ∧ r2 * 4294967296 + l0 < q2
        · obtain ⟨⟨rfl, rfl⟩, hc⟩ := hc
          have ho := HD2.out.over hc
          obtain rfl : y2 = 0 := ho.1
          clear hxy
          by_cases h4 : x2 = 4294967296
          · subst h4
            go_wp2
            go_round
            case rel => exact ⟨4294967295, 4294967295, rfl, rfl, .inr ⟨hc, by omega, by omega⟩⟩
            case measure => simp [intOf]
          · have t1 : decide ((4294967296 : Int) ≤ x2) = false := by simp; omega
            have t2 : decide ((l0 : Int) < x2) = true := by simp; omega
            go_wp2
            go_round
            case rel => exact ⟨x2 - 1, 4294967295, by go_num, rfl, .inr ⟨hc, by omega, by omega⟩⟩
            case measure => simp [intOf]; omega
        · have hx : x2 = dig q2 r2 l0 := by unfold dig; split <;> omega
          have hle : x2 ≤ y2 * 4294967296 + l0 := by omega
          have b8 : x2 ≤ 4294967295 := by
            rcases hxy with h | h
            · have := HD2.out.noc (by omega); omega
            · omega
          have t1 : decide ((4294967296 : Int) ≤ x2) = false := by simp; omega
          have t2 : decide (4294967296 * (y2 : Int) + l0 < x2) = false := by simp; omega
          have b7 : y2 ≤ 4294967295 := by
            rcases hxy with h | h
            · omega
            · have := HD2.out.over h.1; omega
          obtain ⟨v, q3, r3, D3, e20, e21, e17, hf1⟩ := HD2.out.next hP.out 0 x2 (by decide) hx
          have hfin := rem_fin HL.out.1 HF.out hf1 (by have := D3.lt; have := hP.out; omega)
          have HV := Lib.hid hfin
          clear hx hf1 D3 hxy hc e20 e21 hfin
          go_wp2
          go_ret2
          exact ⟨_, by rw [HV.out]; rfl, Ext.refl _⟩

theorem Div64_big (hi lo : Nat) (h1 : 0 < hi) (h2 : hi < 18446744069414584321) (h3 : lo < 18446744073709551616) (w : World) :
    Calls Try.prog 59 #[.int .u64 hi, .int .u64 lo, .int .u64 18446744069414584321] w (DivPost 18446744069414584321 hi lo w) :=
  Div64_bigP 18446744069414584321 hi lo (Lib.hid rfl) h1 h2 h3 w
/-- Div64 as the fields use it. -/
theorem Div64_c (p hi lo : Nat) (hp : vld p = true) (h0 : hi = 0 ∨ p = 18446744069414584321) (h2 : hi < p) (h3 : lo < 18446744073709551616) (w : World) :
    Calls Try.prog 59 #[.int .u64 hi, .int .u64 lo, .int .u64 p] w (DivPost p hi lo w) := by
  by_cases hh : hi = 0
  · subst hh
    refine (Div64_small lo p (by omega) h3 w).mono ?_
    rintro e w' ⟨rfl, hx⟩
    exact ⟨((lo / p : Nat) : Int), by simp only [Nat.zero_mul, Nat.zero_add], hx⟩
  · obtain rfl := h0.resolve_left hh
    exact Div64_big hi lo (by omega) h2 h3 w
end Go.Proofs.Ytcnbinjoeilfgaa
