/- Contracts of moidoreref01. -/
import Derived.Test.YteomgccpocgffaaField2
import Derived.Test.YteomgccpocgffaaSlice
namespace Go.Proofs.Yteomgccpocgffaa
open Go.RowKit

def rg (p : Nat) : Nat := if p = 17 then 3 else if p = 97 then 5 else if p = 193 then 5 else if p = 257 then 3 else if p = 12289 then 11 else if p = 65537 then 3 else if p = 18446744069414584321 then 7 else 0
def ra (p : Nat) : Nat := if p = 17 then 4 else if p = 97 then 5 else if p = 193 then 6 else if p = 257 then 8 else if p = 12289 then 12 else if p = 65537 then 16 else if p = 18446744069414584321 then 32 else 0
def rx (p : Nat) : Nat := if p = 17 then 3 else if p = 97 then 5 else if p = 193 then 5 else if p = 257 then 3 else if p = 12289 then 5 else if p = 65537 then 3 else if p = 18446744069414584321 then 7 else 0

def RowPost (p : Nat) (w : World) (e : Ending) (w' : World) : Prop := e = .returned (.agg #[.int .u64 (rg p), .int .u64 (ra p), .int .u64 (rx p)]) ∧ Ext w w'
theorem rg_pos (p : Nat) : decide (0 < rg p) = vld p := by
  cases h : vld p
  · obtain ⟨h1, h2, h3, h4, h5, h6, h7⟩ := vld_not h; simp [rg, h1, h2, h3, h4, h5, h6, h7]
  · rcases vld_cases h with rfl | rfl | rfl | rfl | rfl | rfl | rfl <;> simp [rg]

theorem radd_ge {p a b : Nat} (hp : vld p = true) (h : p - b % p ≤ a % p) : ((a % p : Nat) : Int) - (((p : Nat) : Int) - ((b % p : Nat) : Int)) = (fadd p a b : Int) := by
  have ha := lt_of_mod (n := a) hp; have hb := lt_of_mod (n := b) hp
  have e : fadd p a b = a % p + b % p - p := by
    unfold fadd; rw [if_pos hp, Nat.add_mod, Nat.mod_eq_sub_mod (by omega), Nat.mod_eq_of_lt (by omega)]
  rw [e]; generalize a % p = x at *; generalize b % p = y at *; omega
theorem radd_lt {p a b : Nat} (hp : vld p = true) (h : a % p < p - b % p) : ((a % p : Nat) : Int) + ((b % p : Nat) : Int) = (fadd p a b : Int) := by
  have ha := lt_of_mod (n := a) hp; have hb := lt_of_mod (n := b) hp
  have e : fadd p a b = a % p + b % p := by
    unfold fadd; rw [if_pos hp, Nat.add_mod, Nat.mod_eq_of_lt (by omega)]
  rw [e]; generalize a % p = x at *; generalize b % p = y at *; omega

theorem rpow_odd {p a0 e0 x b k : Nat} (h : x * b ^ k % p = a0 ^ e0 % p) (hp : vld p = true) (hk : k % 2 = 1) : fmul p x b * fmul p b b ^ (k / 2) % p = a0 ^ e0 % p := by
  simp only [fmul, if_pos hp]; exact pow_odd h hk
theorem rpow_even {p a0 e0 x b k : Nat} (h : x * b ^ k % p = a0 ^ e0 % p) (hp : vld p = true) (hk : k % 2 = 0) : x * fmul p b b ^ (k / 2) % p = a0 ^ e0 % p := by
  simp only [fmul, if_pos hp]; exact pow_even h hk
theorem fmul_lt {p a b : Nat} (hp : vld p = true) : fmul p a b < p := by unfold fmul; rw [if_pos hp]; exact lt_of_mod hp

/-- Same on two slices that read alike. -/
theorem Same_c (l : List Nat) (a b : Option Addr) (c d : Nat) (w : World) (ha : Rd w a l) (hb : Rd w b l) (hl : l.length ≤ 2000000000) :
    Calls Try.prog 19 #[.slice a l.length c, .slice b l.length d] w fun e w' => e = .returned (.bool true) ∧ Ext w w' := by
  have g0 : ((l.length : Int) != (l.length : Int)) = false := by simp
  go_enter Try.func19, Try.ntmps19
  go_wp2
  go_loopw [5] (fun i wr => ∃ k : Nat, i = .int .i64 k ∧ k ≤ l.length ∧ Ext w wr) (fun i _ => l.length - (intOf i).toNat)
  case atStart => exact ⟨0, rfl, Nat.zero_le _, Ext.refl _⟩
  case round =>
    obtain ⟨k, rfl, hk, hext⟩ := hrel
    by_cases hlt : k < l.length
    · obtain ⟨b1, o1, rfl, hc1⟩ := ha.at (by omega)
      obtain ⟨b2, o2, rfl, hc2⟩ := hb.at (by omega)
      have c1 := hext.cell (hc1 k hlt)
      have c2 := hext.cell (hc2 k hlt)
      obtain ⟨x, hx0⟩ : ∃ x, x = l.getD k 0 := ⟨_, rfl⟩
      rw [← hx0] at c1 c2
      clear hc1 hc2 hx0 ha hb
      go_wp2
      refine region_facts [[], [], [(0, 17), (1, 18)], [(2, 19)], [], [], [(4, 21), (5, 22)], [(6, 23)], [(3, 20), (7, 24)]] [some 17, some 18, some 19, some 20, some 21, some 22, some 23, some 24, some 25] (by kernel_rfl) (by kernel_rfl) ?_
      apply From.eq
      · intro w' hx; have c1x := hx.cell c1; have c2x := hx.cell c2; dsimp only [DepsV, fat, List.nil_append, List.cons_append, eqF]; go_wp2; exact OpPost.some _ rfl rfl (Ext.refl _) rfl
      apply From.eq
      · intro w' hx; have c1x := hx.cell c1; have c2x := hx.cell c2; dsimp only [DepsV, fat, List.nil_append, List.cons_append, eqF]; go_wp2; exact OpPost.some _ rfl rfl (Ext.refl _) rfl
      apply From.eq
      · intro w' hx; have c1x := hx.cell c1; have c2x := hx.cell c2; dsimp only [DepsV, fat, List.nil_append, List.cons_append, eqF]; rintro _ rfl _ rfl; go_wp2; exact OpPost.some _ rfl rfl (Ext.refl _) rfl
      apply From.eq
      · intro w' hx; have c1x := hx.cell c1; have c2x := hx.cell c2; dsimp only [DepsV, fat, List.nil_append, List.cons_append, eqF]; rintro _ rfl; go_wp2; exact OpPost.some _ rfl rfl (Ext.refl _) rfl
      apply From.eq
      · intro w' hx; have c1x := hx.cell c1; have c2x := hx.cell c2; dsimp only [DepsV, fat, List.nil_append, List.cons_append, eqF]; go_wp2; exact OpPost.some _ rfl rfl (Ext.refl _) rfl
      apply From.eq
      · intro w' hx; have c1x := hx.cell c1; have c2x := hx.cell c2; dsimp only [DepsV, fat, List.nil_append, List.cons_append, eqF]; go_wp2; exact OpPost.some _ rfl rfl (Ext.refl _) rfl
      apply From.eq
      · intro w' hx; have c1x := hx.cell c1; have c2x := hx.cell c2; dsimp only [DepsV, fat, List.nil_append, List.cons_append, eqF]; rintro _ rfl _ rfl; go_wp2; exact OpPost.some _ rfl rfl (Ext.refl _) rfl
      apply From.eq
      · intro w' hx; have c1x := hx.cell c1; have c2x := hx.cell c2; dsimp only [DepsV, fat, List.nil_append, List.cons_append, eqF]; rintro _ rfl; go_wp2; exact OpPost.some _ rfl rfl (Ext.refl _) rfl
      apply From.eq
      · intro w' hx; have c1x := hx.cell c1; have c2x := hx.cell c2; dsimp only [DepsV, fat, List.nil_append, List.cons_append, eqF]; rintro _ rfl _ rfl; go_wp2; exact OpPost.some _ rfl rfl (Ext.refl _) rfl
      refine From.fin (fun w' hx => ?_)
      dsimp only [EndV, List.nil_append, List.cons_append, eqF]; rintro _ rfl _ rfl _ rfl _ rfl _ rfl _ rfl _ rfl _ rfl _ rfl; simp only [Act.put, List.setIfInBounds_toArray, List.set_cons_zero, List.set_cons_succ]
      go_wp2
      go_roundw
      case rel => exact ⟨k + 1, by go_num, by omega, hext.trans hx⟩
      case measure => simp [intOf]; omega
    · clear ha hb
      go_wp2
      go_ret
      exact ⟨rfl, hext⟩
end Go.Proofs.Yteomgccpocgffaa
