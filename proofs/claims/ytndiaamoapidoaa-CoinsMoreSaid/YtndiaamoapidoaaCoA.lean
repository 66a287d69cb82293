/- Contracts: the document's Select. -/
import Derived.Test.YtndiaamoapidoaaCo9
import Derived.Laws.BitsLemmas
namespace Go.Proofs.Ytndiaamoapidoaa
open Go.RowKit

/-- The positions below k that a set holds. -/
def bitsI (s : Nat) : Nat → List Int
  | 0 => []
  | k + 1 => if s / 2 ^ k % 2 = 1 then bitsI s k ++ [(k : Int)] else bitsI s k
def takeB (vs : List Nat) (t : Nat) (most : Int) (B : Option (List Int)) (l : List Int) : Bool := decide ((l.length : Int) ≤ most) && decide (t ≤ sumI vs l) && (match B with
  | none => true
  | some b => betI vs l b)
def rsel (vs : List Nat) (t : Nat) (most : Int) : Nat → Option (List Int)
  | 0 => none
  | s + 1 => if takeB vs t most (rsel vs t most s) (bitsI s vs.length) then some (bitsI s vs.length) else rsel vs t most s
theorem bitsI_len (s k : Nat) : (bitsI s k).length ≤ k := by
  induction k with
  | zero => exact Nat.le_refl _
  | succ k ih =>
    unfold bitsI
    split
    · simp; omega
    · omega
theorem bitsI_in (s k : Nat) : ∀ x ∈ bitsI s k, 0 ≤ x ∧ x < k := by
  induction k with
  | zero => intro x hx; cases hx
  | succ k ih =>
    intro x hx
    unfold bitsI at hx
    split at hx
    · rcases List.mem_append.1 hx with h | h
      · have := ih x h; omega
      · have : x = (k : Int) := by simpa using h
        omega
    · have := ih x hx; omega
def BtRel (s : Nat) (n : Nat) (w : World) (v11 v12 : Value) (wr : World) : Prop :=
  ∃ k : Nat, k ≤ n ∧ v12 = .int .i64 k ∧ OwnI wr w.heap.size v11 (bitsI s k) ∧ Ext w wr
def RsRel (vs : List Nat) (t N : Nat) (most : Int) (w : World) (v8 v9 v10 : Value) (wr : World) : Prop :=
  ∃ (s : Nat) (A : Option Addr) (C : Nat), s ≤ N ∧ v10 = .int .i64 s ∧ v8 = .slice A ((rsel vs t most s).getD []).length C ∧ v9 = .bool (rsel vs t most s).isSome ∧ RdI wr A ((rsel vs t most s).getD []) ∧ Ext w wr
theorem pow_bd {n : Nat} (h : n ≤ 10) : 2 ^ n ≤ 1024 ∧ 1 ≤ 2 ^ n := ⟨Nat.pow_le_pow_right (by omega) h, Nat.one_le_two_pow⟩

theorem i64_and1 (n : Int) : bits .and .i64 n 1 = n % 2 := by
  have h1 : (BitVec.ofInt 64 1).toNat = 2 ^ 1 - 1 := by decide
  have key : (BitVec.ofInt 64 n &&& BitVec.ofInt 64 1).toNat = (n % ((2 ^ 64 : Nat) : Int)).toNat % 2 ^ 1 := by
    rw [BitVec.toNat_and, BitVec.toNat_ofInt, h1, Nat.and_two_pow_sub_one_eq_mod]
  show IntKind.i64.wrap ((BitVec.ofInt 64 n &&& BitVec.ofInt 64 1).toNat : Nat) = n % 2
  rw [key, IntKind.wrap_i64]
  omega
theorem bit_and (s k : Nat) : bits .and .i64 ((s : Int) / 2 ^ k) 1 = ((s / 2 ^ k % 2 : Nat) : Int) := by
  rw [i64_and1]; simp
theorem getD_inI {l : List Int} {n : Nat} (h : ∀ x ∈ l, 0 ≤ x ∧ x < n) : ∀ i, i < l.length → 0 ≤ l.getD i 0 ∧ l.getD i 0 < n := fun i hi => h _ (mem_getDI.2 ⟨i, hi, rfl⟩)
theorem rsel_in (vs : List Nat) (t : Nat) (most : Int) (s : Nat) : ∀ x ∈ (rsel vs t most s).getD [], 0 ≤ x ∧ x < vs.length := by
  induction s with
  | zero => intro x hx; cases hx
  | succ s ih =>
    intro x hx
    unfold rsel at hx
    split at hx
    · exact bitsI_in s _ x hx
    · exact ih x hx
theorem rsel_len (vs : List Nat) (t : Nat) (most : Int) (s : Nat) : ((rsel vs t most s).getD []).length ≤ vs.length := by
  induction s with
  | zero => exact Nat.zero_le _
  | succ s ih =>
    unfold rsel
    split
    · exact bitsI_len s _
    · exact ih
theorem rsel_keep {vs : List Nat} {t : Nat} {most : Int} {s : Nat} (h : takeB vs t most (rsel vs t most s) (bitsI s vs.length) = false) : rsel vs t most (s + 1) = rsel vs t most s := by
  show (if _ then _ else _) = _
  rw [h]; rfl
theorem rsel_take {vs : List Nat} {t : Nat} {most : Int} {s : Nat} (h : takeB vs t most (rsel vs t most s) (bitsI s vs.length) = true) : rsel vs t most (s + 1) = some (bitsI s vs.length) := by
  show (if _ then _ else _) = _
  rw [h]; rfl
theorem takeB_none {vs : List Nat} {t : Nat} {most : Int} {l : List Int} (h1 : (l.length : Int) ≤ most) (h2 : t ≤ sumI vs l) : takeB vs t most none l = true := by
  simp [takeB, h1, h2]
theorem takeB_some {vs : List Nat} {t : Nat} {most : Int} {l b : List Int} (h1 : (l.length : Int) ≤ most) (h2 : t ≤ sumI vs l) : takeB vs t most (some b) l = betI vs l b := by
  simp [takeB, h1, h2]
theorem takeB_long {vs : List Nat} {t : Nat} {most : Int} {l : List Int} {B : Option (List Int)} (h1 : ¬ (l.length : Int) ≤ most) : takeB vs t most B l = false := by
  simp [takeB, h1]
theorem takeB_low {vs : List Nat} {t : Nat} {most : Int} {l : List Int} {B : Option (List Int)} (h1 : ¬ t ≤ sumI vs l) : takeB vs t most B l = false := by
  simp [takeB, h1]

set_option maxRecDepth 100000 in
set_option maxHeartbeats 8000000 in
theorem RSelect_c (vs : List Nat) (t : Nat) (most : Int) (a : Option Addr) (c : Nat) (w : World) (ha : Rd w a vs) (hl : vs.length ≤ 10) (hsm : ∀ i, i < vs.length → vs.getD i 0 ≤ 4294967295) :
    Calls Try.prog 14 #[.slice a vs.length c, .int .u64 (t : Int), .int .i64 most] w fun e w' => ∃ A C, e = .returned (.tuple #[.slice A ((rsel vs t most (2 ^ vs.length)).getD []).length C, .bool (rsel vs t most (2 ^ vs.length)).isSome]) ∧ RdI w' A ((rsel vs t most (2 ^ vs.length)).getD []) ∧ Ext w w' := by
  have HA := Lib.hid ha
  have SC := Lib.hid (fun w' (h : Ext w w') (l : List Int) (b : Option Addr) (d : Nat) (hin : ∀ x ∈ l, 0 ≤ x ∧ x < (vs.length : Int)) (hb : RdI w' b l) (hll : l.length ≤ 1000) => RSum_c vs l a b c d w' (ha.ext h) hb (getD_inI hin) hsm hll (by omega))
  have BC := Lib.hid (fun w' (h : Ext w w') (l m : List Int) (b q : Option Addr) (d f : Nat) (hin : ∀ x ∈ l, 0 ≤ x ∧ x < (vs.length : Int)) (hin2 : ∀ x ∈ m, 0 ≤ x ∧ x < (vs.length : Int)) (hb : RdI w' b l) (hq : RdI w' q m) (hll : l.length ≤ 1000) (hml : m.length ≤ 1000) => better_c vs l m a b q c d f w' (ha.ext h) hb hq (getD_inI hin) (getD_inI hin2) hsm hll hml (by omega))
  have hpw := pow_bd hl
  have hpi : (2 : Int) ^ vs.length = ((2 ^ vs.length : Nat) : Int) := by simp
  have hw : wrap64 ((2 : Int) ^ vs.length) = ((2 ^ vs.length : Nat) : Int) := by
    rw [hpi]
    exact IntWalk.wrap64_in _ ⟨by omega, by omega⟩
  clear hpi
  obtain ⟨N, hN⟩ : ∃ N, N = 2 ^ vs.length := ⟨_, rfl⟩
  rw [← hN] at hpw hw ⊢
  clear ha hsm hN
  go_enter Try.func14, Try.ntmps14
  go_wp2_with fail
  go_loopw [8, 9, 10] (RsRel vs t N most w) (fun _ _ i _ => N - (intOf i).toNat)
  case atStart => exact ⟨0, none, 0, Nat.zero_le _, rfl, rfl, rfl, RdI.nil _ _, Ext.refl _⟩
  case round =>
    obtain ⟨s, A, C, hs, rfl, rfl, rfl, hr, hx⟩ := hrel
    have HR := Lib.hid hr
    have HX := Lib.hid hx
    by_cases hlt : s < N
    · clear hr hx
      obtain ⟨fo, hfo⟩ : ∃ fo, fo = (rsel vs t most s).isSome := ⟨_, rfl⟩
      obtain ⟨bl, hbl⟩ : ∃ bl, bl = (rsel vs t most s).getD [] := ⟨_, rfl⟩
      rw [← hbl] at HR ⊢
      rw [← hfo]
      have HFO := Lib.hid hfo
      have HBL := Lib.hid hbl
      clear hfo hbl
      go_wp2_with fail
      (try simp only [hw])
      clear hw
      go_loopw [11, 12] (BtRel s vs.length wr) (fun _ i _ => vs.length - (intOf i).toNat)
      case atStart => exact ⟨0, Nat.zero_le _, rfl, OwnI.nil _ _, Ext.refl _⟩
      case round =>
        obtain ⟨k, hk, rfl, hown, hxi⟩ := hrel
        have HOW := Lib.hid hown
        have HXI := Lib.hid hxi
        by_cases hkn : k < vs.length
        · obtain ⟨la, lc, hv11, _, _, _⟩ := hown.form
          have hbit := bit_and s k
          have hlk := bitsI_len s k
          by_cases hbb : s / 2 ^ k % 2 = 1
          · have t3 : (bits BinOp.and IntKind.i64 ((s : Int) / 2 ^ k) 1 == 1) = true := by rw [hbit, hbb]; rfl
            have E : Hid (bitsI s (k + 1) = bitsI s k ++ [(k : Int)]) := Lib.hid (by show (if _ then _ else _) = _; rw [if_pos hbb])
            subst hv11
            clear hown hxi hbit hbb
            obtain ⟨bk, hbk⟩ : ∃ bk, bk = bitsI s k := ⟨_, rfl⟩
            rw [← hbk] at HOW E hlk ⊢
            clear hbk
            go_wp2_with (at_builtin; refine wpList_app1I rfl (.tmp 31) (.tmp 33) rfl _ _ _ rfl (HOW.out.grow ((Ext.refl _).alloc _)) wr.heap.size (k : Int) 1 rfl (by simp) (by omega) (by have := HXI.out.size; simp; omega) ?_; intro v' w6 ho6 hx6 _)
            have X6 := Lib.hid (hx6 _ (HXI.out.trans ((Ext.refl _).alloc _)) (Nat.le_refl _))
            have O6 := Lib.hid ho6
            clear ho6 hx6
            go_roundw
            case rel => exact ⟨k + 1, by omega, by go_num, by rw [E.out]; exact O6.out, X6.out⟩
            case measure => simp [intOf]; omega
          · have t3 : (bits BinOp.and IntKind.i64 ((s : Int) / 2 ^ k) 1 == 1) = false := by rw [hbit]; exact beq_eq_false_iff_ne.2 (by omega)
            have E : Hid (bitsI s (k + 1) = bitsI s k) := Lib.hid (by show (if _ then _ else _) = _; rw [if_neg hbb])
            clear hown hxi hbit hbb hv11
            go_wp2_with fail
            go_roundw
            case rel => exact ⟨k + 1, by omega, by go_num, by rw [E.out]; exact HOW.out, HXI.out⟩
            case measure => simp [intOf]; omega
        · obtain rfl : k = vs.length := by omega
          obtain ⟨la, lc, hv11, _, _, hrl⟩ := hown.form
          have HRL := Lib.hid hrl
          have XW := Lib.hid (HX.out.trans hxi)
          have RB := Lib.hid (HR.out.ext hxi)
          have HIN := Lib.hid (bitsI_in s vs.length)
          have hlk := bitsI_len s vs.length
          have HIB := Lib.hid (rsel_in vs t most s)
          have hbk := rsel_len vs t most s
          have TK := Lib.hid (fun h => rsel_keep (vs := vs) (t := t) (most := most) (s := s) h)
          have TT := Lib.hid (fun h => rsel_take (vs := vs) (t := t) (most := most) (s := s) h)
          rw [← HBL.out] at HIB hbk
          obtain ⟨l, hl0⟩ : ∃ l, l = bitsI s vs.length := ⟨_, rfl⟩
          rw [← hl0] at HRL HIN hlk TK TT hv11
          subst hv11
          clear hown hxi hrl hl0
          by_cases h1 : (l.length : Int) ≤ most
          · go_wp2_with fail
            refine (SC.out _ XW.out l la lc HIN.out HRL.out (by omega)).mono ?_; rintro e w2 ⟨rfl, x2⟩
            have X2 := Lib.hid x2
            clear x2
            by_cases h2 : t ≤ sumI vs l
            · cases fo with
              | false =>
                have E : Hid (rsel vs t most (s + 1) = some l) := Lib.hid (TT.out (by
                  have : rsel vs t most s = none := by cases hq : rsel vs t most s with
                    | none => rfl
                    | some b => rw [hq] at HFO; exact absurd HFO.out (by simp)
                  rw [this]; exact takeB_none h1 h2))
                obtain ⟨sl, hsl⟩ : ∃ sl, sl = sumI vs l := ⟨_, rfl⟩
                rw [← hsl] at h2 ⊢
                clear hsl
                go_wp2_with fail
                go_roundw
                case rel => exact ⟨s + 1, la, lc, by omega, by go_num, by rw [E.out]; rfl, by rw [E.out]; rfl, by rw [E.out]; exact HRL.out.ext X2.out, XW.out.trans X2.out⟩
                case measure => simp [intOf]; omega
              | true =>
                have EB : Hid (rsel vs t most s = some bl) := Lib.hid (by cases hq : rsel vs t most s with
                  | none => rw [hq] at HFO; exact absurd HFO.out (by simp)
                  | some b => rw [hq] at HBL; rw [HBL.out]; rfl)
                obtain ⟨bb, hbb⟩ : ∃ bb, bb = betI vs l bl := ⟨_, rfl⟩
                have ET : Hid (takeB vs t most (rsel vs t most s) l = bb) := Lib.hid (by rw [EB.out, takeB_some h1 h2, hbb])
                have BC2 := BC.out _ (XW.out.trans X2.out) l bl la A lc C HIN.out HIB.out (HRL.out.ext X2.out) (RB.out.ext X2.out) (by omega) (by omega)
                rw [← hbb] at BC2
                have HBC := Lib.hid BC2
                obtain ⟨sl, hsl⟩ : ∃ sl, sl = sumI vs l := ⟨_, rfl⟩
                rw [← hsl] at h2 ⊢
                clear hsl hbb BC2
                go_wp2_with fail
                refine HBC.out.mono ?_; rintro e w3 ⟨rfl, x3⟩
                have X3 := Lib.hid (X2.out.trans x3)
                clear x3
                cases bb with
                | true =>
                  have E : Hid (rsel vs t most (s + 1) = some l) := Lib.hid (TT.out ET.out)
                  go_wp2_with fail
                  go_roundw
                  case rel => exact ⟨s + 1, la, lc, by omega, by go_num, by rw [E.out]; rfl, by rw [E.out]; rfl, by rw [E.out]; exact HRL.out.ext X3.out, XW.out.trans X3.out⟩
                  case measure => simp [intOf]; omega
                | false =>
                  have E : Hid (rsel vs t most (s + 1) = rsel vs t most s) := Lib.hid (TK.out ET.out)
                  go_wp2_with fail
                  go_roundw
                  case rel => exact ⟨s + 1, A, C, by omega, by go_num, by rw [E.out, ← HBL.out], by rw [E.out, ← HFO.out], by rw [E.out, ← HBL.out]; exact RB.out.ext X3.out, XW.out.trans X3.out⟩
                  case measure => simp [intOf]; omega
            · have E : Hid (rsel vs t most (s + 1) = rsel vs t most s) := Lib.hid (TK.out (takeB_low h2))
              obtain ⟨sl, hsl⟩ : ∃ sl, sl = sumI vs l := ⟨_, rfl⟩
              rw [← hsl] at h2 ⊢
              clear hsl
              go_wp2_with fail
              go_roundw
              case rel => exact ⟨s + 1, A, C, by omega, by go_num, by rw [E.out, ← HBL.out], by rw [E.out, ← HFO.out], by rw [E.out, ← HBL.out]; exact RB.out.ext X2.out, XW.out.trans X2.out⟩
              case measure => simp [intOf]; omega
          · have E : Hid (rsel vs t most (s + 1) = rsel vs t most s) := Lib.hid (TK.out (takeB_long h1))
            go_wp2_with fail
            go_roundw
            case rel => exact ⟨s + 1, A, C, by omega, by go_num, by rw [E.out, ← HBL.out], by rw [E.out, ← HFO.out], by rw [E.out, ← HBL.out]; exact RB.out, XW.out⟩
            case measure => simp [intOf]; omega
    · obtain rfl : s = N := by omega
      clear hr hx
      go_wp2_with fail
      go_ret2
      exact ⟨A, C, rfl, HR.out, HX.out⟩
end Go.Proofs.Ytndiaamoapidoaa
