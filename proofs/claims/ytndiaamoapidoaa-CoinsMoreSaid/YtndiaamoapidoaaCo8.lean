/- Contracts: the document's Sum, Ascending; slices.Equal, Index, Contains at int. -/
import Derived.Test.YtndiaamoapidoaaCo7
namespace Go.Proofs.Ytndiaamoapidoaa
open Go.RowKit

theorem drop_consI (l : List Int) (k : Nat) (h : k < l.length) : l.drop k = l.getD k 0 :: l.drop (k + 1) := by
  rw [List.drop_eq_getElem_cons h]; simp [List.getD, h]
def sumI (vs : List Nat) : List Int → Nat
  | [] => 0
  | x :: r => vs.getD x.toNat 0 + sumI vs r
def SuRel (vs : List Nat) (l : List Int) (w : World) (v5 v6 : Value) (wr : World) : Prop :=
  ∃ k s : Nat, k ≤ l.length ∧ v5 = .int .u64 (s : Int) ∧ v6 = .int .i64 k ∧ s ≤ 4294967295 * k ∧ s + sumI vs (l.drop k) = sumI vs l ∧ Ext w wr

set_option maxRecDepth 100000 in
set_option maxHeartbeats 2000000 in
theorem RSum_c (vs : List Nat) (l : List Int) (a b : Option Addr) (c d : Nat) (w : World) (ha : Rd w a vs) (hb : RdI w b l) (hin : ∀ i, i < l.length → 0 ≤ l.getD i 0 ∧ l.getD i 0 < vs.length) (hsm : ∀ i, i < vs.length → vs.getD i 0 ≤ 4294967295) (hl : l.length ≤ 1000) (hvl : vs.length ≤ 1000) :
    Calls Try.prog 18 #[.slice a vs.length c, .slice b l.length d] w fun e w' => e = .returned (.int .u64 (sumI vs l : Nat)) ∧ Ext w w' := by
  have HA := Lib.hid ha
  have HB := Lib.hid hb
  have HIN := Lib.hid hin
  have HSM := Lib.hid hsm
  clear ha hb hin hsm
  go_enter Try.func18, Try.ntmps18
  go_wp2_with fail
  go_loopw [5, 6] (SuRel vs l w) (fun _ i _ => l.length - (intOf i).toNat)
  case atStart => exact ⟨0, 0, Nat.zero_le _, rfl, rfl, Nat.zero_le _, by simp, Ext.refl _⟩
  case round =>
    obtain ⟨k, s, hk, rfl, rfl, hs, hrest, hx⟩ := hrel
    have HRE := Lib.hid hrest
    have HX := Lib.hid hx
    by_cases hlt : k < l.length
    · obtain ⟨h1, h2⟩ := HIN.out k hlt
      obtain ⟨gb, ob, rfl, hcb⟩ := HB.out.at (by omega)
      obtain ⟨ga, oa, rfl, hca⟩ := HA.out.at (by omega)
      have ck := hx.cell (hcb k hlt)
      obtain ⟨y, hy⟩ : ∃ y, y = (l.getD k 0).toNat := ⟨_, rfl⟩
      have ey : l.getD k 0 = (y : Int) := by omega
      rw [ey] at ck h2
      have hyl : y < vs.length := by omega
      have cy := hx.cell (hca y hyl)
      have hv := HSM.out y hyl
      have hst : s + (vs.getD y 0 + sumI vs (l.drop (k + 1))) = sumI vs l := by
        rw [← HRE.out, drop_consI l k hlt]; show _ = s + (vs.getD (l.getD k 0).toNat 0 + _); rw [← hy]
      have HST := Lib.hid hst
      obtain ⟨x, hx0⟩ : ∃ x, x = vs.getD y 0 := ⟨_, rfl⟩
      rw [← hx0] at cy hv HST
      clear hrest hx hst hx0 ey hy hcb hca
      go_wp2_with fail
      go_roundw
      case rel => exact ⟨k + 1, s + x, by omega, by go_num, by go_num, by omega, by rw [← HST.out]; omega, HX.out⟩
      case measure => simp [intOf]; omega
    · have E : Hid (sumI vs l = s) := Lib.hid (by rw [← HRE.out, List.drop_eq_nil_of_le (by omega)]; rfl)
      clear hrest hx
      go_wp2_with fail
      go_ret
      exact ⟨by rw [E.out]; rfl, HX.out⟩

def ascF (n : Int) : Int → List Int → Bool
  | _, [] => true
  | p, x :: r => if x ≤ p ∨ n ≤ x then false else ascF n x r
def AsRel (n : Int) (l : List Int) (w : World) (v5 v6 : Value) (wr : World) : Prop :=
  ∃ (k : Nat) (p : Int), k ≤ l.length ∧ v5 = .int .i64 p ∧ v6 = .int .i64 k ∧ ascF n p (l.drop k) = ascF n (-1) l ∧ Ext w wr
set_option maxRecDepth 100000 in
set_option maxHeartbeats 2000000 in
theorem RAsc_c (l : List Int) (n : Int) (b : Option Addr) (d : Nat) (w : World) (hb : RdI w b l) (hl : l.length ≤ 1000) :
    Calls Try.prog 17 #[.slice b l.length d, .int .i64 n] w fun e w' => e = .returned (.bool (ascF n (-1) l)) ∧ Ext w w' := by
  have HB := Lib.hid hb
  clear hb
  go_enter Try.func17, Try.ntmps17
  go_wp2_with fail
  go_loopw [5, 6] (AsRel n l w) (fun _ i _ => l.length - (intOf i).toNat)
  case atStart => exact ⟨0, -1, Nat.zero_le _, rfl, rfl, rfl, Ext.refl _⟩
  case round =>
    obtain ⟨k, p, hk, rfl, rfl, hrest, hx⟩ := hrel
    have HRE := Lib.hid hrest
    have HX := Lib.hid hx
    by_cases hlt : k < l.length
    · obtain ⟨gb, ob, rfl, hcb⟩ := HB.out.at (by omega)
      have ck := hx.cell (hcb k hlt)
      have hst : ascF n (-1) l = if l.getD k 0 ≤ p ∨ n ≤ l.getD k 0 then false else ascF n (l.getD k 0) (l.drop (k + 1)) := by
        rw [← HRE.out, drop_consI l k hlt]; rfl
      obtain ⟨x, hx0⟩ : ∃ x, x = l.getD k 0 := ⟨_, rfl⟩
      rw [← hx0] at ck hst
      have HST := Lib.hid hst
      clear hrest hx hst hx0 hcb
      by_cases h1 : x ≤ p
      · have E : Hid (ascF n (-1) l = false) := Lib.hid (by rw [HST.out, if_pos (.inl h1)])
        go_wp2_with fail
        go_ret
        exact ⟨by rw [E.out]; rfl, HX.out⟩
      · by_cases h2 : n ≤ x
        · have E : Hid (ascF n (-1) l = false) := Lib.hid (by rw [HST.out, if_pos (.inr h2)])
          go_wp2_with fail
          go_ret
          exact ⟨by rw [E.out]; rfl, HX.out⟩
        · have E : Hid (ascF n x (l.drop (k + 1)) = ascF n (-1) l) := Lib.hid (by rw [HST.out, if_neg (by omega)])
          go_wp2_with fail
          go_roundw
          case rel => exact ⟨k + 1, x, by omega, by go_num, by go_num, E.out, HX.out⟩
          case measure => simp [intOf]; omega
    · have E : Hid (ascF n (-1) l = true) := Lib.hid (by rw [← HRE.out, List.drop_eq_nil_of_le (by omega)]; rfl)
      clear hrest hx
      go_wp2_with fail
      go_ret
      exact ⟨by rw [E.out]; rfl, HX.out⟩

theorem ext_getDI {l m : List Int} (hl : l.length = m.length) (h : ∀ i, i < l.length → l.getD i 0 = m.getD i 0) : l = m := by
  apply List.ext_getElem hl
  intro i h1 h2
  have := h i h1
  simpa [List.getD, h1, h2] using this
def EqRelI (l m : List Int) (w : World) (v13 : Value) (wr : World) : Prop :=
  ∃ k : Nat, k ≤ l.length ∧ v13 = .int .i64 k ∧ (∀ i, i < k → l.getD i 0 = m.getD i 0) ∧ Ext w wr
set_option maxRecDepth 100000 in
set_option maxHeartbeats 2000000 in
theorem EqualI_c (l m : List Int) (a b : Option Addr) (c d : Nat) (w : World) (ha : RdI w a l) (hb : RdI w b m) (hl : l.length ≤ 1000) (_hm : m.length ≤ 1000) :
    Calls Try.prog 15 #[.slice a l.length c, .slice b m.length d] w fun e w' => e = .returned (.bool (decide (l = m))) ∧ Ext w w' := by
  have HA := Lib.hid ha
  have HB := Lib.hid hb
  clear ha hb
  by_cases hlen : l.length = m.length
  case neg =>
    have E : Hid (decide (l = m) = false) := Lib.hid (decide_eq_false (fun e => hlen (by rw [e])))
    have t1 : ((l.length : Int) == (m.length : Int)) = false := beq_eq_false_iff_ne.2 (by omega)
    clear hlen
    go_enter Try.func15, Try.ntmps15
    go_wp2_with fail
    go_ret
    exact ⟨by rw [E.out]; rfl, Ext.refl _⟩
  have HL := Lib.hid hlen
  have t1 : ((l.length : Int) == (m.length : Int)) = true := by simp [hlen]
  obtain ⟨n, hn⟩ : ∃ n, n = m.length := ⟨_, rfl⟩
  rw [← hn] at hlen t1 ⊢
  have HN := Lib.hid hn
  clear hn
  have hle : l.length ≤ n := by omega
  have hge : n ≤ l.length := by omega
  clear hlen
  go_enter Try.func15, Try.ntmps15
  go_wp2_with fail
  go_loopw [13] (EqRelI l m w) (fun i _ => l.length - (intOf i).toNat)
  case atStart => exact ⟨0, Nat.zero_le _, rfl, fun i hi => absurd hi (by omega), Ext.refl _⟩
  case round =>
    obtain ⟨k, hk, rfl, hall, hx⟩ := hrel
    have HALL := Lib.hid hall
    have HX := Lib.hid hx
    clear hall
    by_cases hlt : k < l.length
    · obtain ⟨ga, oa, rfl, hca⟩ := HA.out.at (by omega)
      obtain ⟨gb, ob, rfl, hcb⟩ := HB.out.at (by have := HN.out; omega)
      have ck := hx.cell (hca k hlt)
      have dk := hx.cell (hcb k (by have := HN.out; omega))
      have hkn : k < n := by omega
      by_cases hq : l.getD k 0 = m.getD k 0
      · have A2 : Hid (∀ i, i < k + 1 → l.getD i 0 = m.getD i 0) := Lib.hid (fun i hi => by
          by_cases e : i = k
          · subst e; exact hq
          · exact HALL.out i (by omega))
        rw [← hq] at dk
        obtain ⟨x, hx0⟩ : ∃ x, x = l.getD k 0 := ⟨_, rfl⟩
        rw [← hx0] at ck dk
        clear hx hx0 hca hcb hq
        go_wp2_with fail
        go_quiet (fail)
        go_wp2_with fail
        go_roundw
        case rel => exact ⟨k + 1, by omega, by go_num, A2.out, HX.out.trans (below_drewN (Ext.refl _) _)⟩
        case measure => simp [intOf]; omega
      · have E : Hid (decide (l = m) = false) := Lib.hid (decide_eq_false (fun e => hq (by rw [e])))
        obtain ⟨x, hx0⟩ : ∃ x, x = l.getD k 0 := ⟨_, rfl⟩
        obtain ⟨y, hy0⟩ : ∃ y, y = m.getD k 0 := ⟨_, rfl⟩
        rw [← hx0] at ck hq
        rw [← hy0] at dk hq
        have t2 : (x == y) = false := beq_eq_false_iff_ne.2 hq
        clear hx hx0 hy0 hca hcb hq
        go_wp2_with fail
        go_quiet (fail)
        go_wp2_with fail
        go_ret
        exact ⟨by rw [E.out]; rfl, HX.out.trans (below_drewN (Ext.refl _) _)⟩
    · have E : Hid (decide (l = m) = true) := Lib.hid (decide_eq_true (ext_getDI HL.out (fun i hi => HALL.out i (by omega))))
      clear hx
      go_wp2_with fail
      go_ret
      exact ⟨by rw [E.out]; rfl, HX.out⟩
end Go.Proofs.Ytndiaamoapidoaa
