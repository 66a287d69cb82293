/- Contracts: slices.Index, Contains at int; coins.Change; the document's better. -/
import Derived.Test.YtndiaamoapidoaaCo8
namespace Go.Proofs.Ytndiaamoapidoaa
open Go.RowKit

def IxRel (l : List Int) (y : Int) (w : World) (v8 : Value) (wr : World) : Prop := ∃ k : Nat, k ≤ l.length ∧ v8 = .int .i64 k ∧ (∀ i, i < k → l.getD i 0 ≠ y) ∧ Ext w wr
def IxPost (l : List Int) (y : Int) (w : World) (e : Ending) (w' : World) : Prop := ∃ r : Int, e = .returned (.int .i64 r) ∧ (0 ≤ r ↔ y ∈ l) ∧ Ext w w'
theorem mem_getDI {l : List Int} {y : Int} : y ∈ l ↔ ∃ i, i < l.length ∧ l.getD i 0 = y := by
  rw [List.mem_iff_getElem]
  constructor
  · rintro ⟨i, hi, h⟩; exact ⟨i, hi, by simpa [List.getD, hi] using h⟩
  · rintro ⟨i, hi, h⟩; exact ⟨i, hi, by simpa [List.getD, hi] using h⟩
set_option maxRecDepth 100000 in
set_option maxHeartbeats 2000000 in
theorem IndexI_c (l : List Int) (y : Int) (b : Option Addr) (d : Nat) (w : World) (hb : RdI w b l) (hl : l.length ≤ 1000) :
    Calls Try.prog 26 #[.slice b l.length d, .int .i64 y] w (IxPost l y w) := by
  have HB := Lib.hid hb
  clear hb
  go_enter Try.func26, Try.ntmps26
  go_wp2_with fail
  go_loopw [8] (IxRel l y w) (fun i _ => l.length - (intOf i).toNat)
  case atStart => exact ⟨0, Nat.zero_le _, rfl, fun i hi => absurd hi (by omega), Ext.refl _⟩
  case round =>
    obtain ⟨k, hk, rfl, hall, hx⟩ := hrel
    have HALL := Lib.hid hall
    have HX := Lib.hid hx
    clear hall
    by_cases hlt : k < l.length
    · obtain ⟨gb, ob, rfl, hcb⟩ := HB.out.at (by omega)
      have ck := hx.cell (hcb k hlt)
      by_cases hq : l.getD k 0 = y
      · have E : Hid (y ∈ l) := Lib.hid (mem_getDI.2 ⟨k, hlt, hq⟩)
        rw [hq] at ck
        clear hx hcb hq
        go_wp2_with fail
        go_ret
        exact ⟨k, rfl, ⟨fun _ => E.out, fun _ => by omega⟩, HX.out⟩
      · have A2 : Hid (∀ i, i < k + 1 → l.getD i 0 ≠ y) := Lib.hid (fun i hi => by
          by_cases e : i = k
          · subst e; exact hq
          · exact HALL.out i (by omega))
        obtain ⟨x, hx0⟩ : ∃ x, x = l.getD k 0 := ⟨_, rfl⟩
        rw [← hx0] at ck hq
        have t2 : (y == x) = false := beq_eq_false_iff_ne.2 (fun e => hq e.symm)
        clear hx hx0 hcb hq
        go_wp2_with fail
        go_roundw
        case rel => exact ⟨k + 1, by omega, by go_num, A2.out, HX.out⟩
        case measure => simp [intOf]; omega
    · have E : Hid (¬ y ∈ l) := Lib.hid (fun h => by
        obtain ⟨i, hi, e⟩ := mem_getDI.1 h
        exact HALL.out i (by omega) e)
      clear hx
      go_wp2_with fail
      go_ret
      exact ⟨-1, rfl, ⟨fun h => absurd h (by decide), fun h => absurd h E.out⟩, HX.out⟩
set_option maxHeartbeats 1000000 in
theorem ContainsI_c (l : List Int) (y : Int) (b : Option Addr) (d : Nat) (w : World) (hb : RdI w b l) (hl : l.length ≤ 1000) :
    Calls Try.prog 20 #[.slice b l.length d, .int .i64 y] w fun e w' => e = .returned (.bool (decide (y ∈ l))) ∧ Ext w w' := by
  have IC := Lib.hid (IndexI_c l y b d w hb hl)
  clear hb
  go_enter Try.func20, Try.ntmps20
  go_wp2_with fail
  refine IC.out.mono ?_
  rintro e w1 ⟨r, rfl, hr, hx⟩
  have HR := Lib.hid hr
  clear hr
  go_wp2_with fail
  go_ret
  exact ⟨by show _ = Ending.returned (.bool (decide (y ∈ l))); rw [show decide (y ∈ l) = decide (0 ≤ r) from by by_cases h : 0 ≤ r; rw [decide_eq_true h, decide_eq_true (HR.out.1 h)]; rw [decide_eq_false h, decide_eq_false (fun h2 => h (HR.out.2 h2))]]; rfl, hx⟩

def chV (vs : List Nat) (l : List Int) (t : Nat) : Nat := if exE vs ≠ 0 ∨ ascF vs.length (-1) l = false ∨ sumI vs l < t then 0 else sumI vs l - t
def chE (vs : List Nat) (l : List Int) (t : Nat) : Int := if exE vs ≠ 0 then exE vs else if ascF vs.length (-1) l = false then 1 else if sumI vs l < t then 15 else 0
def ChRel (vs : List Nat) (l : List Int) (w : World) (v9 v10 v20 : Value) (wr : World) : Prop :=
  ∃ (k s : Nat) (p : Int), k ≤ l.length ∧ -1 ≤ p ∧ v9 = .int .u64 (s : Int) ∧ v10 = .int .i64 p ∧ v20 = .int .i64 k ∧ s ≤ 4294967295 * k ∧ s + sumI vs (l.drop k) = sumI vs l ∧ ascF vs.length p (l.drop k) = ascF vs.length (-1) l ∧ Ext w wr

set_option maxRecDepth 100000 in
set_option maxHeartbeats 4000000 in
theorem Change_c (vs : List Nat) (l : List Int) (t : Nat) (a b : Option Addr) (c d : Nat) (w : World) (ha : Rd w a vs) (hb : RdI w b l) (hl : l.length ≤ 1000) (hvl : vs.length ≤ 1000000) :
    Calls Try.prog 21 #[.slice a vs.length c, .slice b l.length d, .int .u64 (t : Int)] w fun e w' => e = .returned (.tuple #[.int .u64 (chV vs l t : Nat), .int .i64 (chE vs l t)]) ∧ Ext w w' := by
  have HA := Lib.hid ha
  have HB := Lib.hid hb
  have EC := Lib.hid (fun w' (h : Rd w' a vs) => examine_c vs a c w' h (by omega))
  clear ha hb
  by_cases hex : exE vs = 0
  case neg =>
    have E1 : Hid (chV vs l t = 0) := Lib.hid (by unfold chV; rw [if_pos (.inl hex)])
    have E2 : Hid (chE vs l t = exE vs) := Lib.hid (by unfold chE; rw [if_pos hex])
    obtain ⟨ee, he⟩ : ∃ ee, ee = exE vs := ⟨_, rfl⟩
    rw [← he] at hex E2 EC
    have t1 : (ee == 0) = false := beq_eq_false_iff_ne.2 hex
    clear he
    go_enter Try.func21, Try.ntmps21
    go_wp2_with fail
    refine (EC.out _ HA.out).mono ?_; rintro e w1 ⟨rfl, x1⟩
    have X1 := Lib.hid x1
    clear x1
    go_wp2_with fail
    go_ret2
    exact ⟨by rw [E1.out, E2.out]; rfl, X1.out⟩
  obtain ⟨h24, hsm⟩ := exE_zero hex
  have HSM := Lib.hid (of_decide_eq_true hsm)
  rw [hex] at EC
  have HEX := Lib.hid hex
  clear hsm hex
  go_enter Try.func21, Try.ntmps21
  go_wp2_with fail
  refine (EC.out _ HA.out).mono ?_; rintro e w1 ⟨rfl, x1⟩
  have X1 := Lib.hid x1
  clear x1
  go_wp2_with fail
  go_loopw [9, 10, 20] (ChRel vs l w) (fun _ _ i _ => l.length - (intOf i).toNat)
  case atStart => exact ⟨0, 0, -1, Nat.zero_le _, by omega, rfl, rfl, rfl, Nat.zero_le _, by simp, rfl, X1.out⟩
  case round =>
    obtain ⟨k, s, p, hk, hp, rfl, rfl, rfl, hs, hrest, hasc, hx⟩ := hrel
    have HRE := Lib.hid hrest
    have HAS := Lib.hid hasc
    have HX := Lib.hid hx
    by_cases hlt : k < l.length
    · obtain ⟨gb, ob, rfl, hcb⟩ := HB.out.at (by omega)
      have ck := hx.cell (hcb k hlt)
      have hst : ascF vs.length (-1) l = if l.getD k 0 ≤ p ∨ (vs.length : Int) ≤ l.getD k 0 then false else ascF vs.length (l.getD k 0) (l.drop (k + 1)) := by
        rw [← HAS.out, drop_consI l k hlt]; rfl
      have hst2 : s + (vs.getD (l.getD k 0).toNat 0 + sumI vs (l.drop (k + 1))) = sumI vs l := by
        rw [← HRE.out, drop_consI l k hlt]; rfl
      obtain ⟨x, hx0⟩ : ∃ x, x = l.getD k 0 := ⟨_, rfl⟩
      rw [← hx0] at ck hst hst2
      have HST := Lib.hid hst
      have HST2 := Lib.hid hst2
      clear hrest hasc hst hst2 hx0 hcb
      by_cases h1 : x ≤ p
      · have E : Hid (ascF vs.length (-1) l = false) := Lib.hid (by rw [HST.out, if_pos (.inl h1)])
        have E1 : Hid (chV vs l t = 0) := Lib.hid (by unfold chV; rw [if_pos (.inr (.inl E.out))])
        have E2 : Hid (chE vs l t = 1) := Lib.hid (by unfold chE; rw [if_neg (fun h => h HEX.out), if_pos E.out])
        clear hx
        go_wp2_with fail
        go_ret2
        exact ⟨by rw [E1.out, E2.out]; rfl, HX.out⟩
      · by_cases h2 : (vs.length : Int) ≤ x
        · have E : Hid (ascF vs.length (-1) l = false) := Lib.hid (by rw [HST.out, if_pos (.inr h2)])
          have E1 : Hid (chV vs l t = 0) := Lib.hid (by unfold chV; rw [if_pos (.inr (.inl E.out))])
          have E2 : Hid (chE vs l t = 1) := Lib.hid (by unfold chE; rw [if_neg (fun h => h HEX.out), if_pos E.out])
          clear hx
          go_wp2_with fail
          go_ret2
          exact ⟨by rw [E1.out, E2.out]; rfl, HX.out⟩
        · have E : Hid (ascF vs.length x (l.drop (k + 1)) = ascF vs.length (-1) l) := Lib.hid (by rw [HST.out, if_neg (by omega)])
          obtain ⟨y, hy⟩ : ∃ y, y = x.toNat := ⟨_, rfl⟩
          have ey : x = (y : Int) := by omega
          have hyl : y < vs.length := by omega
          rw [← hy] at HST2
          obtain ⟨ga, oa, rfl, hca⟩ := HA.out.at (by omega)
          have cy := hx.cell (hca y hyl)
          have hv := HSM.out y hyl
          obtain ⟨z, hz⟩ : ∃ z, z = vs.getD y 0 := ⟨_, rfl⟩
          rw [← hz] at cy hv HST2
          subst ey
          clear hx hca hz hy
          go_wp2_with fail
          go_roundw
          case rel => exact ⟨k + 1, s + z, y, by omega, by omega, by go_num, by go_num, by go_num, by omega, by rw [← HST2.out]; omega, E.out, HX.out⟩
          case measure => simp [intOf]; omega
    · have E : Hid (sumI vs l = s) := Lib.hid (by rw [← HRE.out, List.drop_eq_nil_of_le (by omega)]; rfl)
      have EA : Hid (¬ ascF vs.length (-1) l = false) := Lib.hid (by rw [← HAS.out, List.drop_eq_nil_of_le (by omega)]; simp [ascF])
      clear hrest hasc hx
      by_cases hq : s < t
      · have E1 : Hid (chV vs l t = 0) := Lib.hid (by unfold chV; rw [E.out, if_pos (.inr (.inr hq))])
        have E2 : Hid (chE vs l t = 15) := Lib.hid (by unfold chE; rw [if_neg (fun h => h HEX.out), if_neg EA.out, E.out, if_pos hq])
        go_wp2_with fail
        go_ret2
        exact ⟨by rw [E1.out, E2.out]; rfl, HX.out⟩
      · have E1 : Hid (chV vs l t = s - t) := Lib.hid (by unfold chV; rw [E.out, if_neg (fun h => by rcases h with h | h | h; exact h HEX.out; exact EA.out h; exact hq h)])
        have E2 : Hid (chE vs l t = 0) := Lib.hid (by unfold chE; rw [if_neg (fun h => h HEX.out), if_neg EA.out, E.out, if_neg hq])
        go_wp2_with fail
        go_ret2
        exact ⟨by rw [E1.out, E2.out]; go_num, HX.out⟩

def lexI : List Int → List Int → Bool
  | x :: r, y :: s => if x = y then lexI r s else decide (x < y)
  | _, _ => false
def betI (vs : List Nat) (l m : List Int) : Bool := if l.length = m.length then (if sumI vs l = sumI vs m then lexI l m else decide (sumI vs l < sumI vs m)) else decide (l.length < m.length)
def LxRel (l m : List Int) (w : World) (v7 : Value) (wr : World) : Prop := ∃ k : Nat, k ≤ l.length ∧ v7 = .int .i64 k ∧ lexI (l.drop k) (m.drop k) = lexI l m ∧ Ext w wr
set_option maxRecDepth 100000 in
set_option maxHeartbeats 4000000 in
theorem better_c (vs : List Nat) (l m : List Int) (a b q : Option Addr) (c d f : Nat) (w : World) (ha : Rd w a vs) (hb : RdI w b l) (hq : RdI w q m) (hinl : ∀ i, i < l.length → 0 ≤ l.getD i 0 ∧ l.getD i 0 < vs.length) (hinm : ∀ i, i < m.length → 0 ≤ m.getD i 0 ∧ m.getD i 0 < vs.length) (hsm : ∀ i, i < vs.length → vs.getD i 0 ≤ 4294967295) (hl : l.length ≤ 1000) (hm : m.length ≤ 1000) (hvl : vs.length ≤ 1000) :
    Calls Try.prog 25 #[.slice a vs.length c, .slice b l.length d, .slice q m.length f] w fun e w' => e = .returned (.bool (betI vs l m)) ∧ Ext w w' := by
  have HB := Lib.hid hb
  have HQ := Lib.hid hq
  have SL := Lib.hid (fun w' (h : Ext w w') => RSum_c vs l a b c d w' (ha.ext h) (hb.ext h) hinl hsm hl hvl)
  have SM := Lib.hid (fun w' (h : Ext w w') => RSum_c vs m a q c f w' (ha.ext h) (hq.ext h) hinm hsm hm hvl)
  clear ha hb hq hinl hinm hsm
  by_cases hlen : l.length = m.length
  case neg =>
    have E : Hid (betI vs l m = decide (l.length < m.length)) := Lib.hid (by unfold betI; rw [if_neg hlen])
    have t1 : ((l.length : Int) == (m.length : Int)) = false := beq_eq_false_iff_ne.2 (by omega)
    clear hlen
    by_cases hc : l.length < m.length
    · have E2 : Hid (betI vs l m = true) := Lib.hid (by rw [E.out, decide_eq_true hc])
      go_enter Try.func25, Try.ntmps25
      go_wp2_with fail
      go_ret
      exact ⟨by rw [E2.out]; rfl, Ext.refl _⟩
    · have E2 : Hid (betI vs l m = false) := Lib.hid (by rw [E.out, decide_eq_false hc])
      have t2 : decide ((l.length : Int) < (m.length : Int)) = false := decide_eq_false (by omega)
      go_enter Try.func25, Try.ntmps25
      go_wp2_with fail
      go_ret
      exact ⟨by rw [E2.out]; simp, Ext.refl _⟩
  have HL := Lib.hid hlen
  have t1 : ((l.length : Int) == (m.length : Int)) = true := by simp [hlen]
  obtain ⟨n, hn⟩ : ∃ n, n = m.length := ⟨_, rfl⟩
  rw [← hn] at hlen t1 hm SM ⊢
  have HN := Lib.hid hn
  clear hn
  have hle : l.length ≤ n := by omega
  have hge : n ≤ l.length := by omega
  clear hlen
  by_cases hsum : sumI vs l = sumI vs m
  case neg =>
    have E : Hid (betI vs l m = decide (sumI vs l < sumI vs m)) := Lib.hid (by unfold betI; rw [if_pos HL.out, if_neg hsum])
    obtain ⟨sl, hsl⟩ : ∃ s, s = sumI vs l := ⟨_, rfl⟩
    obtain ⟨sm, hsmm⟩ : ∃ s, s = sumI vs m := ⟨_, rfl⟩
    rw [← hsl] at hsum E SL
    rw [← hsmm] at hsum E SM
    have t2 : ((sl : Int) == (sm : Int)) = false := beq_eq_false_iff_ne.2 (by omega)
    clear hsl hsmm
    go_enter Try.func25, Try.ntmps25
    go_wp2_with fail
    refine (SL.out _ (Ext.refl _)).mono ?_; rintro e w1 ⟨rfl, x1⟩
    have X1 := Lib.hid x1
    clear x1
    go_wp2_with fail
    refine (SM.out _ X1.out).mono ?_; rintro e w2 ⟨rfl, x2⟩
    have X2 := Lib.hid (X1.out.trans x2)
    clear x2
    go_wp2_with fail
    refine (SL.out _ X2.out).mono ?_; rintro e w3 ⟨rfl, x3⟩
    have X3 := Lib.hid (X2.out.trans x3)
    clear x3
    go_wp2_with fail
    refine (SM.out _ X3.out).mono ?_; rintro e w4 ⟨rfl, x4⟩
    have X4 := Lib.hid (X3.out.trans x4)
    clear x4
    go_wp2_with fail
    go_ret
    exact ⟨by rw [E.out]; simp, X4.out⟩
  have E : Hid (betI vs l m = lexI l m) := Lib.hid (by unfold betI; rw [if_pos HL.out, if_pos hsum])
  obtain ⟨sl, hsl⟩ : ∃ s, s = sumI vs l := ⟨_, rfl⟩
  rw [← hsum] at SM
  rw [← hsl] at SL SM
  clear hsum hsl
  go_enter Try.func25, Try.ntmps25
  go_wp2_with fail
  refine (SL.out _ (Ext.refl _)).mono ?_; rintro e w1 ⟨rfl, x1⟩
  have X1 := Lib.hid x1
  clear x1
  go_wp2_with fail
  refine (SM.out _ X1.out).mono ?_; rintro e w2 ⟨rfl, x2⟩
  have X2 := Lib.hid (X1.out.trans x2)
  clear x2
  go_wp2_with fail
  go_loopw [7] (LxRel l m w) (fun i _ => l.length - (intOf i).toNat)
  case atStart => exact ⟨0, Nat.zero_le _, rfl, rfl, X2.out⟩
  case round =>
    obtain ⟨k, hk, rfl, hrest, hx⟩ := hrel
    have HRE := Lib.hid hrest
    have HX := Lib.hid hx
    clear hrest
    by_cases hlt : k < l.length
    · obtain ⟨ga, oa, rfl, hca⟩ := HB.out.at (by omega)
      obtain ⟨gb, ob, rfl, hcb⟩ := HQ.out.at (by have := HN.out; omega)
      have hkm : k < m.length := by have := HN.out; omega
      have ck := hx.cell (hca k hlt)
      have dk := hx.cell (hcb k hkm)
      have hkn : k < n := by omega
      have hst : lexI l m = if l.getD k 0 = m.getD k 0 then lexI (l.drop (k + 1)) (m.drop (k + 1)) else decide (l.getD k 0 < m.getD k 0) := by
        rw [← HRE.out, drop_consI l k hlt, drop_consI m k hkm]; rfl
      have HST := Lib.hid hst
      clear hst
      by_cases hq : l.getD k 0 = m.getD k 0
      · have A2 : Hid (lexI (l.drop (k + 1)) (m.drop (k + 1)) = lexI l m) := Lib.hid (by rw [HST.out, if_pos hq])
        rw [← hq] at dk
        obtain ⟨x, hx0⟩ : ∃ x, x = l.getD k 0 := ⟨_, rfl⟩
        rw [← hx0] at ck dk
        clear hx hx0 hca hcb hq
        go_wp2_with fail
        go_quiet (fail)
        go_wp2_with fail
        go_roundw
        case rel => exact ⟨k + 1, by omega, by go_num, A2.out, HX.out.trans (below_drewN (Ext.refl _) _)⟩
        case measure => simp [intOf]; omega
      · have A2 : Hid (lexI l m = decide (l.getD k 0 < m.getD k 0)) := Lib.hid (by rw [HST.out, if_neg hq])
        obtain ⟨x, hx0⟩ : ∃ x, x = l.getD k 0 := ⟨_, rfl⟩
        obtain ⟨y, hy0⟩ : ∃ y, y = m.getD k 0 := ⟨_, rfl⟩
        rw [← hx0] at ck hq A2
        rw [← hy0] at dk hq A2
        have t2 : (x == y) = false := beq_eq_false_iff_ne.2 hq
        clear hx hx0 hy0 hca hcb hq
        go_wp2_with fail
        go_quiet (fail)
        go_wp2_with fail
        go_quiet (fail)
        go_wp2_with fail
        go_ret
        exact ⟨by rw [E.out, A2.out]; rfl, HX.out.trans (below_drewN (below_drewN (Ext.refl _) _) _)⟩
    · have E2 : Hid (lexI l m = false) := Lib.hid (by rw [← HRE.out, List.drop_eq_nil_of_le (by omega)]; rfl)
      clear hx
      go_wp2_with fail
      go_ret
      exact ⟨by rw [E.out, E2.out]; rfl, HX.out⟩
end Go.Proofs.Ytndiaamoapidoaa
