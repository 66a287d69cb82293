/- Operations: few; the fixed examples. -/
import Derived.Test.YteomgccpocgffaaMk5
namespace Go.Proofs.Yteomgccpocgffaa
open Go.RowKit

abbrev OpL := List (Bool × List Nat)
/-- A slice of operations that can be read. -/
def RdO (w : World) (a : Option Addr) (os : OpL) : Prop :=
  os = [] ∨ ∃ b off, a = some ⟨b, off, none⟩ ∧ ∀ i, i < os.length → w.cell? ⟨b, off + i * 2, none⟩ = some (.bool (os.getD i (false, [])).1) ∧
    ∃ ar cr, w.cell? ⟨b, off + i * 2 + 1, none⟩ = some (.slice ar (os.getD i (false, [])).2.length cr) ∧ Rd w ar (os.getD i (false, [])).2 ∧ ∀ x ∈ (os.getD i (false, [])).2, x < 18446744073709551616
theorem RdO.at {w : World} {a : Option Addr} {os : OpL} (h : RdO w a os) (hl : 0 < os.length) : ∃ b off, a = some ⟨b, off, none⟩ ∧ ∀ i, i < os.length → w.cell? ⟨b, off + i * 2, none⟩ = some (.bool (os.getD i (false, [])).1) ∧
    ∃ ar cr, w.cell? ⟨b, off + i * 2 + 1, none⟩ = some (.slice ar (os.getD i (false, [])).2.length cr) ∧ Rd w ar (os.getD i (false, [])).2 ∧ ∀ x ∈ (os.getD i (false, [])).2, x < 18446744073709551616 := by
  rcases h with h | h
  · subst h; simp at hl
  · exact h
theorem RdO.ext {w w' : World} {a : Option Addr} {os : OpL} (h : RdO w a os) (hx : Ext w w') : RdO w' a os := by
  rcases h with h | ⟨b, off, ha, hc⟩
  · exact .inl h
  · refine .inr ⟨b, off, ha, fun i hi => ?_⟩
    obtain ⟨k1, ar, cr, k2, k3, k4⟩ := hc i hi
    exact ⟨hx.cell k1, ar, cr, hx.cell k2, k3.ext hx, k4⟩
def fewB (os : OpL) : Bool := decide (∀ i, i < os.length → (os.getD i (false, [])).2.length ≤ 20) && decide (os.length ≤ 30)
def FwRel (os : OpL) (w : World) (s : Value) (wr : World) : Prop := ∃ j : Nat, s = .int .i64 j ∧ j ≤ os.length ∧ (∀ i, i < j → (os.getD i (false, [])).2.length ≤ 20) ∧ Ext w wr

set_option maxRecDepth 100000 in
set_option maxHeartbeats 2000000 in
theorem few_c (os : OpL) (a : Option Addr) (c : Nat) (w : World) (ha : RdO w a os) (hl : os.length ≤ 9223372036854775807) :
    Calls Try.prog 11 #[.slice a os.length c] w fun e w' => e = .returned (.bool (fewB os)) ∧ Ext w w' := by
  have HA := Lib.hid ha
  clear ha
  go_enter Try.func11, Try.ntmps11
  go_wp2_with fail
  go_loopw [7] (FwRel os w) (fun i _ => os.length - (intOf i).toNat)
  case atStart => exact ⟨0, rfl, Nat.zero_le _, fun i hi => absurd hi (by omega), Ext.refl _⟩
  case round =>
    obtain ⟨j, rfl, hj, hall, hx⟩ := hrel
    have HALL := Lib.hid hall
    have HX := Lib.hid hx
    clear hall
    by_cases hlt : j < os.length
    · obtain ⟨ga, oa, rfl, hca⟩ := HA.out.at (by omega)
      obtain ⟨k1, ar, cr, k2, _, _⟩ := hca j hlt
      have c1 := hx.cell k1
      have c2 := hx.cell k2
      obtain ⟨B, hB⟩ : ∃ B, B = (os.getD j (false, [])).1 := ⟨_, rfl⟩
      obtain ⟨n, hn⟩ : ∃ n, n = (os.getD j (false, [])).2.length := ⟨_, rfl⟩
      rw [← hB] at c1
      rw [← hn] at c2
      have HN := Lib.hid hn
      clear hca hx k1 k2 hB hn
      by_cases hq : n ≤ 20
      · have A2 : Hid (∀ i, i < j + 1 → (os.getD i (false, [])).2.length ≤ 20) := Lib.hid (fun i hi => by
          by_cases e : i = j
          · subst e; rw [← HN.out]; exact hq
          · exact HALL.out i (by omega))
        have t1 : decide ((20 : Int) < (n : Int)) = false := decide_eq_false (by omega)
        go_wp2_with fail
        go_roundw
        case rel => exact ⟨j + 1, by go_num, by omega, A2.out, HX.out.alloc _⟩
        case measure => simp [intOf]; omega
      · have E : Hid (fewB os = false) := Lib.hid (by
          unfold fewB
          rw [decide_eq_false (fun h => hq (by rw [HN.out]; exact h j hlt))]; rfl)
        have t1 : decide ((20 : Int) < (n : Int)) = true := decide_eq_true (by omega)
        go_wp2_with fail
        go_ret
        exact ⟨by rw [E.out]; rfl, HX.out.alloc _⟩
    · have E : Hid (fewB os = decide (os.length ≤ 30)) := Lib.hid (by
        unfold fewB
        rw [decide_eq_true (fun i hi => HALL.out i (by omega)), Bool.true_and])
      have E2 : Hid (decide ((os.length : Int) ≤ 30) = decide (os.length ≤ 30)) := Lib.hid (decide_eq_decide.2 ⟨fun h => by omega, fun h => by omega⟩)
      clear hx
      go_wp2_with fail
      go_ret
      exact ⟨by rw [E.out, ← E2.out]; rfl, HX.out⟩

theorem aw1 : aRes [] [5, 3] = [5, 3] ∧ aErr [] [5, 3] = 0 := by decide
theorem aw2 : aRes [5, 3] [4, 3] = [5, 3] ∧ aErr [5, 3] [4, 3] = 12 := by decide
theorem aw3 : rRes [5, 3] [3, 3] = [5, 3] ∧ rErr [5, 3] [3, 3] = 4 := by decide
theorem aw4 : srt [5, 3] = [3, 5] := by
  refine List.Perm.eq_of_pairwise (le := (· ≤ ·)) (fun a b _ _ h1 h2 => Nat.le_antisymm h1 h2) (srt_sorted _) (by simp) ((srt_perm _).trans ?_)
  exact List.Perm.swap 3 5 []
theorem Add_lit (m l r : List Nat) (n : Int) (k : Nat) (hk : l.length = k) (he : aRes m l = r ∧ aErr m l = n) (a : Option Addr) (c ps b : Nat) (w : World) (hs : St w ps b m) (ha : Rd w a l) (hl : l.length ≤ 100000) (hm : m.length ≤ 100000) (hb : ∀ x ∈ l, x < 18446744073709551616) :
    Calls Try.prog 16 #[.pointer (some ⟨ps, 0, none⟩), .slice a k c] w (AdPost w ps b r n) := by
  subst hk; rw [← he.1, ← he.2]; exact Add_c m l a c ps b w hs ha hl hm hb
theorem Rem_lit (m l r : List Nat) (n : Int) (k : Nat) (hk : l.length = k) (he : rRes m l = r ∧ rErr m l = n) (a : Option Addr) (c ps b : Nat) (w : World) (hs : St w ps b m) (hmn : m.Nodup) (ha : Rd w a l) (hl : l.length ≤ 100000) (hb : ∀ x ∈ l, x < 18446744073709551616) :
    Calls Try.prog 22 #[.pointer (some ⟨ps, 0, none⟩), .slice a k c] w (AdPost w ps b r n) := by
  subst hk; rw [← he.1, ← he.2]; exact Remove_c m l a c ps b w hs hmn ha hl hb
theorem Has_lit (m : List Nat) (x : Nat) (B : Bool) (he : decide (x ∈ m) = B) (ps b : Nat) (w : World) (hs : St w ps b m) (hx : x < 18446744073709551616) :
    Calls Try.prog 13 #[.pointer (some ⟨ps, 0, none⟩), .int .u64 (x : Int)] w fun e w' => e = .returned (.bool B) ∧ Ext w w' := by
  subst he; exact Has_c m x ps b w hs hx
theorem Same_lit (l : List Nat) (n : Nat) (a b : Option Addr) (c d : Nat) (w : World) (hn : l.length = n) (ha : Rd w a l) (hb : Rd w b l) (hl : n ≤ 2000000000) :
    Calls Try.prog 19 #[.slice a n c, .slice b n d] w fun e w' => e = .returned (.bool true) ∧ Ext w w' := by
  subst hn; exact Same_c l a b c d w ha hb hl

set_option maxRecDepth 100000 in
set_option maxHeartbeats 4000000 in
theorem awake38_c (w : World) : Calls Try.prog 10 #[] w fun e w' => e = .returned (.bool true) ∧ Ext w w' := by
  go_enter Try.func10, Try.ntmps10
  go_wp2_with fail
  refine (New_c _).mono ?_; rintro e w1 ⟨ps, b, rfl, s1, hps, hb, x1⟩
  have S1 := Lib.hid s1
  have X1 := Lib.hid x1
  have A1 := Lib.hid (fun w' a (hs : St w' ps b []) (h : Rd w' a [5, 3]) => Add_lit [] [5, 3] _ _ 2 rfl aw1 a 2 ps b w' hs h (by simp) (by simp) (by simp))
  clear s1 x1
  go_wp2_with fail
  have e2 := (Ext.refl w1).alloc (.cells #[.int .u64 5, .int .u64 3] 23)
  refine (A1.out _ _ (S1.out.ext e2) (Rd.two (cnew _ _ _ _ _ rfl) (cnew _ _ _ _ _ rfl))).mono ?_; rintro e w2 ⟨rfl, s2, b2⟩
  have S2 := Lib.hid s2
  have X2 := Lib.hid (b2.ext (X1.out.trans e2) hb)
  have L2 := fun w' (h : St w' ps b [5, 3]) => List_c [5, 3] ps b w' h (by decide) (by simp)
  rw [aw4] at L2
  have HL2 := Lib.hid L2
  clear s2 b2 e2 L2
  go_wp2_with fail
  refine (HL2.out _ S2.out).mono ?_; rintro e w3 ⟨v3, rfl, o3, x3⟩
  obtain ⟨a3, c3, rfl, _, r3⟩ := o3.formN 2 rfl
  have S3 := Lib.hid (S2.out.ext x3)
  have X3 := Lib.hid (X2.out.trans x3)
  have R3 := Lib.hid r3
  have A2 := Lib.hid (fun w' a (hs : St w' ps b [5, 3]) (h : Rd w' a [4, 3]) => Add_lit [5, 3] [4, 3] _ _ 2 rfl aw2 a 2 ps b w' hs h (by simp) (by simp) (by simp))
  clear o3 x3 r3
  go_wp2_with fail
  have e4 := (Ext.refl w3).alloc (.cells #[.int .u64 4, .int .u64 3] 23)
  refine (A2.out _ _ (S3.out.ext e4) (Rd.two (cnew _ _ _ _ _ rfl) (cnew _ _ _ _ _ rfl))).mono ?_; rintro e w4 ⟨rfl, s4, b4⟩
  have S4 := Lib.hid s4
  have X4 := Lib.hid (b4.ext (X3.out.trans e4) hb)
  have R4 := Lib.hid ((S3.out.ext e4).map.rd b4 (R3.out.ext e4))
  have A3 := Lib.hid (fun w' a (hs : St w' ps b [5, 3]) (h : Rd w' a [3, 3]) => Rem_lit [5, 3] [3, 3] _ _ 2 rfl aw3 a 2 ps b w' hs (by decide) h (by simp) (by simp))
  clear s4 b4 e4
  go_wp2_with fail
  have e5 := (Ext.refl w4).alloc (.cells #[.int .u64 3, .int .u64 3] 23)
  refine (A3.out _ _ (S4.out.ext e5) (Rd.two (cnew _ _ _ _ _ rfl) (cnew _ _ _ _ _ rfl))).mono ?_; rintro e w5 ⟨rfl, s5, b5⟩
  have S5 := Lib.hid s5
  have X5 := Lib.hid (b5.ext (X4.out.trans e5) hb)
  have R5 := Lib.hid ((S4.out.ext e5).map.rd b5 (R4.out.ext e5))
  have SM := Lib.hid (fun w' a c (h1 : Rd w' a3 [3, 5]) (h2 : Rd w' a [3, 5]) => Same_lit [3, 5] 2 a3 a c3 c w' rfl h1 h2 (by simp))
  have HC := Lib.hid (fun w' (h : St w' ps b [5, 3]) => Has_lit [5, 3] 4 false (by decide) ps b w' h (by simp))
  have LC := Lib.hid (fun w' (h : St w' ps b [5, 3]) => Len_c [5, 3] ps b w' h)
  clear s5 b5 e5
  go_wp2_with fail
  have e6 := (Ext.refl w5).alloc (.cells #[.int .u64 3, .int .u64 5] 23)
  refine (SM.out _ _ _ (R5.out.ext e6) (Rd.two (cnew _ _ _ _ _ rfl) (cnew _ _ _ _ _ rfl))).mono ?_; rintro e w6 ⟨rfl, x6⟩
  have S6 := Lib.hid (S5.out.ext (e6.trans x6))
  have X6 := Lib.hid (X5.out.trans (e6.trans x6))
  clear e6 x6
  go_wp2_with fail
  refine (HC.out _ S6.out).mono ?_; rintro e w7 ⟨rfl, x7⟩
  have S7 := Lib.hid (S6.out.ext x7)
  have X7 := Lib.hid (X6.out.trans x7)
  clear x7
  go_wp2_with fail
  refine (LC.out _ S7.out).mono ?_; rintro e w8 ⟨rfl, x8⟩
  go_wp2_with fail
  go_ret
  exact ⟨rfl, X7.out.trans x8⟩

def stp (m : List Nat) (o : Bool × List Nat) : List Nat := if o.1 then rRes m o.2 else srt (aRes m o.2)
def runM (os : OpL) : Nat → List Nat
  | 0 => []
  | j + 1 => stp (runM os j) (os.getD j (false, []))
theorem rRes_asc {m : List Nat} (h : Asc m) (l : List Nat) : Asc (rRes m l) := by
  unfold rRes; split
  · exact List.Pairwise.sublist List.filter_sublist h
  · exact h
theorem aRes_nodup {m : List Nat} (h : m.Nodup) (l : List Nat) : (aRes m l).Nodup := by
  unfold aRes; split
  · rename_i h1; exact (addOk_iff h).1 h1
  · exact h
theorem stp_asc {m : List Nat} (h : Asc m) (o : Bool × List Nat) : Asc (stp m o) := by
  unfold stp; split
  · exact rRes_asc h _
  · exact asc_srt (aRes_nodup h.nodup _)
theorem runM_asc (os : OpL) : ∀ j, Asc (runM os j)
  | 0 => List.Pairwise.nil
  | j + 1 => stp_asc (runM_asc os j) _
theorem rRes_len (m l : List Nat) : (rRes m l).length ≤ m.length := by
  unfold rRes; split
  · exact lessL_len _ _
  · exact Nat.le_refl _
theorem aRes_len (m l : List Nat) : (aRes m l).length ≤ m.length + l.length := by
  unfold aRes; split
  · rw [List.length_append]; exact Nat.le_refl _
  · omega
theorem runM_len {os : OpL} (h : fewB os = true) : ∀ j, j ≤ os.length → (runM os j).length ≤ 20 * j
  | 0, _ => by simp [runM]
  | j + 1, hj => by
    have ih := runM_len h j (by omega)
    unfold fewB at h
    rw [Bool.and_eq_true] at h
    have h1 := of_decide_eq_true h.1 j (by omega)
    show (stp _ _).length ≤ _
    unfold stp; split
    · have := rRes_len (runM os j) (os.getD j (false, [])).2; omega
    · rw [srt_len]; have := aRes_len (runM os j) (os.getD j (false, [])).2; omega
def RunPost (w : World) (M : List Nat) (e : Ending) (w' : World) : Prop :=
  ∃ ps b a c, e = .returned (.tuple #[.pointer (some ⟨ps, 0, none⟩), .slice a M.length c, .bool true]) ∧ St w' ps b M ∧ Rd w' a M ∧ w.heap.size ≤ b ∧ Ext w w'
def RunRel (os : OpL) (w : World) (ps b : Nat) (v6 v7 v17 : Value) (wr : World) : Prop :=
  ∃ (j : Nat) (a : Option Addr) (n c : Nat), v17 = .int .i64 j ∧ j ≤ os.length ∧ v6 = .slice a n c ∧ n = (runM os j).length ∧ v7 = .bool true ∧ St wr ps b (runM os j) ∧ Rd wr a (runM os j) ∧ Ext w wr

set_option maxRecDepth 100000 in
set_option maxHeartbeats 8000000 in
theorem run_c (os : OpL) (a : Option Addr) (c : Nat) (w : World) (ha : RdO w a os) (hf : fewB os = true) :
    Calls Try.prog 12 #[.slice a os.length c] w (RunPost w (runM os os.length)) := by
  have HA := Lib.hid ha
  have HF := Lib.hid hf
  have hl : os.length ≤ 30 := by unfold fewB at hf; rw [Bool.and_eq_true] at hf; exact of_decide_eq_true hf.2
  have HL20 : Hid (∀ i, i < os.length → (os.getD i (false, [])).2.length ≤ 20) := Lib.hid (by unfold fewB at hf; rw [Bool.and_eq_true] at hf; exact of_decide_eq_true hf.1)
  clear ha hf
  go_enter Try.func12, Try.ntmps12
  go_wp2_with fail
  refine (New_c _).mono ?_; rintro e w1 ⟨ps, b, rfl, s1, hps, hb, x1⟩
  have S1 := Lib.hid s1
  have X1 := Lib.hid x1
  clear s1 x1 hps
  go_wp2_with fail
  go_loopw [6, 7, 17] (RunRel os w ps b) (fun _ _ i _ => os.length - (intOf i).toNat)
  case atStart => exact ⟨0, none, 0, 0, rfl, Nat.zero_le _, rfl, rfl, rfl, S1.out, Rd.nil _ _, X1.out⟩
  case round =>
    obtain ⟨j, am, nm, cm, rfl, hj, rfl, hn, rfl, hs, hr, hx⟩ := hrel
    have HS := Lib.hid hs
    have HR := Lib.hid hr
    have HX := Lib.hid hx
    have HASC := Lib.hid (runM_asc os j)
    have hml := runM_len HF.out j hj
    have HN := Lib.hid hn
    clear hs hr hn S1 X1
    by_cases hlt : j < os.length
    · obtain ⟨ga, oa, rfl, hca⟩ := HA.out.at (by omega)
      obtain ⟨k1, ar, cr, k2, k3, k4⟩ := hca j hlt
      have c1 := hx.cell k1
      have c2 := hx.cell k2
      have hlo := HL20.out j hlt
      have HASC1 := Lib.hid (runM_asc os (j + 1))
      have hml1 := runM_len HF.out (j + 1) (by omega)
      have RS : Hid (runM os (j + 1) = stp (runM os j) (os.getD j (false, []))) := Lib.hid rfl
      obtain ⟨⟨B, l⟩, ho⟩ : ∃ o : Bool × List Nat, o = os.getD j (false, []) := ⟨_, rfl⟩
      rw [← ho] at c1 c2 k3 k4 hlo RS
      dsimp only at c1 c2 k3 k4 hlo
      have HK3 := Lib.hid (k3.ext hx)
      have HK4 := Lib.hid k4
      obtain ⟨M, hM⟩ : ∃ M, M = runM os j := ⟨_, rfl⟩
      obtain ⟨M1, hM1⟩ : ∃ M1, M1 = runM os (j + 1) := ⟨_, rfl⟩
      rw [← hM] at HS HR HASC hml HN RS
      rw [← hM1] at RS HASC1 hml1
      have HM1 := Lib.hid hM1
      have HMB := Lib.hid HS.out.map.bd
      have q0 : (wr.alloc (.cells #[.bool B, .slice ar l.length cr] 48)).cell? ⟨wr.heap.size, 0, none⟩ = some (.bool B) := by simp
      have q1 : (wr.alloc (.cells #[.bool B, .slice ar l.length cr] 48)).cell? ⟨wr.heap.size, 1, none⟩ = some (.slice ar l.length cr) := by simp
      have Xa := Lib.hid ((Ext.refl wr).alloc (.cells #[.bool B, .slice ar l.length cr] 48))
      have OC := Lib.hid (fun w' (h : Rd w' ar l) => own38_c l ar cr w' h (by omega))
      have SC := Lib.hid (fun w' a' c' (h1 : St w' ps b M1) (h2 : Rd w' a' M1) => same_c M1 a' c' ps b w' h1 HASC1.out h2 (by omega))
      clear hca k1 k2 k3 k4 ho hM hM1 hx
      cases B
      case false =>
        have ES : Hid (M1 = srt (aRes M l)) := Lib.hid (by rw [RS.out]; rfl)
        have RC := fun w' (h1 : Rd w' am M) (h2 : Rd w' ar l) => RAdd38_c M l am ar cm cr w' HASC.out h1 h2 (by omega) (by omega)
        rw [← ES.out, ← HN.out] at RC
        have HRC := Lib.hid RC
        have PC := Lib.hid (fun w' a' c' (h1 : St w' ps b M) (h2 : Rd w' a' l) => Add_c M l a' c' ps b w' h1 h2 (by omega) (by omega) HK4.out)
        obtain ⟨er, her⟩ : ∃ er, er = aErr M l := ⟨_, rfl⟩
        rw [← her] at HRC PC
        have t1 : (er == er) = true := by simp
        clear RC RS her
        go_wp2_with fail
        refine (HRC.out _ (HR.out.ext Xa.out) (HK3.out.ext Xa.out)).mono ?_; rintro e w2 ⟨a2, c2', rfl, r2, x2⟩
        have Q1 := Lib.hid (x2.cell q1)
        have q12 := Q1.out
        have R2 := Lib.hid r2
        have X2 := Lib.hid (Xa.out.trans x2)
        clear x2 r2
        go_wp2_with fail
        refine (OC.out _ (HK3.out.ext X2.out)).mono ?_; rintro e w3 ⟨v3, rfl, o3, x3⟩
        obtain ⟨a3, c3, rfl, _, _, r3⟩ := o3.form
        have S3 := Lib.hid (HS.out.ext (X2.out.trans x3))
        have X3 := Lib.hid (X2.out.trans x3)
        have R3 := Lib.hid (R2.out.ext x3)
        have R3l := Lib.hid r3
        clear x3 o3 r3 q12
        go_wp2_with fail
        refine (PC.out _ _ _ S3.out R3l.out).mono ?_; rintro e w4 ⟨rfl, s4, b4⟩
        have S4 : Hid (St w4 ps b M1) := Lib.hid ⟨s4.cell, by rw [ES.out]; exact s4.map.perm (srt_perm _).symm⟩
        have R4 := Lib.hid (S3.out.map.rd b4 R3.out)
        have X4 := Lib.hid (b4.ext (HX.out.trans X3.out) hb)
        clear s4 b4
        go_wp2_with fail
        refine (SC.out _ _ _ S4.out R4.out).mono ?_; rintro e w5 ⟨rfl, x5⟩
        have S5 := Lib.hid (S4.out.ext x5)
        have R5 := Lib.hid (R4.out.ext x5)
        have X5 := Lib.hid (X4.out.trans x5)
        clear x5
        go_wp2_with fail
        go_roundw
        case rel =>
          have e1 := S5.out
          have e2 := R5.out
          rw [HM1.out] at e1 e2
          exact ⟨j + 1, a2, M1.length, c2', by go_num, by omega, rfl, by rw [HM1.out], rfl, e1, e2, X5.out⟩
        case measure => simp [intOf]; omega
      case true =>
        have ES : Hid (M1 = rRes M l) := Lib.hid (by rw [RS.out]; rfl)
        have RC := fun w' (h1 : Rd w' am M) (h2 : Rd w' ar l) => RRemove38_c M l am ar cm cr w' h1 h2 (by omega) (by omega)
        rw [← ES.out, ← HN.out] at RC
        have HRC := Lib.hid RC
        have PC := Lib.hid (fun w' a' c' (h1 : St w' ps b M) (h2 : Rd w' a' l) => Remove_c M l a' c' ps b w' h1 HASC.out.nodup h2 (by omega) HK4.out)
        obtain ⟨er, her⟩ : ∃ er, er = rErr M l := ⟨_, rfl⟩
        rw [← her] at HRC PC
        have t1 : (er == er) = true := by simp
        clear RC RS her
        go_wp2_with fail
        refine (HRC.out _ (HR.out.ext Xa.out) (HK3.out.ext Xa.out)).mono ?_; rintro e w2 ⟨a2, c2', rfl, r2, x2⟩
        have Q1 := Lib.hid (x2.cell q1)
        have q12 := Q1.out
        have R2 := Lib.hid r2
        have X2 := Lib.hid (Xa.out.trans x2)
        clear x2 r2
        go_wp2_with fail
        refine (OC.out _ (HK3.out.ext X2.out)).mono ?_; rintro e w3 ⟨v3, rfl, o3, x3⟩
        obtain ⟨a3, c3, rfl, _, _, r3⟩ := o3.form
        have S3 := Lib.hid (HS.out.ext (X2.out.trans x3))
        have X3 := Lib.hid (X2.out.trans x3)
        have R3 := Lib.hid (R2.out.ext x3)
        have R3l := Lib.hid r3
        clear x3 o3 r3 q12
        go_wp2_with fail
        refine (PC.out _ _ _ S3.out R3l.out).mono ?_; rintro e w4 ⟨rfl, s4, b4⟩
        have S4 : Hid (St w4 ps b M1) := Lib.hid ⟨s4.cell, by rw [ES.out]; exact s4.map⟩
        have R4 := Lib.hid (S3.out.map.rd b4 R3.out)
        have X4 := Lib.hid (b4.ext (HX.out.trans X3.out) hb)
        clear s4 b4
        go_wp2_with fail
        refine (SC.out _ _ _ S4.out R4.out).mono ?_; rintro e w5 ⟨rfl, x5⟩
        have S5 := Lib.hid (S4.out.ext x5)
        have R5 := Lib.hid (R4.out.ext x5)
        have X5 := Lib.hid (X4.out.trans x5)
        clear x5
        go_wp2_with fail
        go_roundw
        case rel =>
          have e1 := S5.out
          have e2 := R5.out
          rw [HM1.out] at e1 e2
          exact ⟨j + 1, a2, M1.length, c2', by go_num, by omega, rfl, by rw [HM1.out], rfl, e1, e2, X5.out⟩
        case measure => simp [intOf]; omega
    · obtain rfl : j = os.length := by omega
      clear hx
      go_wp2_with fail
      go_ret3
      exact ⟨ps, b, am, cm, by rw [HN.out]; rfl, HS.out, HR.out, hb, HX.out⟩
end Go.Proofs.Yteomgccpocgffaa
