/- Walk of MarksetOrder. -/
import Derived.Test.YteomgccpocgffaaMk6
namespace Go.Proofs.Yteomgccpocgffaa
open Go.RowKit
/-- What is left to be added one by one, from the end. -/
def ordT (l : List Nat) : Nat → List Nat
  | 0 => []
  | k + 1 => aRes (ordT l k) [l.getD (l.length - (k + 1)) 0]
def ordB (l : List Nat) (k : Nat) : Bool := !decide (l.drop (l.length - k)).Nodup
theorem ordT_spec (l : List Nat) : ∀ k, k ≤ l.length → (ordT l k).Nodup ∧ ∀ x, x ∈ ordT l k ↔ x ∈ l.drop (l.length - k)
  | 0, _ => by simp [ordT]
  | k + 1, hk => by
    obtain ⟨h1, h2⟩ := ordT_spec l k (by omega)
    refine ⟨aRes_nodup h1 _, fun x => ?_⟩
    have hd : l.drop (l.length - (k + 1)) = l.getD (l.length - (k + 1)) 0 :: l.drop (l.length - k) := by
      rw [drop_cons l _ (by omega), show l.length - (k + 1) + 1 = l.length - k from by omega]
    rw [hd, List.mem_cons, ← h2]
    show x ∈ aRes (ordT l k) _ ↔ _
    unfold aRes
    split
    · simp [or_comm]
    · rename_i hn
      have hm : l.getD (l.length - (k + 1)) 0 ∈ ordT l k := by
        apply Classical.byContradiction
        intro hh
        exact hn (addOk_mk (by simp) (fun y hy => by rw [List.mem_singleton] at hy; subst hy; exact hh))
      constructor
      · exact Or.inr
      · rintro (rfl | h)
        · exact hm
        · exact h
theorem ord_step (l : List Nat) (k : Nat) (hk : k < l.length) : ordB l (k + 1) = (!(aErr (ordT l k) [l.getD (l.length - (k + 1)) 0] == 0) || ordB l k) := by
  obtain ⟨h1, h2⟩ := ordT_spec l k (by omega)
  have hd : l.drop (l.length - (k + 1)) = l.getD (l.length - (k + 1)) 0 :: l.drop (l.length - k) := by
    rw [drop_cons l _ (by omega), show l.length - (k + 1) + 1 = l.length - k from by omega]
  unfold ordB
  rw [hd]
  by_cases hm : l.getD (l.length - (k + 1)) 0 ∈ ordT l k
  · have e : addOk (ordT l k) [l.getD (l.length - (k + 1)) 0] = false := by
      cases h : addOk (ordT l k) [l.getD (l.length - (k + 1)) 0]
      · rfl
      · exact absurd hm ((addOk_spec h).2 _ (by simp))
    rw [show aErr (ordT l k) [l.getD (l.length - (k + 1)) 0] = 12 from by unfold aErr; rw [e]; rfl]
    have : ¬ (l.getD (l.length - (k + 1)) 0 :: l.drop (l.length - k)).Nodup := fun h => (List.nodup_cons.1 h).1 ((h2 _).1 hm)
    rw [decide_eq_false this]; rfl
  · have e : addOk (ordT l k) [l.getD (l.length - (k + 1)) 0] = true := addOk_mk (by simp) (fun y hy => by rw [List.mem_singleton] at hy; subst hy; exact hm)
    rw [show aErr (ordT l k) [l.getD (l.length - (k + 1)) 0] = 0 from by unfold aErr; rw [e]; rfl]
    have : (l.getD (l.length - (k + 1)) 0 :: l.drop (l.length - k)).Nodup ↔ (l.drop (l.length - k)).Nodup := by
      rw [List.nodup_cons]; exact ⟨And.right, fun h => ⟨fun hh => hm ((h2 _).2 hh), h⟩⟩
    by_cases hB : (l.drop (l.length - k)).Nodup
    · rw [decide_eq_true hB, decide_eq_true (this.2 hB)]; rfl
    · rw [decide_eq_false hB, decide_eq_false (fun h => hB (this.1 h))]; rfl
theorem ordT_len (l : List Nat) : ∀ k, (ordT l k).length ≤ k
  | 0 => by simp [ordT]
  | k + 1 => by
    have := ordT_len l k
    have h2 := aRes_len (ordT l k) [l.getD (l.length - (k + 1)) 0]
    show (aRes _ _).length ≤ _
    rw [List.length_singleton] at h2; omega
def OrRel (l : List Nat) (w : World) (pt bt : Nat) (v6 v7 : Value) (wr : World) : Prop :=
  ∃ k : Nat, k ≤ l.length ∧ v7 = .int .i64 ((l.length : Int) - (k : Int) - 1) ∧ v6 = .bool (ordB l k) ∧ St wr pt bt (ordT l k) ∧ But bt w wr
theorem addOk_nilL (l : List Nat) : addOk [] l = decide l.Nodup := by
  unfold addOk anyc dupl
  rw [List.any_eq_false.2 (by simp)]; simp

set_option maxRecDepth 100000 in
set_option maxHeartbeats 8000000 in
theorem MarksetOrder_w (l : List Nat) (ax : Option Addr) (cx : Nat) (w : World) (hax : Rd w ax l) (hxl : l.length ≤ 9223372036854775807) (hxb : ∀ x ∈ l, x < 18446744073709551616) :
    Calls Try.prog 4 #[.slice ax l.length cx] w fun e w' => e = .returned (.bool true) ∧ Ext w w' := by
  have HAX := Lib.hid hax
  have HXB := Lib.hid hxb
  clear hax hxb
  by_cases h60 : l.length ≤ 60
  case neg =>
    have t1 : decide ((60 : Int) < (l.length : Int)) = true := decide_eq_true (by omega)
    go_enter Try.func4, Try.ntmps4
    go_wp2_with fail
    refine (awake38_c _).mono ?_; rintro e w1 ⟨rfl, x1⟩
    go_wp2_with fail
    go_ret
    exact ⟨rfl, x1⟩
  have t1 : decide ((60 : Int) < (l.length : Int)) = false := decide_eq_false (by omega)
  have OC := Lib.hid (fun w' (h : Rd w' ax l) => own38_c l ax cx w' h (by omega))
  have AC := fun w' a' c' ps b (h1 : St w' ps b []) (h2 : Rd w' a' l) => Add_c [] l a' c' ps b w' h1 h2 (by omega) (by simp) HXB.out
  have TC := Lib.hid (fun w' k (hk : k < l.length) g ps b (h1 : St w' ps b (ordT l k)) (h2 : w'.cell? ⟨g, 0, none⟩ = some (.int .u64 ((l.getD (l.length - (k + 1)) 0 : Nat) : Int))) => (show Calls Try.prog 16 #[.pointer (some ⟨ps, 0, none⟩), .slice (some ⟨g, 0, none⟩) 1 1] w' (AdPost w' ps b (ordT l (k + 1)) (aErr (ordT l k) [l.getD (l.length - (k + 1)) 0])) from
    Add_c (ordT l k) [l.getD (l.length - (k + 1)) 0] (some ⟨g, 0, none⟩) 1 ps b w' h1 (Rd.one h2) (by simp) (by have := ordT_len l k; omega) (by intro x hx; rw [List.mem_singleton] at hx; subst hx; exact HXB.out _ (getD_mem (by omega)))))
  have ENDS := ordT_spec l l.length (Nat.le_refl _)
  rw [Nat.sub_self, List.drop_zero] at ENDS
  have hEB : ordB l l.length = !decide l.Nodup := by unfold ordB; rw [Nat.sub_self, List.drop_zero]
  have HENDS := Lib.hid ENDS
  have HEB := Lib.hid hEB
  clear ENDS hEB
  by_cases hn : l.Nodup
  case neg =>
    have hA : addOk [] l = false := by rw [addOk_nilL]; simp [hn]
    rw [show aRes [] l = [] from by unfold aRes; rw [hA]; rfl, show aErr [] l = 12 from by unfold aErr; rw [hA]; rfl] at AC
    have HAC := Lib.hid AC
    have HND : Hid ((!decide l.Nodup) = true) := Lib.hid (by simp [hn])
    have LC := Lib.hid (fun w' ps b (h : St w' ps b []) => Len_c [] ps b w' h)
    clear AC hn hA
    go_enter Try.func4, Try.ntmps4
    go_wp2_with fail
    refine (awake38_c _).mono ?_; rintro e w1 ⟨rfl, x1⟩
    have X1 := Lib.hid x1
    clear x1
    go_wp2_with fail
    refine (New_c _).mono ?_; rintro e w2 ⟨ps, b, rfl, s2, hps, hb, x2⟩
    have S2 := Lib.hid s2
    have X2 := Lib.hid (X1.out.trans x2)
    have hbw : w.heap.size ≤ b := Nat.le_trans X1.out.size hb
    have hpsw : w.heap.size ≤ ps := Nat.le_trans X1.out.size hps
    clear s2 x2 hb hps
    go_wp2_with fail
    refine (New_c _).mono ?_; rintro e w3 ⟨pt, bt, rfl, s3, hpt, hbt, x3⟩
    have T3 := Lib.hid s3
    have S3 := Lib.hid (S2.out.ext x3)
    have X3 := Lib.hid (X2.out.trans x3)
    have nbb : bt ≠ b := fun e => by have := S2.out.map.lt; omega
    have npb : bt ≠ ps := fun e => by have := World.block_lt_of_cell? w2 ⟨ps, 0, none⟩ S2.out.cell; simp at this; omega
    have ntb : pt ≠ b := fun e => by have := S2.out.map.lt; omega
    have hbtw : w.heap.size ≤ bt := Nat.le_trans X2.out.size hbt
    have NBB := Lib.hid nbb
    have NPB := Lib.hid npb
    have NTB := Lib.hid ntb
    clear s3 x3 hpt hbt nbb npb ntb
    go_wp2_with fail
    refine (OC.out _ (HAX.out.ext X3.out)).mono ?_; rintro e w4 ⟨v4, rfl, o4, x4⟩
    obtain ⟨a4, c4, rfl, _, _, r4⟩ := o4.form
    have S4 := Lib.hid (S3.out.ext x4)
    have T4 := Lib.hid (T3.out.ext x4)
    have X4 := Lib.hid (X3.out.trans x4)
    have R4 := Lib.hid r4
    clear x4 o4 r4
    go_wp2_with fail
    refine (HAC.out _ _ _ _ _ S4.out R4.out).mono ?_; rintro e w5 ⟨rfl, s5, b5⟩
    have S5 := Lib.hid s5
    have T5 : Hid (St w5 pt bt []) := Lib.hid ⟨b5.cell T4.out.cell NTB.out, T4.out.map.but b5 NBB.out⟩
    have X5 := Lib.hid (b5.ext X4.out hbw)
    clear s5 b5
    go_wp2_with fail
    go_loopw [6, 7] (OrRel l w5 pt bt) (fun _ i _ => (intOf i + 1).toNat)
    case atStart => exact ⟨0, Nat.zero_le _, by simp, by simp [ordB], T5.out, But.refl _ _⟩
    case round =>
      obtain ⟨k, hk, rfl, rfl, ht, hbu⟩ := hrel
      have HT := Lib.hid ht
      have HBU := Lib.hid hbu
      have HXW := Lib.hid (hbu.ext X5.out hbtw)
      clear ht hbu
      by_cases hlt : k < l.length
      · obtain ⟨i, hi⟩ : ∃ i, i = l.length - (k + 1) := ⟨_, rfl⟩
        have ei : (l.length : Int) - (k : Int) - 1 = (i : Int) := by omega
        have hil : i < l.length := by omega
        obtain ⟨ga, oa, rfl, hca⟩ := HAX.out.at (by omega)
        have cj := HXW.out.cell (hca i hil)
        have TK := Lib.hid (fun w' => TC.out w' k hlt)
        have OS := Lib.hid (ord_step l k hlt)
        rw [← hi] at TK OS
        obtain ⟨y, hy⟩ : ∃ y, y = l.getD i 0 := ⟨_, rfl⟩
        rw [← hy] at cj TK OS
        obtain ⟨er, her⟩ : ∃ er, er = aErr (ordT l k) [y] := ⟨_, rfl⟩
        rw [← her] at TK OS
        obtain ⟨OB, hOB⟩ : ∃ OB, OB = ordB l k := ⟨_, rfl⟩
        rw [← hOB] at OS
        have HEI := Lib.hid ei
        rw [← hOB, ei]
        clear hca hy her hOB ei hi
        go_wp2_with fail
        have e6 := (Ext.refl wr).alloc (.cells #[.int .u64 (y : Int)] 23)
        refine (TK.out _ _ _ _ (HT.out.ext e6) (cnew _ _ _ _ _ rfl)).mono ?_; rintro e w6 ⟨rfl, s6, b6⟩
        have S6 := Lib.hid s6
        have B6 := Lib.hid (HBU.out.trans ((e6.but bt).trans b6))
        clear s6 b6 e6
        cases hq : (er == 0)
        case false =>
          have O2 : Hid (ordB l (k + 1) = true) := Lib.hid (by rw [OS.out, hq]; rfl)
          have t3 : (er != 0) = true := by simp [bne, hq]
          go_wp2_with fail
          go_roundw
          case rel => exact ⟨k + 1, by omega, by have := HEI.out; go_num, by rw [O2.out], S6.out, B6.out⟩
          case measure => simp [intOf] <;> omega
        case true =>
          have O2 : Hid (ordB l (k + 1) = OB) := Lib.hid (by rw [OS.out, hq]; rfl)
          have t3 : (er != 0) = false := by simp [bne, hq]
          go_wp2_with fail
          go_roundw
          case rel => exact ⟨k + 1, by omega, by have := HEI.out; go_num, by rw [O2.out], S6.out, B6.out⟩
          case measure => simp [intOf] <;> omega
      · obtain rfl : k = l.length := by omega
        have S6 : Hid (St wr ps b []) := Lib.hid ⟨HBU.out.cell S5.out.cell (fun e => NPB.out e.symm), S5.out.map.but HBU.out (fun e => NBB.out e.symm)⟩
        rw [HEB.out, HND.out]
        go_wp2_with fail
        refine (LC.out _ _ _ S6.out).mono ?_; rintro e w7 ⟨rfl, x7⟩
        go_wp2_with fail
        go_ret
        exact ⟨rfl, HXW.out.trans x7⟩
  have hA : addOk [] l = true := by rw [addOk_nilL]; simp [hn]
  rw [show aRes [] l = l from by unfold aRes; rw [hA]; rfl, show aErr [] l = 0 from by unfold aErr; rw [hA]; rfl] at AC
  have HAC := Lib.hid AC
  have HND : Hid ((!decide l.Nodup) = false) := Lib.hid (by simp [hn])
  have LL := Lib.hid (fun w' ps b (h : St w' ps b l) => List_c l ps b w' h hn (by omega))
  have hq : srt (ordT l l.length) = srt l := by
    refine List.Perm.eq_of_pairwise (le := (· ≤ ·)) (fun a b _ _ h1 h2 => Nat.le_antisymm h1 h2) (srt_sorted _) (srt_sorted _) ((srt_perm _).trans (List.Perm.trans ?_ (srt_perm l).symm))
    exact List.perm_iff_count.2 fun x => by rw [HENDS.out.1.count, hn.count]; simp only [HENDS.out.2]
  have LT := fun w' ps b (h : St w' ps b (ordT l l.length)) => List_c (ordT l l.length) ps b w' h HENDS.out.1 (by have := ordT_len l l.length; omega)
  rw [hq] at LT
  have HLT := Lib.hid LT
  clear AC hn hA hq LT
  go_enter Try.func4, Try.ntmps4
  go_wp2_with fail
  refine (awake38_c _).mono ?_; rintro e w1 ⟨rfl, x1⟩
  have X1 := Lib.hid x1
  clear x1
  go_wp2_with fail
  refine (New_c _).mono ?_; rintro e w2 ⟨ps, b, rfl, s2, hps, hb, x2⟩
  have S2 := Lib.hid s2
  have X2 := Lib.hid (X1.out.trans x2)
  have hbw : w.heap.size ≤ b := Nat.le_trans X1.out.size hb
  have hpsw : w.heap.size ≤ ps := Nat.le_trans X1.out.size hps
  clear s2 x2 hb hps
  go_wp2_with fail
  refine (New_c _).mono ?_; rintro e w3 ⟨pt, bt, rfl, s3, hpt, hbt, x3⟩
  have T3 := Lib.hid s3
  have S3 := Lib.hid (S2.out.ext x3)
  have X3 := Lib.hid (X2.out.trans x3)
  have nbb : bt ≠ b := fun e => by have := S2.out.map.lt; omega
  have npb : bt ≠ ps := fun e => by have := World.block_lt_of_cell? w2 ⟨ps, 0, none⟩ S2.out.cell; simp at this; omega
  have ntb : pt ≠ b := fun e => by have := S2.out.map.lt; omega
  have hbtw : w.heap.size ≤ bt := Nat.le_trans X2.out.size hbt
  have NBB := Lib.hid nbb
  have NPB := Lib.hid npb
  have NTB := Lib.hid ntb
  clear s3 x3 hpt hbt nbb npb ntb
  go_wp2_with fail
  refine (OC.out _ (HAX.out.ext X3.out)).mono ?_; rintro e w4 ⟨v4, rfl, o4, x4⟩
  obtain ⟨a4, c4, rfl, _, _, r4⟩ := o4.form
  have S4 := Lib.hid (S3.out.ext x4)
  have T4 := Lib.hid (T3.out.ext x4)
  have X4 := Lib.hid (X3.out.trans x4)
  have R4 := Lib.hid r4
  clear x4 o4 r4
  go_wp2_with fail
  refine (HAC.out _ _ _ _ _ S4.out R4.out).mono ?_; rintro e w5 ⟨rfl, s5, b5⟩
  have S5 := Lib.hid s5
  have T5 : Hid (St w5 pt bt []) := Lib.hid ⟨b5.cell T4.out.cell NTB.out, T4.out.map.but b5 NBB.out⟩
  have X5 := Lib.hid (b5.ext X4.out hbw)
  clear s5 b5
  go_wp2_with fail
  go_loopw [6, 7] (OrRel l w5 pt bt) (fun _ i _ => (intOf i + 1).toNat)
  case atStart => exact ⟨0, Nat.zero_le _, by simp, by simp [ordB], T5.out, But.refl _ _⟩
  case round =>
    obtain ⟨k, hk, rfl, rfl, ht, hbu⟩ := hrel
    have HT := Lib.hid ht
    have HBU := Lib.hid hbu
    have HXW := Lib.hid (hbu.ext X5.out hbtw)
    clear ht hbu
    by_cases hlt : k < l.length
    · obtain ⟨i, hi⟩ : ∃ i, i = l.length - (k + 1) := ⟨_, rfl⟩
      have ei : (l.length : Int) - (k : Int) - 1 = (i : Int) := by omega
      have hil : i < l.length := by omega
      obtain ⟨ga, oa, rfl, hca⟩ := HAX.out.at (by omega)
      have cj := HXW.out.cell (hca i hil)
      have TK := Lib.hid (fun w' => TC.out w' k hlt)
      have OS := Lib.hid (ord_step l k hlt)
      rw [← hi] at TK OS
      obtain ⟨y, hy⟩ : ∃ y, y = l.getD i 0 := ⟨_, rfl⟩
      rw [← hy] at cj TK OS
      obtain ⟨er, her⟩ : ∃ er, er = aErr (ordT l k) [y] := ⟨_, rfl⟩
      rw [← her] at TK OS
      obtain ⟨OB, hOB⟩ : ∃ OB, OB = ordB l k := ⟨_, rfl⟩
      rw [← hOB] at OS
      have HEI := Lib.hid ei
      rw [← hOB, ei]
      clear hca hy her hOB ei hi
      go_wp2_with fail
      have e6 := (Ext.refl wr).alloc (.cells #[.int .u64 (y : Int)] 23)
      refine (TK.out _ _ _ _ (HT.out.ext e6) (cnew _ _ _ _ _ rfl)).mono ?_; rintro e w6 ⟨rfl, s6, b6⟩
      have S6 := Lib.hid s6
      have B6 := Lib.hid (HBU.out.trans ((e6.but bt).trans b6))
      clear s6 b6 e6
      cases hq : (er == 0)
      case false =>
        have O2 : Hid (ordB l (k + 1) = true) := Lib.hid (by rw [OS.out, hq]; rfl)
        have t3 : (er != 0) = true := by simp [bne, hq]
        go_wp2_with fail
        go_roundw
        case rel => exact ⟨k + 1, by omega, by have := HEI.out; go_num, by rw [O2.out], S6.out, B6.out⟩
        case measure => simp [intOf] <;> omega
      case true =>
        have O2 : Hid (ordB l (k + 1) = OB) := Lib.hid (by rw [OS.out, hq]; rfl)
        have t3 : (er != 0) = false := by simp [bne, hq]
        go_wp2_with fail
        go_roundw
        case rel => exact ⟨k + 1, by omega, by have := HEI.out; go_num, by rw [O2.out], S6.out, B6.out⟩
        case measure => simp [intOf] <;> omega
    · obtain rfl : k = l.length := by omega
      have S6 : Hid (St wr ps b l) := Lib.hid ⟨HBU.out.cell S5.out.cell (fun e => NPB.out e.symm), S5.out.map.but HBU.out (fun e => NBB.out e.symm)⟩
      rw [HEB.out, HND.out]
      go_wp2_with fail
      refine (LL.out _ _ _ S6.out).mono ?_; rintro e w7 ⟨v7, rfl, o7, x7⟩
      obtain ⟨a7, c7, rfl, _, _, r7⟩ := o7.form
      have R7 := Lib.hid r7
      have T7 := Lib.hid (HT.out.ext x7)
      have X7 := Lib.hid (HXW.out.trans x7)
      clear o7 x7 r7
      go_wp2_with fail
      refine (HLT.out _ _ _ T7.out).mono ?_; rintro e w8 ⟨v8, rfl, o8, x8⟩
      obtain ⟨a8, c8, rfl, _, _, r8⟩ := o8.form
      have R8 := Lib.hid r8
      have R7' := Lib.hid (R7.out.ext x8)
      have X8 := Lib.hid (X7.out.trans x8)
      clear o8 x8 r8
      go_wp2_with fail
      refine (Same_c (srt l) _ _ _ _ _ R7'.out R8.out (by rw [srt_len]; omega)).mono ?_; rintro e w9 ⟨rfl, x9⟩
      go_wp2_with fail
      go_ret
      exact ⟨rfl, X8.out.trans x9⟩
end Go.Proofs.Yteomgccpocgffaa
