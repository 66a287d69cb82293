/- Contracts of the document's markset: Has, put, Add, Remove. -/
import Derived.Test.YteomgccpocgffaaMk3
namespace Go.Proofs.Yteomgccpocgffaa
open Go.RowKit

def HsRel (l : List Nat) (x : Nat) (w : World) (s : Value) (wr : World) : Prop := ∃ j : Nat, s = .int .i64 j ∧ j ≤ l.length ∧ (∀ i, i < j → l.getD i 0 ≠ x) ∧ Ext w wr
set_option maxRecDepth 100000 in
set_option maxHeartbeats 2000000 in
theorem RHas_c (l : List Nat) (x : Nat) (a : Option Addr) (c : Nat) (w : World) (ha : Rd w a l) (hl : l.length ≤ 1000000) :
    Calls Try.prog 14 #[.slice a l.length c, .int .u64 (x : Int)] w fun e w' => e = .returned (.bool (decide (x ∈ l))) ∧ Ext w w' := by
  have HA := Lib.hid ha
  clear ha
  go_enter Try.func14, Try.ntmps14
  go_wp2_with fail
  go_loopw [5] (HsRel l x w) (fun i _ => l.length - (intOf i).toNat)
  case atStart => exact ⟨0, rfl, Nat.zero_le _, fun i hi => absurd hi (by omega), Ext.refl _⟩
  case round =>
    obtain ⟨j, rfl, hj, hall, hx⟩ := hrel
    have HALL := Lib.hid hall
    have HX := Lib.hid hx
    clear hall
    by_cases hlt : j < l.length
    · obtain ⟨ga, oa, rfl, hca⟩ := HA.out.at (by omega)
      have cj := hx.cell (hca j hlt)
      by_cases hq : l.getD j 0 = x
      · have E : Hid (decide (x ∈ l) = true) := Lib.hid (by rw [decide_eq_true_eq, ← hq]; exact getD_mem hlt)
        rw [hq] at cj
        have t1 : ((x : Int) == (x : Int)) = true := by simp
        clear hca hx hq
        go_wp2_with fail
        go_ret
        exact ⟨by rw [E.out]; rfl, HX.out⟩
      · have A2 : Hid (∀ i, i < j + 1 → l.getD i 0 ≠ x) := Lib.hid (fun i hi => by
          by_cases e : i = j
          · subst e; exact hq
          · exact HALL.out i (by omega))
        obtain ⟨y, hy⟩ : ∃ y, y = l.getD j 0 := ⟨_, rfl⟩
        rw [← hy] at cj hq
        have t1 : ((y : Int) == (x : Int)) = false := beq_eq_false_iff_ne.2 (by omega)
        clear hca hx hy hq
        go_wp2_with fail
        go_roundw
        case rel => exact ⟨j + 1, by go_num, by omega, A2.out, HX.out⟩
        case measure => simp [intOf]; omega
    · have E : Hid (decide (x ∈ l) = false) := Lib.hid (by
        rw [decide_eq_false_iff_not]
        intro h
        obtain ⟨i, hi, he⟩ := getD_of_mem h
        exact HALL.out i (by omega) he)
      clear hx
      go_wp2_with fail
      go_ret
      exact ⟨by rw [E.out]; rfl, HX.out⟩

def loL (l : List Nat) (x : Nat) : List Nat := l.filter fun y => decide (y < x)
def hiL (l : List Nat) (x : Nat) : List Nat := l.filter fun y => decide (x < y)
def putL (l : List Nat) (x : Nat) : List Nat := loL l x ++ [x] ++ hiL l x
def Pt1Rel (l : List Nat) (x : Nat) (w : World) (v s : Value) (wr : World) : Prop := ∃ j : Nat, s = .int .i64 j ∧ j ≤ l.length ∧ Own wr w.heap.size v (loL (l.take j) x) ∧ Ext w wr
def Pt2Rel (l : List Nat) (x : Nat) (w : World) (v s : Value) (wr : World) : Prop := ∃ j : Nat, s = .int .i64 j ∧ j ≤ l.length ∧ Own wr w.heap.size v (loL l x ++ [x] ++ hiL (l.take j) x) ∧ Ext w wr
theorem filter_snoc (p : Nat → Bool) (l : List Nat) (j : Nat) (h : j < l.length) : (l.take (j + 1)).filter p = (l.take j).filter p ++ if p (l.getD j 0) then [l.getD j 0] else [] := by
  rw [take_snoc l j h, List.filter_append]
  congr 1
  by_cases hp : p (l.getD j 0) = true
  · rw [if_pos hp, List.filter_cons_of_pos hp]; rfl
  · rw [if_neg hp, List.filter_cons_of_neg hp]; rfl
theorem loL_len (l : List Nat) (x : Nat) : (loL l x).length ≤ l.length := List.length_filter_le _ _
theorem hiL_len (l : List Nat) (x : Nat) : (hiL l x).length ≤ l.length := List.length_filter_le _ _

set_option maxRecDepth 100000 in
set_option maxHeartbeats 4000000 in
theorem put_c (l : List Nat) (x : Nat) (a : Option Addr) (c : Nat) (w : World) (ha : Rd w a l) (hl : l.length ≤ 1000000) :
    Calls Try.prog 28 #[.slice a l.length c, .int .u64 (x : Int)] w (SlPost w (putL l x)) := by
  have HA := Lib.hid ha
  clear ha
  go_enter Try.func28, Try.ntmps28
  go_wp2_with fail
  go_loopw [5, 6] (Pt1Rel l x w) (fun _ i _ => l.length - (intOf i).toNat)
  case atStart => exact ⟨0, rfl, Nat.zero_le _, by rw [List.take_zero]; exact Own.nil _ _, Ext.refl _⟩
  case round =>
    obtain ⟨j, rfl, hj, ho, hx⟩ := hrel
    have HO := Lib.hid ho
    have HX := Lib.hid hx
    have hln := loL_len (l.take j) x
    rw [List.length_take] at hln
    clear ho
    by_cases hlt : j < l.length
    · obtain ⟨ga, oa, rfl, hca⟩ := HA.out.at (by omega)
      have cj := hx.cell (hca j hlt)
      have hf : Hid (loL (l.take (j + 1)) x = loL (l.take j) x ++ if decide (l.getD j 0 < x) then [l.getD j 0] else []) := Lib.hid (filter_snoc _ l j hlt)
      obtain ⟨y, hy⟩ : ∃ y, y = l.getD j 0 := ⟨_, rfl⟩
      rw [← hy] at cj hf
      by_cases hq : y < x
      · have hf2 : Hid (loL (l.take (j + 1)) x = loL (l.take j) x ++ [y]) := Lib.hid (by rw [hf.out, decide_eq_true hq]; rfl)
        have he := (Ext.refl wr).alloc (.cells #[.int .u64 (y : Int)] 23)
        have hg1 : (wr.alloc (.cells #[.int .u64 (y : Int)] 23)).cell? ⟨wr.heap.size, 0, none⟩ = some (.int .u64 (y : Nat)) := by simp
        have HE := Lib.hid he
        clear hca hy hf hx he
        go_wp2_with (at_builtin; refine wpList_app1 rfl (.tmp 20) (.tmp 25) rfl w.heap.size _ _ rfl (HO.out.grow HE.out) wr.heap.size y 1 rfl hg1 (by omega) (HX.out.trans HE.out).size ?_; intro v' w3 hown3 hx3 _)
        go_roundw
        case rel => exact ⟨j + 1, by go_num, by omega, by rw [hf2.out]; exact hown3, hx3 _ (HX.out.trans HE.out) (Nat.le_refl _)⟩
        case measure => simp [intOf]; omega
      · have hf2 : Hid (loL (l.take (j + 1)) x = loL (l.take j) x) := Lib.hid (by rw [hf.out, decide_eq_false hq]; simp)
        clear hca hy hf hx
        go_wp2_with fail
        go_roundw
        case rel => exact ⟨j + 1, by go_num, by omega, by rw [hf2.out]; exact HO.out, HX.out⟩
        case measure => simp [intOf]; omega
    · have HO2 : Hid (Own wr w.heap.size u5 (loL l x)) := Lib.hid (by have := HO.out; rw [List.take_of_length_le (by omega)] at this; exact this)
      have hln2 := loL_len l x
      have he := (Ext.refl wr).alloc (.cells #[.int .u64 (x : Int)] 23)
      have hg1 : (wr.alloc (.cells #[.int .u64 (x : Int)] 23)).cell? ⟨wr.heap.size, 0, none⟩ = some (.int .u64 (x : Nat)) := by simp
      have HE := Lib.hid he
      clear hx he HO hln
      go_wp2_with (at_builtin; refine wpList_app1 rfl (.tmp 27) (.tmp 29) rfl w.heap.size _ _ rfl (HO2.out.grow HE.out) wr.heap.size x 1 rfl hg1 (by omega) (HX.out.trans HE.out).size ?_; intro v' w3 hown3 hx3 _)
      have HO3 := Lib.hid hown3
      have HX3 := Lib.hid (hx3 _ (HX.out.trans HE.out) (Nat.le_refl _))
      clear hown3 hx3 hg1
      go_loopw [5, 7] (Pt2Rel l x w) (fun _ i _ => l.length - (intOf i).toNat)
      case atStart => exact ⟨0, rfl, Nat.zero_le _, by rw [List.take_zero]; simpa [hiL] using HO3.out, HX3.out⟩
      case round =>
        obtain ⟨j, rfl, hj, ho, hx⟩ := hrel
        have HO := Lib.hid ho
        have HX := Lib.hid hx
        have hln := hiL_len (l.take j) x
        rw [List.length_take] at hln
        clear ho
        by_cases hlt : j < l.length
        · obtain ⟨ga, oa, rfl, hca⟩ := HA.out.at (by omega)
          have cj := hx.cell (hca j hlt)
          have hf : Hid (hiL (l.take (j + 1)) x = hiL (l.take j) x ++ if decide (x < l.getD j 0) then [l.getD j 0] else []) := Lib.hid (filter_snoc _ l j hlt)
          obtain ⟨y, hy⟩ : ∃ y, y = l.getD j 0 := ⟨_, rfl⟩
          rw [← hy] at cj hf
          by_cases hq : x < y
          · have hf2 : Hid (loL l x ++ [x] ++ hiL (l.take (j + 1)) x = loL l x ++ [x] ++ hiL (l.take j) x ++ [y]) := Lib.hid (by rw [hf.out, decide_eq_true hq]; simp)
            have he := (Ext.refl wr).alloc (.cells #[.int .u64 (y : Int)] 23)
            have hg1 : (wr.alloc (.cells #[.int .u64 (y : Int)] 23)).cell? ⟨wr.heap.size, 0, none⟩ = some (.int .u64 (y : Nat)) := by simp
            have HE := Lib.hid he
            clear hca hy hf hx he
            go_wp2_with (at_builtin; refine wpList_app1 rfl (.tmp 43) (.tmp 48) rfl w.heap.size _ _ rfl (HO.out.grow HE.out) wr.heap.size y 1 rfl hg1 (by simp; omega) (HX.out.trans HE.out).size ?_; intro v' w3 hown3 hx3 _)
            go_roundw
            case rel => exact ⟨j + 1, by go_num, by omega, by rw [hf2.out]; exact hown3, hx3 _ (HX.out.trans HE.out) (Nat.le_refl _)⟩
            case measure => simp [intOf]; omega
          · have hf2 : Hid (hiL (l.take (j + 1)) x = hiL (l.take j) x) := Lib.hid (by rw [hf.out, decide_eq_false hq]; simp)
            clear hca hy hf hx
            go_wp2_with fail
            go_roundw
            case rel => exact ⟨j + 1, by go_num, by omega, by rw [hf2.out]; exact HO.out, HX.out⟩
            case measure => simp [intOf]; omega
        · have HO2 : Hid (Own wr w.heap.size u5 (putL l x)) := Lib.hid (by have := HO.out; rw [List.take_of_length_le (by omega)] at this; exact this)
          clear hx
          go_wp2_with fail
          go_ret
          exact ⟨_, rfl, HO2.out, HX.out⟩

/-- Strictly ascending. -/
def Asc (l : List Nat) : Prop := l.Pairwise (· < ·)
theorem Asc.nodup {l : List Nat} (h : Asc l) : l.Nodup := List.Pairwise.imp (fun h => Nat.ne_of_lt h) h
theorem Asc.srt {l : List Nat} (h : Asc l) : srt l = l :=
  List.Perm.eq_of_pairwise (le := (· ≤ ·)) (fun _a _b _ _ h1 h2 => Nat.le_antisymm h1 h2) (srt_sorted l) (List.Pairwise.imp (fun h => Nat.le_of_lt h) h) (srt_perm l)
theorem asc_srt {l : List Nat} (h : l.Nodup) : Asc (srt l) := by
  have h1 := srt_sorted l
  have h2 : (srt l).Nodup := (srt_perm l).nodup_iff.2 h
  unfold Asc
  rw [List.nodup_iff_pairwise_ne] at h2
  exact List.Pairwise.imp₂ (fun a b h1 h2 => Nat.lt_of_le_of_ne h1 h2) h1 h2
theorem putL_srt {s : List Nat} {x : Nat} (h : (s ++ [x]).Nodup) : putL (srt s) x = srt (s ++ [x]) := by
  rw [List.nodup_append] at h
  have hx : x ∉ s := fun hm => h.2.2 x hm x (by simp) rfl
  have hp : (putL (srt s) x).Perm (s ++ [x]) := by
    unfold putL
    have e1 : hiL (srt s) x = (srt s).filter (fun y => !decide (y < x)) := List.filter_congr fun y hy => by
      have hy2 : y ≠ x := fun e => hx (by subst e; exact (srt_perm s).mem_iff.1 hy)
      by_cases hyx : y < x
      · simp [hyx]; omega
      · simp [hyx]; omega
    rw [e1]
    refine List.Perm.trans (l₂ := (loL (srt s) x ++ (srt s).filter (fun y => !decide (y < x))) ++ [x]) ?_ ?_
    · rw [List.append_assoc, List.append_assoc]
      exact List.Perm.append_left _ List.perm_append_comm
    · exact List.Perm.append_right _ ((List.filter_append_perm _ _).trans (srt_perm s))
  refine List.Perm.eq_of_pairwise (le := (· ≤ ·)) (fun a b _ _ h1 h2 => Nat.le_antisymm h1 h2) ?_ (srt_sorted _) (hp.trans (srt_perm _).symm)
  unfold putL
  rw [List.append_assoc, List.pairwise_append]
  refine ⟨List.Pairwise.sublist List.filter_sublist (srt_sorted s), ?_, fun a ha b hb => ?_⟩
  · rw [List.singleton_append, List.pairwise_cons]
    exact ⟨fun y hy => by unfold hiL at hy; rw [List.mem_filter] at hy; have := of_decide_eq_true hy.2; omega, List.Pairwise.sublist List.filter_sublist (srt_sorted s)⟩
  · unfold loL at ha
    rw [List.mem_filter] at ha
    have h1 := of_decide_eq_true ha.2
    rcases List.mem_append.1 hb with h2 | h2
    · rw [List.mem_singleton] at h2; omega
    · unfold hiL at h2
      rw [List.mem_filter] at h2
      have := of_decide_eq_true h2.2
      omega

def RpPost (w : World) (l : List Nat) (n : Int) (e : Ending) (w' : World) : Prop := ∃ a c, e = .returned (.tuple #[.slice a l.length c, .int .i64 n]) ∧ Rd w' a l ∧ Ext w w'
def RaRel (s l : List Nat) (w : World) (v i : Value) (wr : World) : Prop :=
  ∃ (j : Nat) (a : Option Addr) (n c : Nat), i = .int .i64 j ∧ j ≤ l.length ∧ (s ++ l.take j).Nodup ∧ v = .slice a n c ∧ n = (srt (s ++ l.take j)).length ∧ Rd wr a (srt (s ++ l.take j)) ∧ Ext w wr
theorem addOk_mk {m l : List Nat} (h1 : l.Nodup) (h2 : ∀ x ∈ l, x ∉ m) : addOk m l = true := by
  unfold addOk anyc dupl
  simp only [Bool.not_eq_true', Bool.or_eq_false_iff, List.any_eq_false, Bool.not_eq_false', decide_eq_true_eq, beq_true]
  exact ⟨fun x hx => by simpa using h2 x hx, h1⟩
theorem addOk_iff {m l : List Nat} (hm : m.Nodup) : addOk m l = true ↔ (m ++ l).Nodup := by
  rw [List.nodup_append]
  constructor
  · intro h
    obtain ⟨h1, h2⟩ := addOk_spec h
    exact ⟨hm, h1, fun a ha b hb e => h2 b hb (e ▸ ha)⟩
  · rintro ⟨_, h1, h2⟩
    exact addOk_mk h1 fun x hx hmx => h2 x hmx x hx rfl

set_option maxRecDepth 100000 in
set_option maxHeartbeats 4000000 in
theorem RAdd38_c (s l : List Nat) (a b : Option Addr) (c d : Nat) (w : World) (hs : Asc s) (ha : Rd w a s) (hb : Rd w b l) (hl : l.length ≤ 100000) (hsl : s.length ≤ 100000) :
    Calls Try.prog 23 #[.slice a s.length c, .slice b l.length d] w (RpPost w (srt (aRes s l)) (aErr s l)) := by
  have HA := Lib.hid ha
  have HB := Lib.hid hb
  have HS := Lib.hid hs
  clear ha hb hs
  go_enter Try.func23, Try.ntmps23
  go_wp2_with fail
  go_loopw [6, 7] (RaRel s l w) (fun _ i _ => l.length - (intOf i).toNat)
  case atStart => exact ⟨0, a, s.length, c, rfl, Nat.zero_le _, by rw [List.take_zero, List.append_nil]; exact HS.out.nodup, rfl, by rw [srt_len]; simp, by rw [List.take_zero, List.append_nil, HS.out.srt]; exact HA.out, Ext.refl _⟩
  case round =>
    obtain ⟨j, a1, n1, c1, rfl, hj, hn, rfl, hn1, hr, hx⟩ := hrel
    have HN := Lib.hid hn
    have HR := Lib.hid hr
    have HX := Lib.hid hx
    have hlen : (srt (s ++ l.take j)).length ≤ 200000 := by rw [srt_len, List.length_append, List.length_take]; omega
    have HC := Lib.hid (fun w' x (h : Rd w' a1 (srt (s ++ l.take j))) => RHas_c (srt (s ++ l.take j)) x a1 c1 w' h (by omega))
    have PC := Lib.hid (fun w' x (h : Rd w' a1 (srt (s ++ l.take j))) => put_c (srt (s ++ l.take j)) x a1 c1 w' h (by omega))
    rw [← hn1] at HC PC
    have HN1 := Lib.hid hn1
    clear hn hr hlen hn1
    by_cases hlt : j < l.length
    · obtain ⟨gb, ob, rfl, hcb⟩ := HB.out.at (by omega)
      have cj := hx.cell (hcb j hlt)
      have HCJ := Lib.hid (fun w' (h : Ext wr w') => h.cell cj)
      by_cases hq : l.getD j 0 ∈ srt (s ++ l.take j)
      · have E : Hid (addOk s l = false) := Lib.hid (by
          cases h : addOk s l
          · rfl
          · rw [addOk_iff HS.out.nodup] at h
            have h2 : (s ++ l.take (j + 1)).Nodup := by
              refine List.Nodup.sublist ?_ h
              exact List.Sublist.append_left (List.take_sublist _ _) _
            rw [take_snoc l j hlt, ← List.append_assoc, List.nodup_append] at h2
            exact absurd rfl (h2.2.2 _ ((srt_perm _).mem_iff.1 hq) _ (by simp)))
        have HQ := Lib.hid (decide_eq_true hq)
        obtain ⟨x, hx0⟩ : ∃ x, x = l.getD j 0 := ⟨_, rfl⟩
        rw [← hx0] at cj HQ
        clear hcb hq hx hx0 HCJ PC
        go_wp2_with fail
        refine (HC.out _ _ HR.out).mono ?_; rintro e w1 ⟨rfl, x1⟩; rw [HQ.out]
        go_wp2_with fail
        go_ret2
        refine ⟨a, c, ?_, ?_, HX.out.trans x1⟩
        · unfold aRes aErr; rw [E.out]; simp [srt_len]
        · unfold aRes; rw [E.out]; simp only [Bool.false_eq_true, if_false]; rw [HS.out.srt]; exact HA.out.ext (HX.out.trans x1)
      · have hnd : (s ++ l.take (j + 1)).Nodup := by
          rw [take_snoc l j hlt, ← List.append_assoc, List.nodup_append]
          refine ⟨HN.out, by simp, fun a ha b hb e => ?_⟩
          rw [List.mem_singleton] at hb
          subst hb; subst e
          exact hq ((srt_perm _).mem_iff.2 ha)
        have E : Hid (putL (srt (s ++ l.take j)) (l.getD j 0) = srt (s ++ l.take (j + 1))) := Lib.hid (by
          have h2 := hnd
          rw [take_snoc l j hlt, ← List.append_assoc] at h2 ⊢
          exact putL_srt h2)
        have HND := Lib.hid hnd
        have HQ := Lib.hid (decide_eq_false hq)
        obtain ⟨x, hx0⟩ : ∃ x, x = l.getD j 0 := ⟨_, rfl⟩
        rw [← hx0] at cj HQ E HCJ
        clear hcb hq hx hx0 hnd
        go_wp2_with fail
        refine (HC.out _ _ HR.out).mono ?_; rintro e w1 ⟨rfl, x1⟩; rw [HQ.out]
        have cj1 := HCJ.out _ x1
        have HX1 := Lib.hid x1
        clear x1
        go_wp2_with fail
        refine (PC.out _ _ (HR.out.ext HX1.out)).mono ?_; rintro e w2 ⟨v, rfl, ho, x2⟩
        rw [E.out] at ho
        obtain ⟨a3, c3, hv, _, _, r3⟩ := ho.form
        have HV := Lib.hid hv
        have HR3 := Lib.hid r3
        have HX2 := Lib.hid (HX.out.trans (HX1.out.trans x2))
        clear hv r3 x2 ho
        go_wp2_with fail
        go_roundw
        case rel => exact ⟨j + 1, a3, _, c3, by go_num, by omega, HND.out, HV.out, rfl, HR3.out, HX2.out⟩
        case measure => simp [intOf]; omega
    · have hnl : (s ++ l).Nodup := by have := HN.out; rw [List.take_of_length_le (by omega)] at this; exact this
      have E : Hid (addOk s l = true) := Lib.hid ((addOk_iff HS.out.nodup).2 hnl)
      have HR2 : Hid (Rd wr a1 (srt (s ++ l))) := Lib.hid (by have := HR.out; rw [List.take_of_length_le (by omega)] at this; exact this)
      have HL : Hid (n1 = (srt (s ++ l)).length) := Lib.hid (by have := HN1.out; rw [List.take_of_length_le (by omega)] at this; exact this)
      clear hx hnl
      go_wp2_with fail
      go_ret2
      refine ⟨a1, c1, ?_, ?_, HX.out⟩
      · unfold aRes aErr; rw [E.out, HL.out]; simp
      · unfold aRes; rw [E.out]; simp only [if_true]; exact HR2.out
end Go.Proofs.Yteomgccpocgffaa
