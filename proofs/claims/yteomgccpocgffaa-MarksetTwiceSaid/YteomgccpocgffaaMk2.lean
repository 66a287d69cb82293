/- Contracts of package markset: Has, Len, New, some, repeated, Add, Remove. -/
import Derived.Test.YteomgccpocgffaaMk1
import Derived.Test.YteomgccpocgffaaPlain
namespace Go.Proofs.Yteomgccpocgffaa
open Go.RowKit

theorem getD_mem {l : List Nat} {i : Nat} (h : i < l.length) : l.getD i 0 ∈ l := by
  rw [List.getD_eq_getElem?_getD, List.getElem?_eq_getElem h]; exact List.getElem_mem h
theorem MapS.ne {w : World} {b : Nat} {m : List Nat} (h : MapS w b m) {p : Addr} {v : Value} (hc : w.cell? p = some v) : p.block ≠ b := by
  intro e
  obtain ⟨D, ⟨es, clock, hb, _⟩, _⟩ := h
  subst e
  simp [World.cell?, hb] at hc
theorem MapS.rd {w w' : World} {b : Nat} {m : List Nat} (h : MapS w b m) (hx : But b w w') {a : Option Addr} {l : List Nat} (hr : Rd w a l) : Rd w' a l := by
  rcases hr with h1 | ⟨g, off, ha, hc⟩
  · exact .inl h1
  · exact .inr ⟨g, off, ha, fun i hi => hx.cell (hc i hi) (h.ne (hc i hi))⟩
/-- A set at block ps, whose map is block b, with the marks m. -/
structure St (w : World) (ps b : Nat) (m : List Nat) : Prop where
  cell : w.cell? ⟨ps, 0, none⟩ = some (.map (some b))
  map : MapS w b m
theorem St.ext {w w' : World} {ps b : Nat} {m : List Nat} (h : St w ps b m) (hx : Ext w w') : St w' ps b m := ⟨hx.cell h.cell, h.map.ext hx⟩
theorem St.to {w w' : World} {ps b : Nat} {m m' : List Nat} (h : St w ps b m) (hx : But b w w') (hm : MapS w' b m') : St w' ps b m' := ⟨hx.cell h.cell (h.map.ne h.cell), hm⟩

set_option maxHeartbeats 1000000 in
theorem Has_c (m : List Nat) (x ps b : Nat) (w : World) (hs : St w ps b m) (hx : x < 18446744073709551616) :
    Calls Try.prog 13 #[.pointer (some ⟨ps, 0, none⟩), .int .u64 (x : Int)] w fun e w' => e = .returned (.bool (decide (x ∈ m))) ∧ Ext w w' := by
  have hc := hs.cell
  have hl := hs.map.look hx
  clear hs
  go_enter Try.func13, Try.ntmps13
  go_wp2
  go_ret
  exact ⟨rfl, Ext.refl _⟩

set_option maxHeartbeats 1000000 in
theorem Len_c (m : List Nat) (ps b : Nat) (w : World) (hs : St w ps b m) :
    Calls Try.prog 18 #[.pointer (some ⟨ps, 0, none⟩)] w fun e w' => e = .returned (.int .i64 (m.length : Int)) ∧ Ext w w' := by
  have hc := hs.cell
  have hl := hs.map.len
  clear hs
  go_enter Try.func18, Try.ntmps18
  go_wp2
  go_ret
  exact ⟨rfl, Ext.refl _⟩

def NewPost (w : World) (e : Ending) (w' : World) : Prop := ∃ ps b, e = .returned (.pointer (some ⟨ps, 0, none⟩)) ∧ St w' ps b [] ∧ w.heap.size ≤ ps ∧ w.heap.size ≤ b ∧ Ext w w'
set_option maxHeartbeats 1000000 in
theorem New_c (w : World) : Calls Try.prog 15 #[] w (NewPost w) := by
  have hmm := fun (t : TypeId) (w : World) => run_makeMap (P := Try.prog) t w
  go_enter Try.func15, Try.ntmps15
  go_wp2
  go_ret
  refine ⟨_, w.heap.size, rfl, ⟨?_, (MapS.made w).ext ((Ext.refl _).alloc _)⟩, ?_, Nat.le_refl _, ((Ext.refl _).alloc _).alloc _⟩
  · simp
  · simp

def anyc (m : List Nat) (c : Bool) (l : List Nat) : Bool := l.any fun x => decide (x ∈ m) == c
theorem anyc_true {m l : List Nat} {c : Bool} {i : Nat} (h : i < l.length) (hq : (decide (l.getD i 0 ∈ m) == c) = true) : anyc m c l = true := by
  unfold anyc; rw [List.any_eq_true]; exact ⟨_, getD_mem h, hq⟩
theorem getD_of_mem {l : List Nat} {x : Nat} (h : x ∈ l) : ∃ i, i < l.length ∧ l.getD i 0 = x := by
  obtain ⟨i, hi, rfl⟩ := List.mem_iff_getElem.1 h
  exact ⟨i, hi, by rw [List.getD_eq_getElem?_getD, List.getElem?_eq_getElem hi]; rfl⟩
theorem anyc_false {m l : List Nat} {c : Bool} (h : ∀ i, i < l.length → (decide (l.getD i 0 ∈ m) == c) = false) : anyc m c l = false := by
  unfold anyc; rw [List.any_eq_false]; intro x hx
  obtain ⟨i, hi, rfl⟩ := getD_of_mem hx
  rw [h i hi]; simp
def SmRel (m l : List Nat) (c : Bool) (w : World) (s : Value) (wr : World) : Prop :=
  ∃ j : Nat, s = .int .i64 j ∧ j ≤ l.length ∧ (∀ i, i < j → (decide (l.getD i 0 ∈ m) == c) = false) ∧ Ext w wr

set_option maxRecDepth 100000 in
set_option maxHeartbeats 2000000 in
theorem some_c (m l : List Nat) (cb : Bool) (a : Option Addr) (c ps b : Nat) (w : World) (hs : St w ps b m) (ha : Rd w a l) (hl : l.length ≤ 1000000) (hb : ∀ x ∈ l, x < 18446744073709551616) :
    Calls Try.prog 25 #[.pointer (some ⟨ps, 0, none⟩), .slice a l.length c, .bool cb] w fun e w' => e = .returned (.bool (anyc m cb l)) ∧ Ext w w' := by
  have HA := Lib.hid ha
  have HS := Lib.hid hs
  have HB := Lib.hid hb
  clear ha hs hb
  go_enter Try.func25, Try.ntmps25
  go_wp2_with fail
  go_loopw [11] (SmRel m l cb w) (fun i _ => l.length - (intOf i).toNat)
  case atStart => exact ⟨0, rfl, Nat.zero_le _, fun i hi => absurd hi (by omega), Ext.refl _⟩
  case round =>
    obtain ⟨j, rfl, hj, hall, hx⟩ := hrel
    have hcx := hx.cell HS.out.cell
    have HALL := Lib.hid hall
    have HX := Lib.hid hx
    clear hall
    by_cases hlt : j < l.length
    · obtain ⟨ga, oa, rfl, hca⟩ := HA.out.at (by omega)
      have cj := hx.cell (hca j hlt)
      have look := (HS.out.map.ext hx).look (HB.out _ (getD_mem hlt))
      have T : Hid ((decide (l.getD j 0 ∈ m) == cb) = true → anyc m cb l = true) := Lib.hid (fun h => anyc_true hlt h)
      have HALL2 : Hid ((decide (l.getD j 0 ∈ m) == cb) = false → ∀ i, i < j + 1 → (decide (l.getD i 0 ∈ m) == cb) = false) := Lib.hid (fun h i hi => by
        by_cases e : i = j
        · subst e; exact h
        · exact HALL.out i (by omega))
      obtain ⟨x, hx0⟩ : ∃ x, x = l.getD j 0 := ⟨_, rfl⟩
      obtain ⟨B, hB⟩ : ∃ B, B = decide (x ∈ m) := ⟨_, rfl⟩
      rw [← hx0] at cj look T
      rw [← hB] at look T
      rw [hx0] at hB
      have HALL3 : Hid ((B == cb) = false → ∀ i, i < j + 1 → (decide (l.getD i 0 ∈ m) == cb) = false) := Lib.hid (by rw [hB]; exact HALL2.out)
      clear hca hx0 hB hx HALL2
      cases hq : (B == cb)
      · have A3 := Lib.hid (HALL3.out hq)
        go_wp2_with fail
        go_roundw
        case rel => exact ⟨j + 1, by go_num, by omega, A3.out, HX.out⟩
        case measure => simp [intOf]; omega
      · have E := Lib.hid (T.out hq)
        go_wp2_with fail
        go_ret
        exact ⟨by rw [E.out]; rfl, HX.out⟩
    · have E : Hid (anyc m cb l = false) := Lib.hid (anyc_false fun i hi => HALL.out i (by omega))
      clear hx
      go_wp2_with fail
      go_ret
      exact ⟨by rw [E.out]; rfl, HX.out⟩

def dupl (l : List Nat) : Bool := !decide l.Nodup
def RpRel (l : List Nat) (w : World) (s : Value) (wr : World) : Prop :=
  ∃ j : Nat, s = .int .i64 j ∧ j ≤ l.length ∧ (l.take j).Nodup ∧ MapS wr w.heap.size (l.take j) ∧ Ext w wr
theorem nodup_step {l : List Nat} {j : Nat} (h : j < l.length) (hn : (l.take j).Nodup) (hm : l.getD j 0 ∉ l.take j) : (l.take (j + 1)).Nodup := by
  rw [take_snoc l j h, List.nodup_append]
  refine ⟨hn, by simp, fun a ha b hb => ?_⟩
  rw [List.mem_singleton] at hb; subst hb; exact fun e => hm (e ▸ ha)

set_option maxRecDepth 100000 in
set_option maxHeartbeats 2000000 in
theorem repeated_c (l : List Nat) (a : Option Addr) (c : Nat) (w : World) (ha : Rd w a l) (hl : l.length ≤ 1000000) (hb : ∀ x ∈ l, x < 18446744073709551616) :
    Calls Try.prog 26 #[.slice a l.length c] w fun e w' => e = .returned (.bool (dupl l)) ∧ Ext w w' := by
  have HA := Lib.hid ha
  have HB := Lib.hid hb
  clear ha hb
  have hmm := fun (t : TypeId) (w : World) => run_makeMap (P := Try.prog) t w
  go_enter Try.func26, Try.ntmps26
  go_wp2_with fail
  clear hmm
  go_loopw [9] (RpRel l w) (fun i _ => l.length - (intOf i).toNat)
  case atStart => exact ⟨0, rfl, Nat.zero_le _, List.nodup_nil, MapS.made w, (Ext.refl _).alloc _⟩
  case round =>
    obtain ⟨j, rfl, hj, hn, hm, hx⟩ := hrel
    have HX := Lib.hid hx
    have HN := Lib.hid hn
    have HM := Lib.hid hm
    clear hn hm
    by_cases hlt : j < l.length
    · obtain ⟨ga, oa, rfl, hca⟩ := HA.out.at (by omega)
      have cj := hx.cell (hca j hlt)
      have hxb := HB.out _ (getD_mem hlt)
      have look := HM.out.look hxb
      by_cases hq : l.getD j 0 ∈ l.take j
      · have E : Hid (dupl l = true) := Lib.hid (by
          unfold dupl
          have h1 : ¬ l.Nodup := fun h => by
            have h2 : (l.take (j + 1)).Nodup := List.Nodup.sublist (List.take_sublist _ _) h
            rw [take_snoc l j hlt, List.nodup_append] at h2
            exact h2.2.2 _ hq _ (by simp) rfl
          simp [h1])
        rw [decide_eq_true hq] at look
        obtain ⟨x, hx0⟩ : ∃ x, x = l.getD j 0 := ⟨_, rfl⟩
        rw [← hx0] at cj look
        clear hca hx0 hq hxb hx
        go_wp2_with fail
        go_ret
        exact ⟨by rw [E.out]; rfl, HX.out⟩
      · rw [decide_eq_false hq] at look
        have HN2 := Lib.hid (nodup_step hlt HN.out hq)
        obtain ⟨w1, hrun, hm1, hb1⟩ := HM.out.put hxb hq (by simp; omega)
        rw [← take_snoc l j hlt] at hm1
        have HM1 := Lib.hid hm1
        have HX1 := Lib.hid (hb1.ext hx (Nat.le_refl _))
        obtain ⟨x, hx0⟩ : ∃ x, x = l.getD j 0 := ⟨_, rfl⟩
        rw [← hx0] at cj look hrun
        clear hca hx0 hq hxb hx hm1 hb1
        go_wp2_with fail
        go_roundw
        case rel => exact ⟨j + 1, by go_num, by omega, HN2.out, HM1.out, HX1.out⟩
        case measure => simp [intOf]; omega
    · have E : Hid (dupl l = false) := Lib.hid (by
        unfold dupl
        have h1 : l.Nodup := by have := HN.out; rw [List.take_of_length_le (by omega)] at this; exact this
        simp [h1])
      clear hx
      go_wp2_with fail
      go_ret
      exact ⟨by rw [E.out]; rfl, HX.out⟩

def addOk (m l : List Nat) : Bool := !(anyc m true l || dupl l)
def aRes (m l : List Nat) : List Nat := if addOk m l then m ++ l else m
def aErr (m l : List Nat) : Int := if addOk m l then 0 else 12
theorem addOk_spec {m l : List Nat} (h : addOk m l = true) : l.Nodup ∧ ∀ x ∈ l, x ∉ m := by
  unfold addOk anyc dupl at h
  simp only [Bool.not_eq_true', Bool.or_eq_false_iff, List.any_eq_false, Bool.not_eq_false', decide_eq_true_eq, beq_true] at h
  exact ⟨h.2, fun x hx => by simpa using h.1 x hx⟩
def AdPost (w : World) (ps b : Nat) (m : List Nat) (n : Int) (e : Ending) (w' : World) : Prop := e = .returned (.int .i64 n) ∧ St w' ps b m ∧ But b w w'
def AdRel (m l : List Nat) (w : World) (b : Nat) (s : Value) (wr : World) : Prop :=
  ∃ j : Nat, s = .int .i64 j ∧ j ≤ l.length ∧ MapS wr b (m ++ l.take j) ∧ But b w wr

set_option maxRecDepth 100000 in
set_option maxHeartbeats 2000000 in
theorem Add_c (m l : List Nat) (a : Option Addr) (c ps b : Nat) (w : World) (hs : St w ps b m) (ha : Rd w a l) (hl : l.length ≤ 100000) (hm : m.length ≤ 100000) (hb : ∀ x ∈ l, x < 18446744073709551616) :
    Calls Try.prog 16 #[.pointer (some ⟨ps, 0, none⟩), .slice a l.length c] w (AdPost w ps b (aRes m l) (aErr m l)) := by
  have HA := Lib.hid ha
  have HS := Lib.hid hs
  have HB := Lib.hid hb
  clear ha hs hb
  have SC := Lib.hid (fun w' (h1 : St w' ps b m) (h2 : Rd w' a l) => some_c m l true a c ps b w' h1 h2 (by omega) HB.out)
  have RC := Lib.hid (fun w' (h2 : Rd w' a l) => repeated_c l a c w' h2 (by omega) HB.out)
  cases h1 : anyc m true l
  case true =>
    have E : Hid (aRes m l = m ∧ aErr m l = 12) := Lib.hid (by
      have : addOk m l = false := by unfold addOk; rw [h1]; rfl
      unfold aRes aErr; rw [this]; exact ⟨rfl, rfl⟩)
    have H1 := Lib.hid h1
    clear h1
    go_enter Try.func16, Try.ntmps16
    go_wp2_with fail
    refine (SC.out _ HS.out HA.out).mono ?_; rintro e w1 ⟨rfl, x1⟩; rw [H1.out]
    go_wp2_with fail
    go_ret
    rw [E.out.1, E.out.2]
    exact ⟨rfl, HS.out.ext x1, x1.but b⟩
  have H1 := Lib.hid h1
  cases h2 : dupl l
  case true =>
    have E : Hid (aRes m l = m ∧ aErr m l = 12) := Lib.hid (by
      have : addOk m l = false := by unfold addOk; rw [h1, h2]; rfl
      unfold aRes aErr; rw [this]; exact ⟨rfl, rfl⟩)
    have H2 := Lib.hid h2
    clear h1 h2
    go_enter Try.func16, Try.ntmps16
    go_wp2_with fail
    refine (SC.out _ HS.out HA.out).mono ?_; rintro e w1 ⟨rfl, x1⟩; rw [H1.out]
    go_wp2_with fail
    refine (RC.out _ (HA.out.ext x1)).mono ?_; rintro e w2 ⟨rfl, x2⟩; rw [H2.out]
    go_wp2_with fail
    go_ret
    rw [E.out.1, E.out.2]
    exact ⟨rfl, HS.out.ext (x1.trans x2), (x1.trans x2).but b⟩
  have H2 := Lib.hid h2
  have OK : Hid (addOk m l = true) := Lib.hid (by unfold addOk; rw [h1, h2]; rfl)
  have E : Hid (aRes m l = m ++ l ∧ aErr m l = 0) := Lib.hid (by unfold aRes aErr; rw [OK.out]; exact ⟨rfl, rfl⟩)
  clear h1 h2
  go_enter Try.func16, Try.ntmps16
  go_wp2_with fail
  refine (SC.out _ HS.out HA.out).mono ?_; rintro e w1 ⟨rfl, x1⟩; rw [H1.out]
  go_wp2_with fail
  refine (RC.out _ (HA.out.ext x1)).mono ?_; rintro e w2 ⟨rfl, x2⟩; rw [H2.out]
  have X2 := Lib.hid (x1.trans x2)
  have hc := X2.out.cell HS.out.cell
  have qT : ∀ (w : World) (r : Option Nat), (binOp .eql 49 (.map r) (.map none)).run Try.prog w = .ok (.bool r.isNone) w := fun w r => run_eql_map_nil w _ _ _ r Try.underlying49
  clear x1 x2
  go_wp2_with fail
  go_loopw [25] (AdRel m l w b) (fun i _ => l.length - (intOf i).toNat)
  case atStart => exact ⟨0, rfl, Nat.zero_le _, by rw [List.take_zero, List.append_nil]; exact HS.out.map.ext X2.out, X2.out.but b⟩
  case round =>
    obtain ⟨j, rfl, hj, hmj, hx⟩ := hrel
    have HX := Lib.hid hx
    have HM := Lib.hid hmj
    have hcx := hx.cell HS.out.cell (HS.out.map.ne HS.out.cell)
    clear hmj hc qT
    by_cases hlt : j < l.length
    · obtain ⟨ga, oa, rfl, hca⟩ := HA.out.at (by omega)
      have cj := hx.cell (hca j hlt) (HS.out.map.ne (hca j hlt))
      have hxb := HB.out _ (getD_mem hlt)
      have hq : l.getD j 0 ∉ m ++ l.take j := by
        obtain ⟨k1, k2⟩ := addOk_spec OK.out
        intro hmem
        rcases List.mem_append.1 hmem with h | h
        · exact k2 _ (getD_mem hlt) h
        · have h2 : (l.take (j + 1)).Nodup := List.Nodup.sublist (List.take_sublist _ _) k1
          rw [take_snoc l j hlt, List.nodup_append] at h2
          exact h2.2.2 _ h _ (by simp) rfl
      obtain ⟨w3, hrun, hm1, hb1⟩ := HM.out.put hxb hq (by simp; omega)
      rw [List.append_assoc, ← take_snoc l j hlt] at hm1
      have HM1 := Lib.hid hm1
      have HX1 := Lib.hid (hx.trans hb1)
      obtain ⟨x, hx0⟩ : ∃ x, x = l.getD j 0 := ⟨_, rfl⟩
      rw [← hx0] at cj hrun
      clear hca hx0 hq hxb hx hm1 hb1
      go_wp2_with fail
      go_roundw
      case rel => exact ⟨j + 1, by go_num, by omega, HM1.out, HX1.out⟩
      case measure => simp [intOf]; omega
    · have HM2 : Hid (MapS wr b (m ++ l)) := Lib.hid (by have := HM.out; rw [List.take_of_length_le (by omega)] at this; exact this)
      clear hx
      go_wp2_with fail
      go_ret
      rw [E.out.1, E.out.2]
      exact ⟨rfl, HS.out.to HX.out HM2.out, HX.out⟩

def remOk (m l : List Nat) : Bool := !(anyc m false l || dupl l)
/-- The marks of m that are not in l. -/
def lessL (m l : List Nat) : List Nat := m.filter fun y => decide (y ∉ l)
theorem lessL_nil (m : List Nat) : lessL m [] = m := by unfold lessL; simp
theorem lessL_nodup {m : List Nat} (h : m.Nodup) (l : List Nat) : (lessL m l).Nodup := List.Nodup.sublist List.filter_sublist h
theorem lessL_mem {m l : List Nat} {x : Nat} : x ∈ lessL m l ↔ x ∈ m ∧ x ∉ l := by unfold lessL; simp
theorem lessL_snoc {m l : List Nat} (h : m.Nodup) (x : Nat) : (lessL m l).erase x = lessL m (l ++ [x]) := by
  rw [(lessL_nodup h l).erase_eq_filter]
  unfold lessL
  rw [List.filter_filter]
  refine List.filter_congr fun y _ => ?_
  by_cases e : y = x
  · subst e; simp
  · simp [e]
def rRes (m l : List Nat) : List Nat := if remOk m l then lessL m l else m
def rErr (m l : List Nat) : Int := if remOk m l then 0 else 4
theorem remOk_spec {m l : List Nat} (h : remOk m l = true) : l.Nodup ∧ ∀ x ∈ l, x ∈ m := by
  unfold remOk anyc dupl at h
  simp only [Bool.not_eq_true', Bool.or_eq_false_iff, List.any_eq_false, Bool.not_eq_false', decide_eq_true_eq, beq_false] at h
  exact ⟨h.2, fun x hx => by simpa using h.1 x hx⟩
def RmRel (m l : List Nat) (w : World) (b : Nat) (s : Value) (wr : World) : Prop :=
  ∃ j : Nat, s = .int .i64 j ∧ j ≤ l.length ∧ MapS wr b (lessL m (l.take j)) ∧ But b w wr

set_option maxRecDepth 100000 in
set_option maxHeartbeats 2000000 in
theorem Remove_c (m l : List Nat) (a : Option Addr) (c ps b : Nat) (w : World) (hs : St w ps b m) (hmn : m.Nodup) (ha : Rd w a l) (hl : l.length ≤ 100000) (hb : ∀ x ∈ l, x < 18446744073709551616) :
    Calls Try.prog 22 #[.pointer (some ⟨ps, 0, none⟩), .slice a l.length c] w (AdPost w ps b (rRes m l) (rErr m l)) := by
  have HA := Lib.hid ha
  have HS := Lib.hid hs
  have HB := Lib.hid hb
  have HMN := Lib.hid hmn
  clear ha hs hb hmn
  have SC := Lib.hid (fun w' (h1 : St w' ps b m) (h2 : Rd w' a l) => some_c m l false a c ps b w' h1 h2 (by omega) HB.out)
  have RC := Lib.hid (fun w' (h2 : Rd w' a l) => repeated_c l a c w' h2 (by omega) HB.out)
  cases h1 : anyc m false l
  case true =>
    have E : Hid (rRes m l = m ∧ rErr m l = 4) := Lib.hid (by
      have : remOk m l = false := by unfold remOk; rw [h1]; rfl
      unfold rRes rErr; rw [this]; exact ⟨rfl, rfl⟩)
    have H1 := Lib.hid h1
    clear h1
    go_enter Try.func22, Try.ntmps22
    go_wp2_with fail
    refine (SC.out _ HS.out HA.out).mono ?_; rintro e w1 ⟨rfl, x1⟩; rw [H1.out]
    go_wp2_with fail
    go_ret
    rw [E.out.1, E.out.2]
    exact ⟨rfl, HS.out.ext x1, x1.but b⟩
  have H1 := Lib.hid h1
  cases h2 : dupl l
  case true =>
    have E : Hid (rRes m l = m ∧ rErr m l = 4) := Lib.hid (by
      have : remOk m l = false := by unfold remOk; rw [h1, h2]; rfl
      unfold rRes rErr; rw [this]; exact ⟨rfl, rfl⟩)
    have H2 := Lib.hid h2
    clear h1 h2
    go_enter Try.func22, Try.ntmps22
    go_wp2_with fail
    refine (SC.out _ HS.out HA.out).mono ?_; rintro e w1 ⟨rfl, x1⟩; rw [H1.out]
    go_wp2_with fail
    refine (RC.out _ (HA.out.ext x1)).mono ?_; rintro e w2 ⟨rfl, x2⟩; rw [H2.out]
    go_wp2_with fail
    go_ret
    rw [E.out.1, E.out.2]
    exact ⟨rfl, HS.out.ext (x1.trans x2), (x1.trans x2).but b⟩
  have H2 := Lib.hid h2
  have OK : Hid (remOk m l = true) := Lib.hid (by unfold remOk; rw [h1, h2]; rfl)
  have E : Hid (rRes m l = lessL m l ∧ rErr m l = 0) := Lib.hid (by unfold rRes rErr; rw [OK.out]; exact ⟨rfl, rfl⟩)
  clear h1 h2
  go_enter Try.func22, Try.ntmps22
  go_wp2_with fail
  refine (SC.out _ HS.out HA.out).mono ?_; rintro e w1 ⟨rfl, x1⟩; rw [H1.out]
  go_wp2_with fail
  refine (RC.out _ (HA.out.ext x1)).mono ?_; rintro e w2 ⟨rfl, x2⟩; rw [H2.out]
  have X2 := Lib.hid (x1.trans x2)
  clear x1 x2
  go_wp2_with fail
  go_loopw [16] (RmRel m l w b) (fun i _ => l.length - (intOf i).toNat)
  case atStart => exact ⟨0, rfl, Nat.zero_le _, by rw [List.take_zero, lessL_nil]; exact HS.out.map.ext X2.out, X2.out.but b⟩
  case round =>
    obtain ⟨j, rfl, hj, hmj, hx⟩ := hrel
    have HX := Lib.hid hx
    have HM := Lib.hid hmj
    have hcx := hx.cell HS.out.cell (HS.out.map.ne HS.out.cell)
    clear hmj
    by_cases hlt : j < l.length
    · obtain ⟨ga, oa, rfl, hca⟩ := HA.out.at (by omega)
      have cj := hx.cell (hca j hlt) (HS.out.map.ne (hca j hlt))
      have hxb := HB.out _ (getD_mem hlt)
      have hnd := lessL_nodup HMN.out (l.take j)
      have hq : l.getD j 0 ∈ lessL m (l.take j) := by
        obtain ⟨k1, k2⟩ := remOk_spec OK.out
        rw [lessL_mem]
        refine ⟨k2 _ (getD_mem hlt), fun h => ?_⟩
        have h2 : (l.take (j + 1)).Nodup := List.Nodup.sublist (List.take_sublist _ _) k1
        rw [take_snoc l j hlt, List.nodup_append] at h2
        exact h2.2.2 _ h _ (by simp) rfl
      have hrun0 := HM.out.del hnd hxb hq
      obtain ⟨w3, hrun, hm1, hb1⟩ := hrun0 0
      have hall : ∀ ty : TypeId, (Builtin.delete_ #[49, 23] ty #[.map (some b), .int .u64 ((l.getD j 0 : Nat) : Int)]).run Try.prog wr = .ok (.tuple #[]) w3 := fun ty => hrun
      rw [lessL_snoc HMN.out, ← take_snoc l j hlt] at hm1
      have HM1 := Lib.hid hm1
      have HX1 := Lib.hid (hx.trans hb1)
      obtain ⟨x, hx0⟩ : ∃ x, x = l.getD j 0 := ⟨_, rfl⟩
      rw [← hx0] at cj hall
      clear hca hx0 hq hxb hx hm1 hb1 hrun hrun0 hnd
      go_wp2_with fail
      go_roundw
      case rel => exact ⟨j + 1, by go_num, by omega, HM1.out, HX1.out⟩
      case measure => simp [intOf]; omega
    · have HM2 : Hid (MapS wr b (lessL m l)) := Lib.hid (by have := HM.out; rw [List.take_of_length_le (by omega)] at this; exact this)
      clear hx
      go_wp2_with fail
      go_ret
      rw [E.out.1, E.out.2]
      exact ⟨rfl, HS.out.to HX.out HM2.out, HX.out⟩
end Go.Proofs.Yteomgccpocgffaa
