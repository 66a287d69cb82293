/- Names: the lexer's test and the document's. Printed by gen/as3.py. -/
import Derived.Test.YtcheigpejbmaoaaDoorAs1
namespace Go.Proofs.YtcheigpejbmaoaaDoor
open Go.RowKit
def letB (c : Int) : Bool := decide (97 ≤ c) && decide (c ≤ 122)
def digB (c : Int) : Bool := decide (48 ≤ c) && decide (c ≤ 57)
def nmB (c : Int) : Bool := letB c || digB c || decide (c = 95)
def byteAt (s : ByteArray) (i : Nat) : Int := ((s.data.toList.getD i 0).toNat : Int)
def strEq (s t : ByteArray) : Bool := decide (s = t)
def kwL : List ByteArray := [⟨#[97, 110, 100]⟩, ⟨#[97, 115, 115, 101, 114, 116]⟩, ⟨#[98, 111, 111, 108]⟩, ⟨#[102, 97, 108, 115, 101]⟩, ⟨#[102, 105, 101, 108, 100]⟩, ⟨#[102, 110]⟩, ⟨#[102, 111, 114]⟩, ⟨#[104, 97, 115, 104]⟩, ⟨#[105, 110]⟩, ⟨#[108, 101, 116]⟩, ⟨#[110, 111, 116]⟩, ⟨#[111, 114]⟩, ⟨#[112, 117, 98, 108, 105, 99]⟩, ⟨#[114, 101, 116, 117, 114, 110]⟩, ⟨#[115, 101, 99, 114, 101, 116]⟩, ⟨#[116, 114, 117, 101]⟩, ⟨#[117, 105, 110, 116]⟩]
def kwR : List ByteArray := [⟨#[102, 110]⟩, ⟨#[114, 101, 116, 117, 114, 110]⟩, ⟨#[112, 117, 98, 108, 105, 99]⟩, ⟨#[115, 101, 99, 114, 101, 116]⟩, ⟨#[102, 105, 101, 108, 100]⟩, ⟨#[98, 111, 111, 108]⟩, ⟨#[117, 105, 110, 116]⟩, ⟨#[108, 101, 116]⟩, ⟨#[97, 115, 115, 101, 114, 116]⟩, ⟨#[102, 111, 114]⟩, ⟨#[105, 110]⟩, ⟨#[116, 114, 117, 101]⟩, ⟨#[102, 97, 108, 115, 101]⟩, ⟨#[97, 110, 100]⟩, ⟨#[111, 114]⟩, ⟨#[110, 111, 116]⟩, ⟨#[104, 97, 115, 104]⟩]
/-- Is it a name? -/
def nameOk (s : ByteArray) : Bool := decide (0 < s.size) && decide (s.size ≤ 24) && letB (byteAt s 0) && (List.range s.size).all (fun i => nmB (byteAt s i)) && !(kwL.any (strEq s))
theorem byteAt_eq (s : ByteArray) (i : Nat) (h : i < s.size) : (s[i].toNat : Int) = byteAt s i := by
  unfold byteAt
  have h2 : i < s.data.toList.length := by rw [← Lib.size_eq]; exact h
  rw [List.getD_eq_getElem?_getD, List.getElem?_eq_getElem h2]
  rfl
theorem toL_eq (s t : ByteArray) : (s.toList == t.toList) = strEq s t := by
  unfold strEq
  rw [Lib.toList_data, Lib.toList_data]
  by_cases h : s = t
  · subst h; simp
  · rw [decide_eq_false h, beq_eq_false_iff_ne]
    intro e
    apply h
    rw [← Lib.mk_data s, ← Lib.mk_data t, e]
theorem strEq_comm (s t : ByteArray) : strEq s t = strEq t s := by
  unfold strEq
  by_cases h : s = t
  · subst h; rfl
  · rw [decide_eq_false h, decide_eq_false (fun e => h e.symm)]
theorem toL_empty (s : ByteArray) : s.toList.isEmpty = decide (s.size = 0) := by
  rw [Lib.toList_data, Lib.size_eq]
  cases s.data.toList <;> simp
theorem byteAt_lt (s : ByteArray) (i : Nat) : 0 ≤ byteAt s i ∧ byteAt s i < 256 := by
  unfold byteAt
  have := (s.data.toList.getD i 0).toNat_lt
  omega
theorem isLetter_c (c : Int) (w : World) : Calls Tryd.prog 84 #[.int .u8 c] w fun r w' => r = .returned (.bool (letB c)) ∧ w = w' := by
  by_cases h : 97 ≤ c
  · have t : decide (97 ≤ c) = true := decide_eq_true h
    have E : letB c = decide (c ≤ 122) := by unfold letB; rw [t]; rfl
    rw [E]
    clear E h
    go_enter Tryd.func84, Tryd.ntmps84
    go_wp2
    go_ret
    exact ⟨rfl, rfl⟩
  · have t : decide (97 ≤ c) = false := decide_eq_false h
    have E : letB c = false := by unfold letB; rw [t]; rfl
    rw [E]
    clear E h
    go_enter Tryd.func84, Tryd.ntmps84
    go_wp2
    go_ret
    exact ⟨rfl, rfl⟩
theorem isDigit_c (c : Int) (w : World) : Calls Tryd.prog 97 #[.int .u8 c] w fun r w' => r = .returned (.bool (digB c)) ∧ w = w' := by
  by_cases h : 48 ≤ c
  · have t : decide (48 ≤ c) = true := decide_eq_true h
    have E : digB c = decide (c ≤ 57) := by unfold digB; rw [t]; rfl
    rw [E]
    clear E h
    go_enter Tryd.func97, Tryd.ntmps97
    go_wp2
    go_ret
    exact ⟨rfl, rfl⟩
  · have t : decide (48 ≤ c) = false := decide_eq_false h
    have E : digB c = false := by unfold digB; rw [t]; rfl
    rw [E]
    clear E h
    go_enter Tryd.func97, Tryd.ntmps97
    go_wp2
    go_ret
    exact ⟨rfl, rfl⟩
theorem isNameByte_c (c : Int) (w : World) : Calls Tryd.prog 86 #[.int .u8 c] w fun r w' => r = .returned (.bool (nmB c)) ∧ w = w' := by
  have E : nmB c = (letB c || digB c || (c == 95)) := by
    unfold nmB; congr 1
  rw [E]
  have HL := Lib.hid (isLetter_c c)
  have HD := Lib.hid (isDigit_c c)
  obtain ⟨x, hx⟩ : ∃ x, x = letB c := ⟨_, rfl⟩
  obtain ⟨y, hy⟩ : ∃ x, x = digB c := ⟨_, rfl⟩
  rw [← hx] at HL ⊢
  rw [← hy] at HD ⊢
  clear E hx hy
  go_enter Tryd.func86, Tryd.ntmps86
  go_wp2_with fail
  refine (HL.out _).mono ?_; rintro e w1 ⟨rfl, rfl⟩
  cases x
  · go_wp2_with fail
    refine (HD.out _).mono ?_; rintro e w1 ⟨rfl, rfl⟩
    cases y
    · go_wp2_with fail
      go_ret
      exact ⟨by rw [Bool.false_or, Bool.false_or]; rfl, rfl⟩
    · go_wp2_with fail
      go_ret
      exact ⟨rfl, rfl⟩
  · go_wp2_with fail
    go_ret
    exact ⟨rfl, rfl⟩
def SpRel (s : ByteArray) (w1 : World) (v : Value) (wr : World) : Prop := ∃ j : Nat, v = .int .i64 j ∧ j ≤ s.size ∧ (∀ k, k < j → nmB (byteAt s k) = true) ∧ wr = w1
set_option maxHeartbeats 1000000 in
theorem span_c (s : ByteArray) (hs : s.size ≤ 24) (w : World) : Calls Tryd.prog 85 #[.string s, .func (.func 86) #[] #[]] w fun r w' => ∃ j : Nat, r = .returned (.int .i64 (j : Int)) ∧ ((j : Int) != (s.size : Int)) = !((List.range s.size).all (fun i => nmB (byteAt s i))) ∧ w = w' := by
  have HN := Lib.hid isNameByte_c
  have HB := Lib.hid (byteAt_eq s)
  go_enter Tryd.func85, Tryd.ntmps85
  go_wp2_with fail
  go_loopw [5] (SpRel s w) (fun v _ => s.size - (intOf v).toNat)
  case atStart => exact ⟨0, rfl, Nat.zero_le _, fun k hk => absurd hk (by omega), rfl⟩
  case round =>
    obtain ⟨j, rfl, hj, hall, hw⟩ := hrel
    subst hw
    have HALL := Lib.hid hall
    clear hall
    by_cases hlt : j < s.size
    · go_wp2_with fail
      refine (HN.out _ _).mono ?_; rintro e w1 ⟨rfl, rfl⟩
      rw [HB.out j hlt]
      cases hb : nmB (byteAt s j)
      · have HBB := Lib.hid hb
        clear hb
        go_wp2_with fail
        go_ret
        refine ⟨j, rfl, ?_, rfl⟩
        rw [bne_iff_ne.2 (by omega)]
        symm
        rw [Bool.not_eq_true', List.all_eq_false]
        exact ⟨j, by simpa using hlt, by rw [HBB.out]; decide⟩
      · have HBB := Lib.hid hb
        clear hb
        go_wp2_with fail
        go_roundw
        case rel =>
          refine ⟨j + 1, by go_num, by omega, fun k hk => ?_, rfl⟩
          rcases Nat.lt_or_ge k j with h | h
          · exact HALL.out k h
          · obtain rfl : k = j := by omega
            exact HBB.out
        case measure => simp [intOf]; omega
    · obtain rfl : j = s.size := by omega
      go_wp2_with fail
      go_ret
      refine ⟨_, rfl, ?_, rfl⟩
      have : (List.range s.size).all (fun i => nmB (byteAt s i)) = true := List.all_eq_true.2 (fun i hi => HALL.out i (by simpa using hi))
      rw [this]; simp
/-- A slice of strings. -/
def RdS (w : World) (b : Nat) (l : List ByteArray) : Prop := ∀ (i : Nat) u, l[i]? = some u → w.cell? ⟨b, i, none⟩ = some (.string u)
theorem Keywords_c (w : World) : Calls Tryd.prog 88 #[] w fun e w' => e = .returned (.slice (some ⟨w.heap.size, 0, none⟩) 17 17) ∧ RdS w' w.heap.size kwL ∧ Ext w w' := by
  go_enter Tryd.func88, Tryd.ntmps88
  go_wp2
  go_ret
  refine ⟨rfl, fun i u hu => ?_, (Ext.refl _).alloc _⟩
  have e : (w.alloc (.cells (kwL.map Value.string).toArray 9)).cell? ⟨w.heap.size, i, none⟩ = (kwL.map Value.string)[i]? := by simp [World.cell?_alloc_new]
  refine Eq.trans e ?_
  rw [List.getElem?_map, hu]; rfl
def IxRel (s : ByteArray) (l : List ByteArray) (w1 : World) (v : Value) (wr : World) : Prop := ∃ j : Nat, v = .int .i64 j ∧ j ≤ l.length ∧ (∀ (k : Nat) u, k < j → l[k]? = some u → strEq s u = false) ∧ wr = w1
set_option maxHeartbeats 1000000 in
theorem Index_c (s : ByteArray) (l : List ByteArray) (n b : Nat) (hn : l.length = n) (hn2 : n ≤ 1000) (w : World) (hr : RdS w b l) : Calls Tryd.prog 98 #[.slice (some ⟨b, 0, none⟩) n n, .string s] w fun r w' => ∃ j : Int, r = .returned (.int .i64 j) ∧ decide (0 ≤ j) = l.any (strEq s) ∧ w = w' := by
  have HR := Lib.hid hr
  have HN := Lib.hid hn
  have HT := Lib.hid toL_eq
  clear hr hn
  go_enter Tryd.func98, Tryd.ntmps98
  go_wp2_with fail
  go_loopw [8] (IxRel s l w) (fun v _ => n - (intOf v).toNat)
  case atStart => exact ⟨0, rfl, Nat.zero_le _, fun k u hk => absurd hk (by omega), rfl⟩
  case round =>
    obtain ⟨j, rfl, hj, hall, hw⟩ := hrel
    rw [HN.out] at hj
    subst hw
    have HALL := Lib.hid hall
    clear hall
    by_cases hlt : j < n
    · obtain ⟨u, hu⟩ := getE (l := l) (i := j) (by rw [HN.out]; exact hlt)
      have hc := HR.out j u hu
      have HU := Lib.hid hu
      clear hu
      have ht := HT.out s u
      cases he : strEq s u
      · rw [he] at ht
        have HE := Lib.hid he
        clear he
        go_wp2_with fail
        go_roundw
        case rel =>
          refine ⟨j + 1, by go_num, by rw [HN.out]; omega, fun k v hk hv => ?_, rfl⟩
          rcases Nat.lt_or_ge k j with h | h
          · exact HALL.out k v h hv
          · obtain rfl : k = j := by omega
            rw [HU.out] at hv
            injection hv with hv
            rw [← hv]; exact HE.out
        case measure => simp [intOf]; omega
      · rw [he] at ht
        have HE := Lib.hid he
        clear he
        go_wp2_with fail
        go_ret
        refine ⟨_, rfl, ?_, rfl⟩
        rw [decide_eq_true (by omega)]
        symm
        rw [List.any_eq_true]
        exact ⟨u, List.mem_of_getElem? HU.out, HE.out⟩
    · obtain rfl : j = n := by omega
      go_wp2_with fail
      go_ret
      refine ⟨_, rfl, ?_, rfl⟩
      rw [decide_eq_false (by omega)]
      symm
      rw [List.any_eq_false]
      intro u hu
      obtain ⟨k, hk, rfl⟩ := List.mem_iff_getElem.1 hu
      rw [HALL.out k _ (by rw [HN.out] at hk; exact hk) (List.getElem?_eq_getElem hk)]
      decide
theorem Contains_c (s : ByteArray) (l : List ByteArray) (n b : Nat) (hn : l.length = n) (hn2 : n ≤ 1000) (w : World) (hr : RdS w b l) : Calls Tryd.prog 87 #[.slice (some ⟨b, 0, none⟩) n n, .string s] w fun r w' => r = .returned (.bool (l.any (strEq s))) ∧ w = w' := by
  have IC := Lib.hid (Index_c s l n b hn hn2 w hr)
  clear hr hn
  go_enter Tryd.func87, Tryd.ntmps87
  go_wp2_with fail
  refine (IC.out).mono ?_; rintro e w1 ⟨j, rfl, hj, rfl⟩
  have HJ := Lib.hid hj
  clear hj
  go_wp2_with fail
  go_ret
  exact ⟨by rw [← HJ.out]; rfl, rfl⟩
set_option maxHeartbeats 1000000 in
theorem IsName_c (s : ByteArray) (w : World) : Calls Tryd.prog 61 #[.string s] w fun r w' => r = .returned (.bool (nameOk s)) ∧ Ext w w' := by
  have te := toL_empty s
  have HB := Lib.hid (byteAt_eq s)
  have EN : nameOk s = (decide (0 < s.size) && decide (s.size ≤ 24) && letB (byteAt s 0) && (List.range s.size).all (fun i => nmB (byteAt s i)) && !(kwL.any (strEq s))) := rfl
  by_cases h0 : s.size = 0
  · rw [decide_eq_true h0] at te
    rw [decide_eq_false (show ¬ 0 < s.size by omega)] at EN
    rw [EN]
    clear EN h0
    go_enter Tryd.func61, Tryd.ntmps61
    go_wp2_with fail
    go_ret
    exact ⟨rfl, Ext.refl _⟩
  · rw [decide_eq_false h0] at te
    rw [decide_eq_true (show 0 < s.size by omega)] at EN
    have hpos : 0 < s.size := by omega
    by_cases h24 : s.size ≤ 24
    · rw [decide_eq_true h24] at EN
      have t24 : decide ((24 : Int) < (s.size : Int)) = false := decide_eq_false (by omega)
      rw [EN]
      have HL := Lib.hid isLetter_c
      have HS := Lib.hid (span_c s h24)
      have HCT := Lib.hid (fun w b (h : RdS w b kwL) => Contains_c s kwL 17 b rfl (by omega) w h)
      obtain ⟨x, hx⟩ : ∃ x, x = letB (byteAt s 0) := ⟨_, rfl⟩
      have HX := Lib.hid hx
      obtain ⟨y, hy⟩ : ∃ x, x = (List.range s.size).all (fun i => nmB (byteAt s i)) := ⟨_, rfl⟩
      rw [← hy] at HS
      obtain ⟨z, hz⟩ : ∃ x, x = kwL.any (strEq s) := ⟨_, rfl⟩
      rw [← hz] at HCT
      rw [← hx, ← hy, ← hz]
      clear EN h0 hx hy hz
      go_enter Tryd.func61, Tryd.ntmps61
      go_wp2_with fail
      refine (HL.out _ _).mono ?_; rintro e w1 ⟨rfl, rfl⟩
      rw [HB.out 0 hpos, ← HX.out]
      cases x
      · go_wp2_with fail
        go_ret
        exact ⟨rfl, Ext.refl _⟩
      · go_wp2_with fail
        refine (HS.out _).mono ?_; rintro e w1 ⟨j, rfl, hj, rfl⟩
        cases y
        · have hj' : ((j : Int) != (s.size : Int)) = true := hj
          clear hj
          go_wp2_with fail
          go_ret
          exact ⟨rfl, Ext.refl _⟩
        · have hj' : ((j : Int) != (s.size : Int)) = false := hj
          clear hj
          go_wp2_with fail
          refine (Keywords_c _).mono ?_; rintro e w2 ⟨rfl, hr, x2⟩
          have HR := Lib.hid hr
          clear hr
          go_wp2_with fail
          refine (HCT.out _ _ HR.out).mono ?_; rintro e w3 ⟨rfl, rfl⟩
          go_wp2_with fail
          go_ret
          exact ⟨rfl, x2⟩
    · have t24 : decide ((24 : Int) < (s.size : Int)) = true := decide_eq_true (by omega)
      rw [decide_eq_false h24] at EN
      rw [EN]
      clear EN h0 h24
      go_enter Tryd.func61, Tryd.ntmps61
      go_wp2_with fail
      go_ret
      exact ⟨rfl, Ext.refl _⟩
end Go.Proofs.YtcheigpejbmaoaaDoor
