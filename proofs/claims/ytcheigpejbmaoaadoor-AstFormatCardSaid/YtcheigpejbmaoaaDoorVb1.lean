/- Names, numbers of operands, depths: the document. Printed by gen/val5.py. -/
import Derived.Test.YtcheigpejbmaoaaDoorVa1
namespace Go.Proofs.YtcheigpejbmaoaaDoor
open Go.RowKit
theorem kwLR (s : ByteArray) : kwL.any (strEq s) = kwR.any (strEq s) := by
  simp only [kwL, kwR, List.any_cons, List.any_nil, Bool.or_false]
  ac_rfl
set_option maxRecDepth 100000 in
set_option maxHeartbeats 2000000 in
theorem keyword_c (s : ByteArray) (w : World) : Calls Tryd.prog 69 #[.string s] w fun r w' => r = .returned (.bool (kwL.any (strEq s))) ∧ Ext w w' := by
  rw [kwLR]
  obtain ⟨l, hl⟩ : ∃ l, l = kwR := ⟨_, rfl⟩
  rw [← hl]
  have HT := Lib.hid (fun u => toL_eq u s)
  go_enter Tryd.func69, Tryd.ntmps69
  go_wp2_with fail
  obtain ⟨w1, hw1⟩ : ∃ q, q = w.alloc (.cells #[.string ⟨#[102, 110]⟩, .string ⟨#[114, 101, 116, 117, 114, 110]⟩, .string ⟨#[112, 117, 98, 108, 105, 99]⟩, .string ⟨#[115, 101, 99, 114, 101, 116]⟩, .string ⟨#[102, 105, 101, 108, 100]⟩, .string ⟨#[98, 111, 111, 108]⟩, .string ⟨#[117, 105, 110, 116]⟩, .string ⟨#[108, 101, 116]⟩, .string ⟨#[97, 115, 115, 101, 114, 116]⟩, .string ⟨#[102, 111, 114]⟩, .string ⟨#[105, 110]⟩, .string ⟨#[116, 114, 117, 101]⟩, .string ⟨#[102, 97, 108, 115, 101]⟩, .string ⟨#[97, 110, 100]⟩, .string ⟨#[111, 114]⟩, .string ⟨#[110, 111, 116]⟩, .string ⟨#[104, 97, 115, 104]⟩] 9) := ⟨_, rfl⟩
  have HR : Hid (RdS w1 w.heap.size kwR) := Lib.hid (fun i u hu => by
    have e : (w.alloc (.cells (kwR.map Value.string).toArray 9)).cell? ⟨w.heap.size, i, none⟩ = (kwR.map Value.string)[i]? := by simp [World.cell?_alloc_new]
    have e2 : w1 = w.alloc (.cells (kwR.map Value.string).toArray 9) := by rw [hw1]; rfl
    rw [e2]
    refine Eq.trans e ?_
    rw [List.getElem?_map, hu]; rfl)
  have HX : Hid (Ext w w1) := Lib.hid (by rw [hw1]; exact (Ext.refl _).alloc _)
  rw [← hw1]
  clear hw1
  have HN : Hid (kwR.length = 17) := Lib.hid rfl
  rw [← hl] at HR HN
  clear hl
  go_loopw [4] (IxRel s l w1) (fun v _ => 17 - (intOf v).toNat)
  case atStart => exact ⟨0, rfl, Nat.zero_le _, fun k u hk => absurd hk (by omega), rfl⟩
  case round =>
    obtain ⟨j, rfl, hj, hall, hw⟩ := hrel
    rw [HN.out] at hj
    subst hw
    have HALL := Lib.hid hall
    clear hall
    by_cases hlt : j < 17
    · obtain ⟨u, hu⟩ := getE (l := l) (i := j) (by rw [HN.out]; exact hlt)
      have hc := HR.out j u hu
      have HU := Lib.hid hu
      clear hu
      have ht := HT.out u
      rw [strEq_comm] at ht
      cases he : strEq s u
      · rw [he] at ht
        have HE := Lib.hid he
        clear he
        go_wp2_with fail
        go_roundw
        case rel =>
          refine ⟨j + 1, by go_num, by rw [HN.out]; omega, fun k v hk hv => ?_, rfl⟩
          rcases Nat.lt_or_ge k j with h | h
          · exact HALL.out k v h hv
          · obtain rfl : k = j := by omega
            rw [HU.out] at hv
            injection hv with hv
            rw [← hv]; exact HE.out
        case measure => simp [intOf]; omega
      · rw [he] at ht
        have HE := Lib.hid he
        clear he
        have X := HX.out
        go_wp2_with fail
        go_ret
        refine ⟨?_, X⟩
        rw [show l.any (strEq s) = true from List.any_eq_true.2 ⟨u, List.mem_of_getElem? HU.out, HE.out⟩]; rfl
    · obtain rfl : j = 17 := by omega
      have X := HX.out
      go_wp2_with fail
      go_ret
      refine ⟨?_, X⟩
      rw [show l.any (strEq s) = false from by
        rw [List.any_eq_false]
        intro u hu
        obtain ⟨k, hk, rfl⟩ := List.mem_iff_getElem.1 hu
        rw [HALL.out k _ (by rw [HN.out] at hk; exact hk) (List.getElem?_eq_getElem hk)]
        decide]; rfl
theorem nmB_split (c : Int) : nmB c = (decide (c = 95) || ((decide (97 ≤ c) && decide (c ≤ 122)) || (decide (48 ≤ c) && decide (c ≤ 57)))) := by
  unfold nmB letB digB; cases decide (c = 95) <;> simp
set_option maxRecDepth 100000 in
set_option maxHeartbeats 4000000 in
theorem RName_c (s : ByteArray) (w : World) : Calls Tryd.prog 40 #[.string s] w fun r w' => r = .returned (.bool (nameOk s)) ∧ Ext w w' := by
  have HB := Lib.hid (byteAt_eq s)
  have HK := Lib.hid (keyword_c s)
  have EN : Hid (nameOk s = (decide (0 < s.size) && decide (s.size ≤ 24) && letB (byteAt s 0) && (List.range s.size).all (fun i => nmB (byteAt s i)) && !(kwL.any (strEq s)))) := Lib.hid rfl
  obtain ⟨R, hR⟩ : ∃ R, R = nameOk s := ⟨_, rfl⟩
  rw [← hR] at EN ⊢
  clear hR
  by_cases h0 : s.size = 0
  · have ER : Hid (R = false) := Lib.hid (by rw [EN.out, decide_eq_false (show ¬ 0 < s.size by omega)]; rfl)
    clear HK EN
    have t0 : decide ((s.size : Int) < 1) = true := decide_eq_true (by omega)
    go_enter Tryd.func40, Tryd.ntmps40
    go_wp2_with fail
    go_ret
    exact ⟨by rw [ER.out]; rfl, Ext.refl _⟩
  have t0 : decide ((s.size : Int) < 1) = false := decide_eq_false (by omega)
  have hpos : 0 < s.size := by omega
  by_cases h24 : s.size ≤ 24
  · have t24 : decide ((24 : Int) < (s.size : Int)) = false := decide_eq_false (by omega)
    have hb0 := HB.out 0 hpos
    have EN : Hid (R = (letB (byteAt s 0) && (List.range s.size).all (fun i => nmB (byteAt s i)) && !(kwL.any (strEq s)))) := Lib.hid (by rw [EN.out, decide_eq_true hpos, decide_eq_true h24]; rfl)
    obtain ⟨c, hc⟩ : ∃ c, c = byteAt s 0 := ⟨_, rfl⟩
    rw [← hc] at EN hb0
    clear hc
    by_cases ha : c < 97
    · have ER : Hid (R = false) := Lib.hid (by rw [EN.out]; unfold letB; rw [decide_eq_false (show ¬ 97 ≤ c by omega)]; rfl)
      have ta : decide (c < 97) = true := decide_eq_true ha
      clear EN ha HK
      go_enter Tryd.func40, Tryd.ntmps40
      go_wp2_with fail
      go_ret
      exact ⟨by rw [ER.out]; rfl, Ext.refl _⟩
    have ta : decide (c < 97) = false := decide_eq_false ha
    by_cases hz : 122 < c
    · have ER : Hid (R = false) := Lib.hid (by rw [EN.out]; unfold letB; rw [decide_eq_false (show ¬ c ≤ 122 by omega), Bool.and_false]; rfl)
      have tz : decide (122 < c) = true := decide_eq_true hz
      clear EN ha HK hz
      go_enter Tryd.func40, Tryd.ntmps40
      go_wp2_with fail
      go_ret
      exact ⟨by rw [ER.out]; rfl, Ext.refl _⟩
    have tz : decide (122 < c) = false := decide_eq_false hz
    have EN : Hid (R = ((List.range s.size).all (fun i => nmB (byteAt s i)) && !(kwL.any (strEq s)))) := Lib.hid (by rw [EN.out]; unfold letB; rw [decide_eq_true (show 97 ≤ c by omega), decide_eq_true (show c ≤ 122 by omega)]; rfl)
    obtain ⟨K, hK⟩ : ∃ K, K = kwL.any (strEq s) := ⟨_, rfl⟩
    rw [← hK] at EN
    simp only [← hK] at HK
    clear ha hz hK
    go_enter Tryd.func40, Tryd.ntmps40
    go_wp2_with fail
    refine (HK.out _).mono ?_; rintro e1 w1 ⟨rfl, x1⟩
    cases K
    · have HX := Lib.hid x1
      have EN : Hid (R = (List.range s.size).all (fun i => nmB (byteAt s i))) := Lib.hid (by rw [EN.out]; simp)
      clear x1 ta tz hb0 HK
      go_wp2_with fail
      go_loopw [3] (SpRel s w1) (fun v _ => s.size - (intOf v).toNat)
      case atStart => exact ⟨0, rfl, Nat.zero_le _, fun k hk => absurd hk (by omega), rfl⟩
      case round =>
        obtain ⟨j, rfl, hj, hall, hw⟩ := hrel
        subst hw
        have HALL := Lib.hid hall
        clear hall
        by_cases hlt : j < s.size
        · have hbj := HB.out j hlt
          have BJ := nmB_split (byteAt s j)
          obtain ⟨c, hc⟩ : ∃ c, c = byteAt s j := ⟨_, rfl⟩
          rw [← hc] at hbj
          have good : Hid (nmB (byteAt s j) = true → ∀ k, k < j + 1 → nmB (byteAt s k) = true) := Lib.hid (fun hb k hk => by
            rcases Nat.lt_or_ge k j with h | h
            · exact HALL.out k h
            · obtain rfl : k = j := by omega
              exact hb)
          have bad : Hid (nmB (byteAt s j) = false → R = false) := Lib.hid (fun hb => by
            rw [EN.out, List.all_eq_false]
            exact ⟨j, by simpa using hlt, by rw [hb]; decide⟩)
          rw [← hc] at BJ good bad
          replace BJ := Lib.hid BJ
          clear hc HALL HB
          by_cases h95 : c = 95
          · have t1 : (c == 95) = true := beq_iff_eq.2 h95
            have t1b : (c != 95) = false := by rw [bne, t1]; rfl
            have G : Hid (nmB c = true) := Lib.hid (by rw [BJ.out, decide_eq_true h95]; rfl)
            clear h95
            go_wp2_with fail
            go_roundw
            case rel => exact ⟨j + 1, by go_num, by omega, good.out G.out, rfl⟩
            case measure => simp [intOf]; omega
          have t1 : (c == 95) = false := beq_eq_false_iff_ne.2 h95
          have t1b : (c != 95) = true := by rw [bne, t1]; rfl
          have BJ : Hid (nmB c = ((decide (97 ≤ c) && decide (c ≤ 122)) || (decide (48 ≤ c) && decide (c ≤ 57)))) := Lib.hid (by rw [BJ.out, decide_eq_false h95]; rfl)
          clear h95
          by_cases hl : 97 ≤ c ∧ c ≤ 122
          · have t2 : decide (c < 97) = false := decide_eq_false (by omega)
            have t3 : decide (122 < c) = false := decide_eq_false (by omega)
            have G : Hid (nmB c = true) := Lib.hid (by rw [BJ.out, decide_eq_true hl.1, decide_eq_true hl.2]; rfl)
            clear hl
            go_wp2_with fail
            go_roundw
            case rel => exact ⟨j + 1, by go_num, by omega, good.out G.out, rfl⟩
            case measure => simp [intOf]; omega
          have BJ : Hid (nmB c = (decide (48 ≤ c) && decide (c ≤ 57))) := Lib.hid (by
            rw [BJ.out]
            by_cases q : 97 ≤ c
            · rw [decide_eq_false (show ¬ c ≤ 122 from fun q2 => hl ⟨q, q2⟩), Bool.and_false, Bool.false_or]
            · rw [decide_eq_false q, Bool.false_and, Bool.false_or])
          by_cases h48 : c < 48
          · have t2 : decide (c < 97) = true := decide_eq_true (by omega)
            have t4 : decide (c < 48) = true := decide_eq_true h48
            have G : Hid (nmB c = false) := Lib.hid (by rw [BJ.out, decide_eq_false (show ¬ 48 ≤ c by omega)]; rfl)
            have ER : Hid (R = false) := Lib.hid (bad.out G.out)
            have X := HX.out
            clear h48 hl good bad
            go_wp2_with fail
            go_ret
            exact ⟨by rw [ER.out]; rfl, X⟩
          have t4 : decide (c < 48) = false := decide_eq_false h48
          by_cases h57 : 57 < c
          · have t5 : decide (57 < c) = true := decide_eq_true h57
            have G : Hid (nmB c = false) := Lib.hid (by rw [BJ.out, decide_eq_false (show ¬ c ≤ 57 by omega), Bool.and_false])
            have ER : Hid (R = false) := Lib.hid (bad.out G.out)
            have X := HX.out
            by_cases h97 : c < 97
            · have t2 : decide (c < 97) = true := decide_eq_true h97
              clear h48 h57 h97 hl good bad
              go_wp2_with fail
              go_ret
              exact ⟨by rw [ER.out]; rfl, X⟩
            · have t2 : decide (c < 97) = false := decide_eq_false h97
              have t3 : decide (122 < c) = true := decide_eq_true (by omega)
              clear h48 h57 h97 hl good bad
              go_wp2_with fail
              go_ret
              exact ⟨by rw [ER.out]; rfl, X⟩
          have t2 : decide (c < 97) = true := decide_eq_true (by omega)
          have t5 : decide (57 < c) = false := decide_eq_false h57
          have G : Hid (nmB c = true) := Lib.hid (by rw [BJ.out, decide_eq_true (show 48 ≤ c by omega), decide_eq_true (show c ≤ 57 by omega)]; rfl)
          clear h48 h57 hl bad
          go_wp2_with fail
          go_roundw
          case rel => exact ⟨j + 1, by go_num, by omega, good.out G.out, rfl⟩
          case measure => simp [intOf]; omega
        · obtain rfl : j = s.size := by omega
          have ER : Hid (R = true) := Lib.hid (by rw [EN.out]; exact List.all_eq_true.2 (fun i hi => HALL.out i (by simpa using hi)))
          have X := HX.out
          go_wp2_with fail
          go_ret
          exact ⟨by rw [ER.out]; rfl, X⟩
    · have ER : Hid (R = false) := Lib.hid (by rw [EN.out]; simp)
      clear HK EN
      go_wp2_with fail
      go_ret
      exact ⟨by rw [ER.out]; rfl, x1⟩
  · have t24 : decide ((24 : Int) < (s.size : Int)) = true := decide_eq_true (by omega)
    have ER : Hid (R = false) := Lib.hid (by rw [EN.out, decide_eq_false h24, Bool.and_false]; rfl)
    clear HK EN
    go_enter Tryd.func40, Tryd.ntmps40
    go_wp2_with fail
    go_ret
    exact ⟨by rw [ER.out]; rfl, Ext.refl _⟩
/-- Can an operator have n operands? -/
def argOk (op : Int) (n : Nat) : Bool :=
  if op = 1 ∨ op = 2 ∨ op = 3 ∨ op = 4 then decide (n = 0)
  else if op = 5 then true
  else if op = 6 ∨ op = 7 then decide (0 < n)
  else if op = 9 ∨ op = 10 then decide (n = 1)
  else if op = 20 then decide (n = 3)
  else if 8 ≤ op ∧ op ≤ 19 then decide (n = 2) else false
set_option maxRecDepth 100000 in
set_option maxHeartbeats 4000000 in
theorem args_c (op : Int) (n : Nat) (w : World) : Calls Tryd.prog 89 #[.int .i64 op, .int .i64 n] w fun r w' => r = .returned (.bool (argOk op n)) ∧ Ext w w' := by
  by_cases h1 : op = 1
  · subst h1
    go_enter Tryd.func89, Tryd.ntmps89
    go_wp2_with fail
    go_ret
    exact ⟨by go_light; simp [argOk] <;> (rw [Bool.eq_iff_iff, beq_iff_eq, decide_eq_true_iff]; omega), Ext.refl _⟩
  have t1 : (op == 1) = false := beq_eq_false_iff_ne.2 h1
  by_cases h2 : op = 2
  · subst h2
    go_enter Tryd.func89, Tryd.ntmps89
    go_wp2_with fail
    go_ret
    exact ⟨by go_light; simp [argOk] <;> (rw [Bool.eq_iff_iff, beq_iff_eq, decide_eq_true_iff]; omega), Ext.refl _⟩
  have t2 : (op == 2) = false := beq_eq_false_iff_ne.2 h2
  by_cases h3 : op = 3
  · subst h3
    go_enter Tryd.func89, Tryd.ntmps89
    go_wp2_with fail
    go_ret
    exact ⟨by go_light; simp [argOk] <;> (rw [Bool.eq_iff_iff, beq_iff_eq, decide_eq_true_iff]; omega), Ext.refl _⟩
  have t3 : (op == 3) = false := beq_eq_false_iff_ne.2 h3
  by_cases h4 : op = 4
  · subst h4
    go_enter Tryd.func89, Tryd.ntmps89
    go_wp2_with fail
    go_ret
    exact ⟨by go_light; simp [argOk] <;> (rw [Bool.eq_iff_iff, beq_iff_eq, decide_eq_true_iff]; omega), Ext.refl _⟩
  have t4 : (op == 4) = false := beq_eq_false_iff_ne.2 h4
  by_cases h5 : op = 5
  · subst h5
    go_enter Tryd.func89, Tryd.ntmps89
    go_wp2_with fail
    go_ret
    exact ⟨by go_light; simp [argOk] <;> (rw [Bool.eq_iff_iff, beq_iff_eq, decide_eq_true_iff]; omega), Ext.refl _⟩
  have t5 : (op == 5) = false := beq_eq_false_iff_ne.2 h5
  by_cases h6 : op = 6
  · subst h6
    go_enter Tryd.func89, Tryd.ntmps89
    go_wp2_with fail
    go_ret
    exact ⟨by go_light; simp [argOk] <;> (rw [Bool.eq_iff_iff, beq_iff_eq, decide_eq_true_iff]; omega), Ext.refl _⟩
  have t6 : (op == 6) = false := beq_eq_false_iff_ne.2 h6
  by_cases h7 : op = 7
  · subst h7
    go_enter Tryd.func89, Tryd.ntmps89
    go_wp2_with fail
    go_ret
    exact ⟨by go_light; simp [argOk] <;> (rw [Bool.eq_iff_iff, beq_iff_eq, decide_eq_true_iff]; omega), Ext.refl _⟩
  have t7 : (op == 7) = false := beq_eq_false_iff_ne.2 h7
  by_cases h9 : op = 9
  · subst h9
    go_enter Tryd.func89, Tryd.ntmps89
    go_wp2_with fail
    go_ret
    exact ⟨by go_light; simp [argOk] <;> (rw [Bool.eq_iff_iff, beq_iff_eq, decide_eq_true_iff]; omega), Ext.refl _⟩
  have t9 : (op == 9) = false := beq_eq_false_iff_ne.2 h9
  by_cases h10 : op = 10
  · subst h10
    go_enter Tryd.func89, Tryd.ntmps89
    go_wp2_with fail
    go_ret
    exact ⟨by go_light; simp [argOk] <;> (rw [Bool.eq_iff_iff, beq_iff_eq, decide_eq_true_iff]; omega), Ext.refl _⟩
  have t10 : (op == 10) = false := beq_eq_false_iff_ne.2 h10
  by_cases h20 : op = 20
  · subst h20
    go_enter Tryd.func89, Tryd.ntmps89
    go_wp2_with fail
    go_ret
    exact ⟨by go_light; simp [argOk] <;> (rw [Bool.eq_iff_iff, beq_iff_eq, decide_eq_true_iff]; omega), Ext.refl _⟩
  have t20 : (op == 20) = false := beq_eq_false_iff_ne.2 h20
  have EQ : Hid (argOk op n = if 8 ≤ op ∧ op ≤ 19 then decide (n = 2) else false) := Lib.hid (by
    unfold argOk
    rw [if_neg (by omega), if_neg h5, if_neg (by omega), if_neg (by omega), if_neg h20])
  obtain ⟨R, hR⟩ : ∃ R, R = argOk op n := ⟨_, rfl⟩
  rw [← hR] at EQ ⊢
  clear hR h1 h2 h3 h4 h5 h6 h7 h9 h10 h20
  by_cases h8 : 8 ≤ op
  · have t8 : decide (8 ≤ op) = true := decide_eq_true h8
    by_cases h19 : op ≤ 19
    · have t19 : decide (op ≤ 19) = true := decide_eq_true h19
      have ER : Hid (R = decide (n = 2)) := Lib.hid (by rw [EQ.out, if_pos ⟨h8, h19⟩])
      clear EQ h8 h19
      go_enter Tryd.func89, Tryd.ntmps89
      go_wp2_with fail
      go_ret
      exact ⟨by rw [ER.out]; go_light; simp <;> (rw [Bool.eq_iff_iff, beq_iff_eq, decide_eq_true_iff]; omega), Ext.refl _⟩
    · have t19 : decide (op ≤ 19) = false := decide_eq_false h19
      have ER : Hid (R = false) := Lib.hid (by rw [EQ.out, if_neg (fun q => h19 q.2)])
      clear EQ h8 h19
      go_enter Tryd.func89, Tryd.ntmps89
      go_wp2_with fail
      go_ret
      exact ⟨by rw [ER.out]; rfl, Ext.refl _⟩
  · have t8 : decide (8 ≤ op) = false := decide_eq_false h8
    have ER : Hid (R = false) := Lib.hid (by rw [EQ.out, if_neg (fun q => h8 q.1)])
    clear EQ h8
    go_enter Tryd.func89, Tryd.ntmps89
    go_wp2_with fail
    go_ret
    exact ⟨by rw [ER.out]; rfl, Ext.refl _⟩
set_option maxRecDepth 100000 in
set_option maxHeartbeats 4000000 in
theorem RDepth_n : ∀ (m : Nat) (e : E), E.sz e < m → E.sz e ≤ 1000000000 → ∀ w, InE w e → Calls Tryd.prog 43 #[e.v] w fun r w' => r = .returned (.int .i64 ((depE e : Nat) : Int)) ∧ Ext w w' := by
  intro m
  induction m with
  | zero => intro e h; exact absurd h (by omega)
  | succ m ih =>
    intro e hm hsz w he
    have IH := Lib.hid (fun (i : Nat) x (hx : e.args[i]? = some x) w' h => ih x (by have := E.sz_arg hx; omega) (by have := E.sz_arg hx; omega) w' h)
    have HL := he.l
    have hcap := he.l.2
    have HS : Hid (∀ j, depEs (e.args.take j) ≤ 1000000000) := Lib.hid (fun j => by
      have h1 := depEs_sz (e.args.take j)
      have h2 := szs_take e.args j
      have h3 : E.szs e.args + 1 = E.sz e := by obtain ⟨o, v, n, a, c, l⟩ := e; rfl
      omega)
    rw [depE_eq]
    unfold E.v
    clear ih he hm hsz
    obtain ⟨eq0, heq0⟩ : ∃ q, q = e.op := ⟨_, rfl⟩
    obtain ⟨eq1, heq1⟩ : ∃ q, q = e.val := ⟨_, rfl⟩
    obtain ⟨eq2, heq2⟩ : ∃ q, q = e.name := ⟨_, rfl⟩
    obtain ⟨eq3, heq3⟩ : ∃ q, q = e.a := ⟨_, rfl⟩
    obtain ⟨eq4, heq4⟩ : ∃ q, q = e.args.length := ⟨_, rfl⟩
    obtain ⟨eq5, heq5⟩ : ∃ q, q = e.cap := ⟨_, rfl⟩
    simp only [← heq0, ← heq1, ← heq2, ← heq3, ← heq4, ← heq5] at HL hcap ⊢
    have HN := Lib.hid heq4
    clear heq0 heq1 heq2 heq3 heq4 heq5
    replace HL := Lib.hid HL
    go_enter Tryd.func43, Tryd.ntmps43
    go_wp2_with fail
    obtain ⟨w1, hw1⟩ : ∃ q, q = w.alloc (.cells #[.int .i64 eq0, .int .u64 (eq1 : Int), .string eq2, .slice eq3 eq4 eq5] 44) := ⟨_, rfl⟩
    have X1 : Ext w w1 := by rw [hw1]; exact (Ext.refl _).alloc _
    have c3 : w1.cell? ⟨w.heap.size, 3, none⟩ = some (.slice eq3 eq4 eq5) := by rw [hw1]; simp
    rw [← hw1]
    have HX1 := Lib.hid X1
    clear hw1 X1
    go_loopw [3, 4] (DpRel e.args w1) (fun _ s _ => eq4 - (intOf s).toNat)
    case atStart => exact ⟨0, rfl, Nat.zero_le _, rfl, Ext.refl _⟩
    case round =>
      obtain ⟨j, rfl, hj, rfl, hext⟩ := hrel
      rw [← HN.out] at hj
      replace c3 := hext.cell c3
      have HX := Lib.hid hext
      clear hext
      by_cases hlt : j < eq4
      · obtain ⟨x, hxj⟩ := getE (l := e.args) (i := j) (by rw [← HN.out]; exact hlt)
        obtain ⟨⟨b, o, rfl, k0, k1, k2, k3⟩, hin⟩ := (HL.out.to (HX1.out.trans HX.out)).at hxj
        have PC := IH.out j x hxj
        unfold E.v at PC
        have ES : Hid (depEs (e.args.take (j + 1)) = max (depEs (e.args.take j)) (depE x)) := Lib.hid (by rw [take_snoc hxj, depEs_snoc])
        have hb1 := HS.out j
        have hb2 := HS.out (j + 1)
        obtain ⟨D, hD⟩ : ∃ q, q = depEs (e.args.take j) := ⟨_, rfl⟩
        rw [← hD] at ES hb1 ⊢
        rw [ES.out] at hb2
        obtain ⟨d, hd⟩ : ∃ q, q = depE x := ⟨_, rfl⟩
        rw [← hd] at ES PC hb2
        have HIN := Lib.hid hin
        clear hin hxj hD hd
        obtain ⟨xq0, hxq0⟩ : ∃ q, q = x.op := ⟨_, rfl⟩
        obtain ⟨xq1, hxq1⟩ : ∃ q, q = x.val := ⟨_, rfl⟩
        obtain ⟨xq2, hxq2⟩ : ∃ q, q = x.name := ⟨_, rfl⟩
        obtain ⟨xq3, hxq3⟩ : ∃ q, q = x.a := ⟨_, rfl⟩
        obtain ⟨xq4, hxq4⟩ : ∃ q, q = x.args.length := ⟨_, rfl⟩
        obtain ⟨xq5, hxq5⟩ : ∃ q, q = x.cap := ⟨_, rfl⟩
        simp only [← hxq0, ← hxq1, ← hxq2, ← hxq3, ← hxq4, ← hxq5] at k0 k1 k2 k3 PC
        clear hxq0 hxq1 hxq2 hxq3 hxq4 hxq5
        have HPC := Lib.hid PC
        clear PC
        go_wp2_with fail
        refine (HPC.out _ HIN.out).mono ?_; rintro e w2 ⟨rfl, x2⟩
        have X2 := Lib.hid (HX.out.trans x2)
        clear x2 k0 k1 k2 k3 c3
        by_cases hgt : D < d
        · have tg : decide ((D : Int) < (d : Int)) = true := decide_eq_true (by omega)
          have tg2 : decide (D < d) = true := decide_eq_true hgt
          have EM : Hid (max D d = d) := Lib.hid (by omega)
          clear hgt
          go_wp2_with fail
          go_roundw
          case rel => exact ⟨j + 1, by go_num, by rw [← HN.out]; omega, by rw [ES.out, EM.out], X2.out⟩
          case measure => simp [intOf]; omega
        · have tg : decide ((D : Int) < (d : Int)) = false := decide_eq_false (by omega)
          have tg2 : decide (D < d) = false := decide_eq_false hgt
          have EM : Hid (max D d = D) := Lib.hid (by omega)
          clear hgt
          go_wp2_with fail
          go_roundw
          case rel => exact ⟨j + 1, by go_num, by rw [← HN.out]; omega, by rw [ES.out, EM.out], X2.out⟩
          case measure => simp [intOf]; omega
      · obtain rfl : j = eq4 := by omega
        have ET : Hid (e.args.take j = e.args) := Lib.hid (by rw [HN.out, List.take_length])
        have hb1 := HS.out j
        rw [ET.out] at hb1 ⊢
        have X := HX1.out.trans HX.out
        obtain ⟨D, hD⟩ : ∃ q, q = depEs e.args := ⟨_, rfl⟩
        have HD := Lib.hid hD
        rw [← hD] at hb1 ⊢
        clear hD
        go_wp2_with fail
        go_ret
        exact ⟨by rw [← HD.out]; push_cast; rfl, X⟩
theorem RDepth_c (e : E) (w : World) (h : E.sz e ≤ 1000000000) (he : InE w e) : Calls Tryd.prog 43 #[e.v] w fun r w' => r = .returned (.int .i64 ((depE e : Nat) : Int)) ∧ Ext w w' := RDepth_n _ e (Nat.lt_succ_self _) h w he
end Go.Proofs.YtcheigpejbmaoaaDoor
