/- Contracts of the document's layer 6: eval, Encode, Reduced; short. -/
import Derived.Test.YtgnngifnoaagjaaCd5
namespace Go.Proofs.Ytgnngifnoaagjaa
open Go.RowKit

def HRel (p x : Nat) (l : List Nat) (w : World) (o i : Value) (wr : World) : Prop :=
  ∃ k : Nat, i = .int .i64 ((k : Int) - 1) ∧ k ≤ l.length ∧ o = .int .u64 (horner p x (l.drop k)) ∧ Ext w wr

set_option maxRecDepth 100000 in
set_option maxHeartbeats 2000000 in
theorem REval6_c (p : Nat) (l : List Nat) (x : Nat) (a : Option Addr) (c : Nat) (w : World) (ha : Rd w a l) (hl : l.length ≤ 1000000) :
    Calls Try.prog 48 #[.int .u64 p, .slice a l.length c, .int .u64 x] w fun e w' => e = .returned (.int .u64 (horner p x l)) ∧ Ext w w' := by
  have HA := Lib.hid ha
  clear ha
  go_enter Try.func48, Try.ntmps48
  go_wp2
  go_loopw [7, 8] (HRel p x l w) (fun _ i _ => (intOf i + 1).toNat)
  case atStart => exact ⟨l.length, rfl, Nat.le_refl _, by rw [List.drop_length]; rfl, Ext.refl _⟩
  case round =>
    obtain ⟨k, rfl, hk, rfl, hext⟩ := hrel
    by_cases h0 : k = 0
    · subst h0
      have t1 : decide ((0 : Int) ≤ ((0 : Nat) : Int) - 1) = false := by decide
      go_wp2
      go_ret
      exact ⟨by rw [List.drop_zero]; rfl, hext⟩
    · obtain ⟨j, rfl⟩ : ∃ j, k = j + 1 := ⟨k - 1, by omega⟩
      have hj : ((j + 1 : Nat) : Int) - 1 = (j : Int) := by omega
      rw [hj]
      obtain ⟨b, off, rfl, hcell⟩ := HA.out.at (by omega)
      have c1 := hext.cell (hcell j (by omega))
      have E : Hid (horner p x (l.drop j) = fadd p (fmul p (horner p x (l.drop (j + 1))) x) (l.getD j 0)) := Lib.hid (by rw [drop_cons l j (by omega)]; rfl)
      obtain ⟨y, hy0⟩ : ∃ y, y = l.getD j 0 := ⟨_, rfl⟩
      obtain ⟨o, ho0⟩ : ∃ o, o = horner p x (l.drop (j + 1)) := ⟨_, rfl⟩
      rw [← hy0] at c1 E
      rw [← ho0] at E
      rw [← ho0]
      have t1 : decide ((0 : Int) ≤ (j : Int)) = true := decide_eq_true (by omega)
      clear hcell hy0 ho0 hj h0
      go_wp2
      refine region_facts [[], [], [], [], [(1, 17), (2, 18), (3, 19)], [], [], [(5, 21), (6, 22)], [(7, 23)], [(0, 16), (4, 20), (8, 24)], [(9, 25)]] [some 16, some 17, some 18, some 19, some 20, some 21, some 22, some 23, some 24, some 25, some 7] (by kernel_rfl) (by kernel_rfl) ?_
      with_reducible apply From.eq
      · intro w' hx; have c1x := hx.cell c1; (try dsimp only [List.nil_append, List.cons_append]); dsimp only [DepsV, fat, eqF]; go_wp2; exact OpPost.some _ rfl rfl (Ext.refl _) rfl
      with_reducible apply From.eq
      · intro w' hx; have c1x := hx.cell c1; (try dsimp only [List.nil_append, List.cons_append]); dsimp only [DepsV, fat, eqF]; go_wp2; exact OpPost.some _ rfl rfl (Ext.refl _) rfl
      with_reducible apply From.eq
      · intro w' hx; have c1x := hx.cell c1; (try dsimp only [List.nil_append, List.cons_append]); dsimp only [DepsV, fat, eqF]; go_wp2; exact OpPost.some _ rfl rfl (Ext.refl _) rfl
      with_reducible apply From.eq
      · intro w' hx; have c1x := hx.cell c1; (try dsimp only [List.nil_append, List.cons_append]); dsimp only [DepsV, fat, eqF]; go_wp2; exact OpPost.some _ rfl rfl (Ext.refl _) rfl
      with_reducible apply From.eq
      · intro w' hx; have c1x := hx.cell c1; (try dsimp only [List.nil_append, List.cons_append]); dsimp only [DepsV, fat, eqF]; rintro _ rfl _ rfl _ rfl; go_wp2_with (go_at_call 46; refine (RMul_c _ _ _ _).mono ?_; rintro e w2 ⟨rfl, hb2⟩); exact OpPost.some _ rfl rfl hb2 rfl
      with_reducible apply From.eq
      · intro w' hx; have c1x := hx.cell c1; (try dsimp only [List.nil_append, List.cons_append]); dsimp only [DepsV, fat, eqF]; go_wp2; exact OpPost.some _ rfl rfl (Ext.refl _) rfl
      with_reducible apply From.eq
      · intro w' hx; have c1x := hx.cell c1; (try dsimp only [List.nil_append, List.cons_append]); dsimp only [DepsV, fat, eqF]; go_wp2; exact OpPost.some _ rfl rfl (Ext.refl _) rfl
      with_reducible apply From.eq
      · intro w' hx; have c1x := hx.cell c1; (try dsimp only [List.nil_append, List.cons_append]); dsimp only [DepsV, fat, eqF]; rintro _ rfl _ rfl; go_wp2; exact OpPost.some _ rfl rfl (Ext.refl _) rfl
      with_reducible apply From.eq
      · intro w' hx; have c1x := hx.cell c1; (try dsimp only [List.nil_append, List.cons_append]); dsimp only [DepsV, fat, eqF]; rintro _ rfl; go_wp2; exact OpPost.some _ rfl rfl (Ext.refl _) rfl
      with_reducible apply From.eq
      · intro w' hx; have c1x := hx.cell c1; (try dsimp only [List.nil_append, List.cons_append]); dsimp only [DepsV, fat, eqF]; rintro _ rfl _ rfl _ rfl; go_wp2_with (go_at_call 55; refine (RAdd_c _ _ _ _).mono ?_; rintro e w2 ⟨rfl, hb2⟩); exact OpPost.some _ rfl rfl hb2 rfl
      with_reducible apply From.eq
      · intro w' hx; have c1x := hx.cell c1; (try dsimp only [List.nil_append, List.cons_append]); dsimp only [DepsV, fat, eqF]; rintro _ rfl; go_wp2; exact OpPost.some _ rfl rfl (Ext.refl _) rfl
      with_reducible refine From.fin ?_
      intro w' hx
      (try dsimp only [List.nil_append, List.cons_append]); dsimp only [EndV, eqF]; rintro _ rfl _ rfl _ rfl _ rfl _ rfl _ rfl _ rfl _ rfl _ rfl _ rfl _ rfl; simp only [Act.put, List.setIfInBounds_toArray, List.set_cons_zero, List.set_cons_succ]
      go_wp2
      go_roundw
      case rel => exact ⟨j, rfl, by omega, by rw [E.out], hext.trans hx⟩
      case measure => simp [intOf]

/-- The fact of a region: a slice of one number. -/
def OneF (z : Nat) : Fact := fun w v => ∃ g, v = .slice (some ⟨g, 0, none⟩) 1 1 ∧ w.cell? ⟨g, 0, none⟩ = some (.int .u64 (z : Int))
theorem OneF.mono {z : Nat} : Mono (OneF z) := fun _ _ _ hx ⟨g, hv, hc⟩ => ⟨g, hv, hx.cell hc⟩
/-- The document's Encode. -/
def rEnc (p : Nat) (n k : Int) (l : List Nat) : List Nat := tab (cpts p n k).length (fun i => horner p ((cpts p n k).getD i 0) l)
theorem rEnc_val {p : Nat} {n k : Int} (h : cval p n k = true) (l : List Nat) : rEnc p n k l = cword p n.toNat l := by
  unfold rEnc cpts
  rw [if_pos h]
  unfold cword reva
  rw [tab_len]
  exact tab_congr (fun i hi => by rw [tab_get _ _ _ hi])
def REnRel (p : Nat) (D l : List Nat) (w1 : World) (v s : Value) (wr : World) : Prop :=
  ∃ k : Nat, s = .int .i64 k ∧ k ≤ D.length ∧ Own wr w1.heap.size v (tab k (fun i => horner p (D.getD i 0) l)) ∧ Ext w1 wr
theorem cpts_le {p : Nat} {n k : Int} : (cpts p n k).length ≤ 256 := by
  unfold cpts
  split
  · rename_i h
    obtain ⟨_, e, K, N, he, hN, rfl, _⟩ := cval_spec h
    rw [tab_len, Int.toNat_natCast, hN]; exact Nat.pow_le_pow_right (n := 2) (by omega) he
  · simp

set_option maxRecDepth 100000 in
set_option maxHeartbeats 4000000 in
theorem REncode_c (p : Nat) (n k : Int) (l : List Nat) (a : Option Addr) (c : Nat) (w : World) (ha : Rd w a l) (hl : l.length ≤ 1000000) (hn : n ≤ 9223372036854775807) (hn2 : -9223372036854775808 ≤ n) :
    Calls Try.prog 23 #[.agg #[.int .u64 p, .int .i64 n, .int .i64 k], .slice a l.length c] w (SlPost w (rEnc p n k l)) := by
  have HA := Lib.hid ha
  clear ha
  have h0 : (w.alloc (.cells #[.int .u64 p, .int .i64 n, .int .i64 k] 24)).cell? ⟨w.heap.size, 0, none⟩ = some (.int .u64 p) := by simp
  have h1 : (w.alloc (.cells #[.int .u64 p, .int .i64 n, .int .i64 k] 24)).cell? ⟨w.heap.size, 1, none⟩ = some (.int .i64 n) := by simp
  have h2 : (w.alloc (.cells #[.int .u64 p, .int .i64 n, .int .i64 k] 24)).cell? ⟨w.heap.size, 2, none⟩ = some (.int .i64 k) := by simp
  have PC := RCPoints_c p n k
  have hD2 := cpts_le (p := p) (n := n) (k := k)
  unfold rEnc
  obtain ⟨D, hD⟩ : ∃ D, D = cpts p n k := ⟨_, rfl⟩
  rw [← hD] at PC hD2 ⊢
  have HPC := Lib.hid (fun w' => PC w' hn hn2)
  clear PC hD
  go_enter Try.func23, Try.ntmps23
  go_wp2_with fail
  refine (HPC.out _).mono ?_; rintro e w1 ⟨v, rfl, o1, x1⟩
  obtain ⟨a1, c1, rfl, _, _, r1⟩ := o1.form
  have R1 := Lib.hid r1
  have X := x1.box
  have hc := x1.cell h0
  clear r1 o1 h0 h1 h2 x1
  go_wp2_with fail
  go_loopw [5, 7] (REnRel p D l w1) (fun _ i _ => D.length - (intOf i).toNat)
  case atStart => exact ⟨0, rfl, Nat.zero_le _, Own.nil _ _, Ext.refl _⟩
  case round =>
    obtain ⟨j, rfl, hj, ho, hext⟩ := hrel
    replace hc := hext.cell hc
    have HO := Lib.hid ho
    have HX := Lib.hid hext
    clear ho hext
    by_cases hlt : j < D.length
    · obtain ⟨g, off, rfl, hcell⟩ := R1.out.at (by omega)
      have cx := HX.out.cell (hcell j hlt)
      have Es : Hid (tab (j + 1) (fun i => horner p (D.getD i 0) l) = tab j (fun i => horner p (D.getD i 0) l) ++ [horner p (D.getD j 0) l]) := Lib.hid (tab_succ _ _)
      obtain ⟨x, hx0⟩ : ∃ x, x = D.getD j 0 := ⟨_, rfl⟩
      rw [← hx0] at cx Es
      clear hcell hx0
      go_wp2_with fail
      refine region_facts [[], [], [(1, 17)], [], [], [], [(4, 20), (5, 21)], [(6, 22)], [(2, 18), (3, 19), (7, 23)], [(8, 24)]] [some 16, some 17, some 18, some 19, some 20, some 21, some 22, some 23, some 24, some 25] (by kernel_rfl) (by kernel_rfl) ?_
      with_reducible apply From.eq
      · intro w' hx; have hcx := hx.cell hc; have cxx := hx.cell cx; (try dsimp only [List.nil_append, List.cons_append]); dsimp only [DepsV, fat, eqF]; go_wp2; exact OpPost.some _ rfl rfl (Ext.refl _) rfl
      with_reducible apply From.eq
      · intro w' hx; have hcx := hx.cell hc; have cxx := hx.cell cx; (try dsimp only [List.nil_append, List.cons_append]); dsimp only [DepsV, fat, eqF]; go_wp2; exact OpPost.some _ rfl rfl (Ext.refl _) rfl
      with_reducible apply From.eq
      · intro w' hx; have hcx := hx.cell hc; have cxx := hx.cell cx; (try dsimp only [List.nil_append, List.cons_append]); dsimp only [DepsV, fat, eqF]; rintro _ rfl; go_wp2; exact OpPost.some _ rfl rfl (Ext.refl _) rfl
      with_reducible apply From.eq
      · intro w' hx; have hcx := hx.cell hc; have cxx := hx.cell cx; (try dsimp only [List.nil_append, List.cons_append]); dsimp only [DepsV, fat, eqF]; go_wp2; exact OpPost.some _ rfl rfl (Ext.refl _) rfl
      with_reducible apply From.eq
      · intro w' hx; have hcx := hx.cell hc; have cxx := hx.cell cx; (try dsimp only [List.nil_append, List.cons_append]); dsimp only [DepsV, fat, eqF]; go_wp2; exact OpPost.some _ rfl rfl (Ext.refl _) rfl
      with_reducible apply From.eq
      · intro w' hx; have hcx := hx.cell hc; have cxx := hx.cell cx; (try dsimp only [List.nil_append, List.cons_append]); dsimp only [DepsV, fat, eqF]; go_wp2; exact OpPost.some _ rfl rfl (Ext.refl _) rfl
      with_reducible apply From.eq
      · intro w' hx; have hcx := hx.cell hc; have cxx := hx.cell cx; (try dsimp only [List.nil_append, List.cons_append]); dsimp only [DepsV, fat, eqF]; rintro _ rfl _ rfl; go_wp2; exact OpPost.some _ rfl rfl (Ext.refl _) rfl
      with_reducible apply From.eq
      · intro w' hx; have hcx := hx.cell hc; have cxx := hx.cell cx; (try dsimp only [List.nil_append, List.cons_append]); dsimp only [DepsV, fat, eqF]; rintro _ rfl; go_wp2; exact OpPost.some _ rfl rfl (Ext.refl _) rfl
      with_reducible apply From.eq
      · intro w' hx; have hcx := hx.cell hc; have cxx := hx.cell cx; (try dsimp only [List.nil_append, List.cons_append]); dsimp only [DepsV, fat, eqF]; rintro _ rfl _ rfl _ rfl; go_wp2_with (go_at_call 48; refine (REval6_c p l x a c _ (HA.out.ext ((X.trans HX.out).trans hx)) hl).mono ?_; rintro e w2 ⟨rfl, hb2⟩); exact OpPost.some _ rfl rfl hb2 rfl
      -- 9: t25
      refine From.step (OneF (horner p x l)) OneF.mono ?_ ?_
      · intro w' hx; have hcx := hx.cell hc; have cxx := hx.cell cx; (try dsimp only [List.nil_append, List.cons_append]); dsimp only [DepsV, fat, eqF]; rintro _ rfl; go_wp2; exact OpPost.some _ rfl rfl ((Ext.refl _).alloc _) ⟨_, rfl, by simp⟩
      with_reducible refine From.fin ?_
      intro w' hx
      (try dsimp only [List.nil_append, List.cons_append]); dsimp only [EndV, eqF]; rintro _ rfl _ rfl _ rfl _ rfl _ rfl _ rfl _ rfl _ rfl _ rfl v9 h9; simp only [Act.put, List.setIfInBounds_toArray, List.set_cons_zero, List.set_cons_succ]
      obtain ⟨g1, rfl, hg1⟩ := h9
      obtain ⟨wa, rfl⟩ : ∃ wa : World, wa = w' := ⟨_, rfl⟩
      go_wp2_with (at_builtin; refine wpList_app1 rfl (.tmp 16) (.tmp 25) rfl w1.heap.size _ _ rfl (HO.out.grow hx) g1 (horner p x l) 1 rfl hg1 (by rw [tab_len]; omega) (HX.out.trans hx).size ?_; intro v' w3 hown3 hx3 _)
      go_roundw
      case rel =>
        refine ⟨j + 1, by go_num, by omega, ?_, hx3 _ (HX.out.trans hx) (Nat.le_refl _)⟩
        rw [Es.out]; exact hown3
      case measure => simp [intOf]; omega
    · obtain rfl : j = D.length := by omega
      have XX := X.trans HX.out
      have HO2 : Hid (Own wr w.heap.size _ (tab D.length (fun i => horner p (D.getD i 0) l))) := Lib.hid (HO.out.base X.size)
      clear HO
      go_wp2_with fail
      go_ret
      exact ⟨_, rfl, HO2.out, XX⟩

/-- A slice of slices that can be read: for each its address, length and capacity. -/
def RdV (w : World) (a : Option Addr) (L : List (Option Addr × Nat × Nat)) : Prop :=
  L = [] ∨ ∃ b off, a = some ⟨b, off, none⟩ ∧ ∀ i, i < L.length → w.cell? ⟨b, off + i, none⟩ = some (.slice (L.getD i (none, 0, 0)).1 (L.getD i (none, 0, 0)).2.1 (L.getD i (none, 0, 0)).2.2)
theorem RdV.at {w : World} {a : Option Addr} {L : List (Option Addr × Nat × Nat)} (h : RdV w a L) (hl : 0 < L.length) : ∃ b off, a = some ⟨b, off, none⟩ ∧ ∀ i, i < L.length → w.cell? ⟨b, off + i, none⟩ = some (.slice (L.getD i (none, 0, 0)).1 (L.getD i (none, 0, 0)).2.1 (L.getD i (none, 0, 0)).2.2) := by
  rcases h with h | h
  · subst h; simp at hl
  · exact h
theorem RdV.ext {w w' : World} {a : Option Addr} {L : List (Option Addr × Nat × Nat)} (h : RdV w a L) (hx : Ext w w') : RdV w' a L := by
  rcases h with h | ⟨b, off, ha, hc⟩
  · exact .inl h
  · exact .inr ⟨b, off, ha, fun i hi => hx.cell (hc i hi)⟩
def shL (L : List (Option Addr × Nat × Nat)) : Bool := decide (∀ i, i < L.length → (L.getD i (none, 0, 0)).2.1 ≤ 300)
def shB (p : Nat) (n k : Int) (L : List (Option Addr × Nat × Nat)) : Bool := shL L && (decide (n ≤ 64) || !cval p n k)
def SRel (L : List (Option Addr × Nat × Nat)) (w1 : World) (s : Value) (wr : World) : Prop :=
  ∃ j : Nat, s = .int .i64 j ∧ j ≤ L.length ∧ (∀ i, i < j → (L.getD i (none, 0, 0)).2.1 ≤ 300) ∧ Ext w1 wr

set_option maxRecDepth 100000 in
set_option maxHeartbeats 2000000 in
theorem short_c (p : Nat) (n k : Int) (L : List (Option Addr × Nat × Nat)) (a : Option Addr) (c : Nat) (w : World) (ha : RdV w a L) (hl : L.length ≤ 1000000) (hn : n ≤ 9223372036854775807) (hn2 : -9223372036854775808 ≤ n) :
    Calls Try.prog 13 #[.agg #[.int .u64 p, .int .i64 n, .int .i64 k], .slice a L.length c] w fun e w' => e = .returned (.bool (shB p n k L)) ∧ Ext w w' := by
  have HA := Lib.hid ha
  have VC := Lib.hid (fun w' => RCValid_c p n k w' hn hn2)
  clear ha
  have h0 : (w.alloc (.cells #[.int .u64 p, .int .i64 n, .int .i64 k] 24)).cell? ⟨w.heap.size, 0, none⟩ = some (.int .u64 p) := by simp
  have h1 : (w.alloc (.cells #[.int .u64 p, .int .i64 n, .int .i64 k] 24)).cell? ⟨w.heap.size, 1, none⟩ = some (.int .i64 n) := by simp
  have h2 : (w.alloc (.cells #[.int .u64 p, .int .i64 n, .int .i64 k] 24)).cell? ⟨w.heap.size, 2, none⟩ = some (.int .i64 k) := by simp
  go_enter Try.func13, Try.ntmps13
  go_wp2_with fail
  go_loopw [9] (SRel L (w.alloc (.cells #[.int .u64 p, .int .i64 n, .int .i64 k] 24))) (fun i _ => L.length - (intOf i).toNat)
  case atStart => exact ⟨0, rfl, Nat.zero_le _, fun i hi => absurd hi (by omega), Ext.refl _⟩
  case round =>
    obtain ⟨j, rfl, hj, hall, hext⟩ := hrel
    have HX := Lib.hid hext
    have HL := Lib.hid hall
    replace h0 := hext.cell h0
    replace h1 := hext.cell h1
    replace h2 := hext.cell h2
    clear hext hall
    by_cases hlt : j < L.length
    · obtain ⟨g, off, rfl, hcell⟩ := HA.out.at (by omega)
      have cx := HX.out.box.cell (hcell j hlt)
      obtain ⟨⟨a1, m, c1⟩, hm⟩ : ∃ y, y = L.getD j (none, 0, 0) := ⟨_, rfl⟩
      rw [← hm] at cx
      have HM := Lib.hid hm
      clear hcell hm
      by_cases h3 : m ≤ 300
      · have t1 : decide ((300 : Int) < (m : Int)) = false := decide_eq_false (by omega)
        go_wp2_with fail
        go_roundw
        case rel =>
          refine ⟨j + 1, by go_num, by omega, fun i hi => ?_, HX.out⟩
          by_cases hij : i = j
          · subst hij; rw [← HM.out]; exact h3
          · exact HL.out i (by omega)
        case measure => simp [intOf]; omega
      · have t1 : decide ((300 : Int) < (m : Int)) = true := decide_eq_true (by omega)
        have E : Hid (shB p n k L = false) := Lib.hid (by
          unfold shB shL
          rw [decide_eq_false (fun h => h3 (by have := h j hlt; rw [← HM.out] at this; exact this))]; rfl)
        go_wp2_with fail
        go_ret
        exact ⟨by rw [E.out]; rfl, HX.out.box⟩
    · obtain rfl : j = L.length := by omega
      have E : Hid (shB p n k L = (decide (n ≤ 64) || !cval p n k)) := Lib.hid (by
        unfold shB shL
        rw [decide_eq_true (fun i hi => HL.out i hi)]; rfl)
      by_cases h3 : n ≤ 64
      · have t1 : decide (n ≤ 64) = true := decide_eq_true h3
        rw [t1] at E
        go_wp2_with fail
        go_ret
        exact ⟨by rw [E.out]; rfl, HX.out.box⟩
      · have t1 : decide (n ≤ 64) = false := decide_eq_false h3
        rw [t1] at E
        go_wp2_with fail
        refine (VC.out _).mono ?_; rintro e w2 ⟨rfl, x2⟩
        go_wp2_with fail
        go_ret
        exact ⟨by rw [E.out]; rfl, HX.out.box.trans x2⟩
end Go.Proofs.Ytgnngifnoaagjaa
