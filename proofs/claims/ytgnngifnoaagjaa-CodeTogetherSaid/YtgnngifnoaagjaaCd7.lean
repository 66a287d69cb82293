/- Contracts: code.Contains; the document's Reduced. -/
import Derived.Test.YtgnngifnoaagjaaCd6
namespace Go.Proofs.Ytgnngifnoaagjaa
open Go.RowKit

def cCon (p : Nat) (n k : Int) (l : List Nat) : Bool := cval p n k && (decide ((l.length : Int) = n) && decide (((cpoly p n.toNat l).length : Int) ≤ k))

set_option maxRecDepth 100000 in
set_option maxHeartbeats 2000000 in
theorem Contains_c (p : Nat) (n k : Int) (l : List Nat) (a : Option Addr) (c : Nat) (w : World) (ha : Rd w a l) (hn : n ≤ 9223372036854775807) (hn2 : -9223372036854775808 ≤ n) :
    Calls Try.prog 31 #[.agg #[.int .u64 p, .int .i64 n, .int .i64 k], .slice a l.length c] w fun e w' => e = .returned (.bool (cCon p n k l)) ∧ Ext w w' := by
  have HA := Lib.hid ha
  clear ha
  have VC := fun w' => CValid_c p n k w' hn hn2
  have h0 : (w.alloc (.cells #[.int .u64 p, .int .i64 n, .int .i64 k] 31)).cell? ⟨w.heap.size, 0, none⟩ = some (.int .u64 p) := by simp
  have h1 : (w.alloc (.cells #[.int .u64 p, .int .i64 n, .int .i64 k] 31)).cell? ⟨w.heap.size, 1, none⟩ = some (.int .i64 n) := by simp
  have h2 : (w.alloc (.cells #[.int .u64 p, .int .i64 n, .int .i64 k] 31)).cell? ⟨w.heap.size, 2, none⟩ = some (.int .i64 k) := by simp
  cases hc : cval p n k
  · have E : Hid (cCon p n k l = false) := Lib.hid (by unfold cCon; rw [hc]; rfl)
    rw [hc] at VC
    have HVC := Lib.hid VC
    clear VC hc
    go_enter Try.func31, Try.ntmps31
    go_wp2_with fail
    refine (HVC.out _).mono ?_; rintro e w1 ⟨rfl, x1⟩
    go_wp2_with fail
    go_ret
    exact ⟨by rw [E.out]; rfl, x1.box⟩
  rw [hc] at VC
  have HVC := Lib.hid VC
  clear VC
  by_cases hl : (l.length : Int) = n
  case neg =>
    have t1 : ((l.length : Int) != n) = true := bne_iff_ne.2 hl
    have E : Hid (cCon p n k l = false) := Lib.hid (by unfold cCon; rw [decide_eq_false hl, Bool.false_and, Bool.and_false])
    clear hc hl
    go_enter Try.func31, Try.ntmps31
    go_wp2_with fail
    refine (HVC.out _).mono ?_; rintro e w1 ⟨rfl, x1⟩
    replace h1 := x1.cell h1
    go_wp2_with fail
    go_ret
    exact ⟨by rw [E.out]; rfl, x1.box⟩
  have t1 : ((l.length : Int) != n) = false := by rw [hl]; simp
  have E : Hid (cCon p n k l = decide (((cpoly p n.toNat l).length : Int) ≤ k)) := Lib.hid (by unfold cCon; rw [decide_eq_true hl, hc]; rfl)
  have PC : Hid (∀ w', Rd w' a l → Calls Try.prog 53 #[.agg #[.int .u64 p, .int .i64 n, .int .i64 k], .slice a l.length c] w' (SlPost w' (cpoly p n.toNat l))) := Lib.hid (fun w' hr => by
    obtain ⟨_, f, K, N, hf, hN, rfl, rfl, _⟩ := cval_spec hc
    rw [Int.toNat_natCast]
    exact polynomial_c p N K l a c w' (cval_W hc) hr (by omega) (by rw [hN]; exact Nat.le_trans (Nat.pow_le_pow_right (n := 2) (by omega) hf) (by decide)))
  have HL := Lib.hid hl
  obtain ⟨D, hD⟩ : ∃ D, D = cpoly p n.toNat l := ⟨_, rfl⟩
  rw [← hD] at PC E
  clear hc hl hD
  go_enter Try.func31, Try.ntmps31
  go_wp2_with fail
  refine (HVC.out _).mono ?_; rintro e w1 ⟨rfl, x1⟩
  replace h0 := x1.cell h0
  replace h1 := x1.cell h1
  replace h2 := x1.cell h2
  have X := x1.box
  clear x1
  go_wp2_with fail
  refine region_facts [[], [], [(0, 15), (1, 16)], [(2, 17)], [], [(4, 19)], [(3, 18), (5, 20)], [(6, 21)]] [some 15, some 16, some 17, some 18, some 19, some 20, some 21, some 4] (by kernel_rfl) (by kernel_rfl) ?_
  with_reducible apply From.eq
  · intro w' hx; have h0x := hx.cell h0; have h1x := hx.cell h1; have h2x := hx.cell h2; (try dsimp only [List.nil_append, List.cons_append]); dsimp only [DepsV, fat, eqF]; go_wp2; exact OpPost.some _ rfl rfl (Ext.refl _) rfl
  with_reducible apply From.eq
  · intro w' hx; have h0x := hx.cell h0; have h1x := hx.cell h1; have h2x := hx.cell h2; (try dsimp only [List.nil_append, List.cons_append]); dsimp only [DepsV, fat, eqF]; go_wp2; exact OpPost.some _ rfl rfl (Ext.refl _) rfl
  refine From.step (OwnF w.heap.size D) (OwnF.mono) ?_ ?_
  · intro w' hx; have h0x := hx.cell h0; have h1x := hx.cell h1; have h2x := hx.cell h2; (try dsimp only [List.nil_append, List.cons_append]); dsimp only [DepsV, fat, eqF]; rintro _ rfl _ rfl; skip;
    go_wp2_with (go_at_call 53; refine (PC.out _ (HA.out.ext (X.trans hx))).mono ?_; rintro e w2 ⟨v, rfl, ho, hn'⟩); exact OpPost.some _ rfl rfl hn' (ho.base (X.trans hx).size)
  -- 3: t18
  with_reducible apply From.eq
  · intro w' hx; have h0x := hx.cell h0; have h1x := hx.cell h1; have h2x := hx.cell h2; (try dsimp only [List.nil_append, List.cons_append]); dsimp only [DepsV, fat, eqF]; rintro v2 k2; obtain ⟨a2, c2, rfl, _, _, r2⟩ := Own.form k2; go_wp2; exact OpPost.some _ rfl rfl (Ext.refl _) rfl
  with_reducible apply From.eq
  · intro w' hx; have h0x := hx.cell h0; have h1x := hx.cell h1; have h2x := hx.cell h2; (try dsimp only [List.nil_append, List.cons_append]); dsimp only [DepsV, fat, eqF]; go_wp2; exact OpPost.some _ rfl rfl (Ext.refl _) rfl
  with_reducible apply From.eq
  · intro w' hx; have h0x := hx.cell h0; have h1x := hx.cell h1; have h2x := hx.cell h2; (try dsimp only [List.nil_append, List.cons_append]); dsimp only [DepsV, fat, eqF]; rintro _ rfl; go_wp2; exact OpPost.some _ rfl rfl (Ext.refl _) rfl
  with_reducible apply From.eq
  · intro w' hx; have h0x := hx.cell h0; have h1x := hx.cell h1; have h2x := hx.cell h2; (try dsimp only [List.nil_append, List.cons_append]); dsimp only [DepsV, fat, eqF]; rintro _ rfl _ rfl; go_wp2; exact OpPost.some _ rfl rfl (Ext.refl _) rfl
  with_reducible apply From.eq
  · intro w' hx; have h0x := hx.cell h0; have h1x := hx.cell h1; have h2x := hx.cell h2; (try dsimp only [List.nil_append, List.cons_append]); dsimp only [DepsV, fat, eqF]; rintro _ rfl; go_wp2; exact OpPost.some _ rfl rfl (Ext.refl _) rfl
  with_reducible refine From.fin ?_
  intro w' hx
  (try dsimp only [List.nil_append, List.cons_append]); dsimp only [EndV, eqF]; rintro _ rfl _ rfl v2 k2 _ rfl _ rfl _ rfl _ rfl _ rfl; simp only [Act.put, List.setIfInBounds_toArray, List.set_cons_zero, List.set_cons_succ]
  clear k2
  go_wp2_with fail
  go_ret
  exact ⟨by rw [E.out]; rfl, X.trans hx⟩

def Rd6Rel (p : Nat) (l : List Nat) (w1 : World) (v s : Value) (wr : World) : Prop :=
  ∃ k : Nat, s = .int .i64 k ∧ k ≤ l.length ∧ Own wr w1.heap.size v (tab k (fun i => fred p (l.getD i 0))) ∧ Ext w1 wr
theorem tab_map (l : List Nat) (F : Nat → Nat) : tab l.length (fun i => F (l.getD i 0)) = l.map F := by
  apply List.ext_getElem?
  intro i
  unfold tab
  simp only [List.getElem?_map]
  by_cases h : i < l.length
  · rw [List.getElem?_eq_getElem (by simpa using h), List.getElem?_eq_getElem h]
    simp [List.getElem?_eq_getElem h]
  · rw [List.getElem?_eq_none (by simpa using h), List.getElem?_eq_none (by omega)]; rfl

set_option maxRecDepth 100000 in
set_option maxHeartbeats 4000000 in
theorem RReduced6_c (p : Nat) (l : List Nat) (a : Option Addr) (c : Nat) (w : World) (ha : Rd w a l) (hl : l.length ≤ 1000000) :
    Calls Try.prog 29 #[.int .u64 p, .slice a l.length c] w (SlPost w (l.map (fred p))) := by
  have HA := Lib.hid ha
  have HT : Hid (l.map (fred p) = tab l.length (fun i => fred p (l.getD i 0))) := Lib.hid (tab_map l (fred p)).symm
  clear ha
  go_enter Try.func29, Try.ntmps29
  go_wp2_with fail
  go_loopw [5, 6] (Rd6Rel p l w) (fun _ i _ => l.length - (intOf i).toNat)
  case atStart => exact ⟨0, rfl, Nat.zero_le _, Own.nil _ _, Ext.refl _⟩
  case round =>
    obtain ⟨j, rfl, hj, ho, hext⟩ := hrel
    have HO := Lib.hid ho
    have HX := Lib.hid hext
    clear ho hext
    by_cases hlt : j < l.length
    · obtain ⟨g, off, rfl, hcell⟩ := HA.out.at (by omega)
      have cx := HX.out.cell (hcell j hlt)
      have Es : Hid (tab (j + 1) (fun i => fred p (l.getD i 0)) = tab j (fun i => fred p (l.getD i 0)) ++ [fred p (l.getD j 0)]) := Lib.hid (tab_succ _ _)
      obtain ⟨x, hx0⟩ : ∃ x, x = l.getD j 0 := ⟨_, rfl⟩
      rw [← hx0] at cx Es
      clear hcell hx0
      go_wp2_with fail
      refine (RReduce_c _ _ _).mono ?_; rintro e w2 ⟨rfl, x2⟩
      have hx := Ext.trans x2 ((Ext.refl w2).alloc (.cells #[.int .u64 (fred p x)] 22))
      have hg1 : (w2.alloc (.cells #[.int .u64 (fred p x)] 22)).cell? ⟨w2.heap.size, 0, none⟩ = some (.int .u64 (fred p x : Nat)) := by simp
      go_wp2_with (at_builtin; refine wpList_app1 rfl (.tmp 13) (.tmp 20) rfl w.heap.size _ _ rfl (HO.out.grow hx) w2.heap.size (fred p x) 1 rfl hg1 (by rw [tab_len]; omega) (HX.out.trans hx).size ?_; intro v' w3 hown3 hx3 _)
      go_roundw
      case rel =>
        refine ⟨j + 1, by go_num, by omega, ?_, hx3 _ (HX.out.trans hx) (Nat.le_refl _)⟩
        rw [Es.out]; exact hown3
      case measure => simp [intOf]; omega
    · obtain rfl : j = l.length := by omega
      go_wp2_with fail
      go_ret
      exact ⟨_, rfl, by rw [HT.out]; exact HO.out, HX.out⟩
end Go.Proofs.Ytgnngifnoaagjaa
