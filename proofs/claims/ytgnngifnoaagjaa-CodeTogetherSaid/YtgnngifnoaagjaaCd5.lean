/- Contracts of package code: Encode, Nearest; the fixed examples. -/
import Derived.Test.YtgnngifnoaagjaaCd4
namespace Go.Proofs.Ytgnngifnoaagjaa
open Go.RowKit

set_option maxHeartbeats 1000000 in
theorem own_c (l : List Nat) (a : Option Addr) (c : Nat) (w : World) (ha : Rd w a l) (hl : l.length ≤ 1000000) :
    Calls Try.prog 16 #[.slice a l.length c] w (SlPost w l) := by
  have HO : Hid (Own (w.alloc (.cells #[] 22)) w.heap.size (.slice (some ⟨w.heap.size, 0, none⟩) 0 0) []) := Lib.hid (by
    have hb : Blk (w.alloc (.cells #[] 22)) w.heap.size (rowA ([] ++ [])) := Blk.new _ _
    exact Own.ofBlk hb (Nat.le_refl _) (by simp [maxLen]))
  have HA := Lib.hid ha
  clear ha
  go_enter Try.func16, Try.ntmps16
  go_wp2_with (at_builtin; refine wpList_app rfl (.tmp 3) (.tmp 4) rfl w.heap.size _ _ rfl HO.out a l c rfl (HA.out.ext ((Ext.refl _).alloc _)) (by simp; omega) (by simp) ?_; intro v' w2 hown2 hx2 _)
  go_ret
  rw [List.nil_append] at hown2
  exact ⟨v', rfl, hown2, hx2 w ((Ext.refl _).alloc _) (Nat.le_refl _)⟩

set_option maxHeartbeats 1000000 in
theorem of_c (p : Nat) (n k : Int) (w : World) :
    Calls Try.prog 15 #[.agg #[.int .u64 p, .int .i64 n, .int .i64 k]] w fun e w' => e = .returned (.agg #[.int .u64 p, .int .i64 n, .int .i64 k]) ∧ Ext w w' := by
  go_enter Try.func15, Try.ntmps15
  go_wp2
  go_returns
  exact ⟨rfl, ((Ext.refl _).alloc _).alloc _⟩

/-- Encode. -/
def cEnc (p : Nat) (n k : Int) (a : List Nat) : List Nat × Int :=
  if vld p = false then ([], 7) else if cval p n k = true ∧ (a.length : Int) ≤ k then (cword p n.toNat a, 0) else ([], 1)
theorem cval_W {p : Nat} {N : Nat} {k : Int} (h : cval p N k = true) : WIn p N := by
  obtain ⟨h1, e, K, N', _, _, h2, _, _, _, _, _, ho⟩ := cval_spec h
  exact ⟨h1, ho⟩

set_option maxRecDepth 100000 in
set_option maxHeartbeats 2000000 in
theorem Encode_c (p : Nat) (n k : Int) (l : List Nat) (a : Option Addr) (c : Nat) (w : World) (ha : Rd w a l) (hl : l.length ≤ 1000000) (hn : n ≤ 9223372036854775807) (hn2 : -9223372036854775808 ≤ n) :
    Calls Try.prog 14 #[.agg #[.int .u64 p, .int .i64 n, .int .i64 k], .slice a l.length c] w (IPost w (cEnc p n k l).1 (cEnc p n k l).2) := by
  have HA := Lib.hid ha
  clear ha
  have h0 : (w.alloc (.cells #[.int .u64 p, .int .i64 n, .int .i64 k] 31)).cell? ⟨w.heap.size, 0, none⟩ = some (.int .u64 p) := by simp
  have h1 : (w.alloc (.cells #[.int .u64 p, .int .i64 n, .int .i64 k] 31)).cell? ⟨w.heap.size, 1, none⟩ = some (.int .i64 n) := by simp
  have h2 : (w.alloc (.cells #[.int .u64 p, .int .i64 n, .int .i64 k] 31)).cell? ⟨w.heap.size, 2, none⟩ = some (.int .i64 k) := by simp
  cases hv : vld p
  · have V := Lib.hid hv
    have E : Hid (cEnc p n k l = ([], 7)) := Lib.hid (by unfold cEnc; rw [if_pos hv])
    clear hv
    go_enter Try.func14, Try.ntmps14
    go_wp2_with fail
    refine (Valid_c _ _).mono ?_; rintro e w1 ⟨rfl, x1⟩; rw [V.out]
    go_wp2_with fail
    go_ret2
    rw [E.out]; exact ⟨_, rfl, Own.nil _ _, x1.box⟩
  have V := Lib.hid hv
  have VC := Lib.hid (fun w' => CValid_c p n k w' hn hn2)
  have hv2 : ¬ vld p = false := by rw [hv]; simp
  clear hv
  cases hc : cval p n k
  · have C := Lib.hid hc
    have E : Hid (cEnc p n k l = ([], 1)) := Lib.hid (by unfold cEnc; rw [if_neg hv2, if_neg (fun h => by rw [hc] at h; cases h.1)])
    clear hc hv2
    go_enter Try.func14, Try.ntmps14
    go_wp2_with fail
    refine (Valid_c _ _).mono ?_; rintro e w1 ⟨rfl, x1⟩; rw [V.out]
    replace h0 := x1.cell h0
    replace h1 := x1.cell h1
    replace h2 := x1.cell h2
    go_wp2_with fail
    refine (VC.out _).mono ?_; rintro e w2 ⟨rfl, x2⟩; rw [C.out]
    go_wp2_with fail
    go_ret2
    rw [E.out]; exact ⟨_, rfl, Own.nil _ _, x1.box.trans x2⟩
  have C := Lib.hid hc
  obtain ⟨_, e, K, N, he, hN, rfl, rfl, hK1, hK2, hNp, hd, ho⟩ := cval_spec hc
  have hN2 : N ≤ 256 := by rw [hN]; exact Nat.pow_le_pow_right (n := 2) (by omega) he
  by_cases hk : l.length ≤ K
  case neg =>
    have E : Hid (cEnc p N K l = ([], 1)) := Lib.hid (by unfold cEnc; rw [if_neg hv2, if_neg (fun h => by omega)])
    have hk2 : K < l.length := by omega
    clear hc hv2 hk hd ho hN
    go_enter Try.func14, Try.ntmps14
    go_wp2_with fail
    refine (Valid_c _ _).mono ?_; rintro e w1 ⟨rfl, x1⟩; rw [V.out]
    replace h0 := x1.cell h0
    replace h1 := x1.cell h1
    replace h2 := x1.cell h2
    go_wp2_with fail
    refine (VC.out _).mono ?_; rintro e w2 ⟨rfl, x2⟩; rw [C.out]
    replace h2 := x2.cell h2
    go_wp2_with fail
    go_ret2
    rw [E.out]; exact ⟨_, rfl, Own.nil _ _, x1.box.trans x2⟩
  have E : Hid (cEnc p N K l = (cword p N l, 0)) := Lib.hid (by unfold cEnc; rw [if_neg hv2, if_pos ⟨hc, by omega⟩, Int.toNat_natCast])
  have WC := Lib.hid (fun w' (hr : Rd w' a l) => word_c p N K l a c w' (cval_W hc) hr (by omega) (by omega))
  clear hc hv2 hd ho hN
  go_enter Try.func14, Try.ntmps14
  go_wp2_with fail
  refine (Valid_c _ _).mono ?_; rintro e w1 ⟨rfl, x1⟩; rw [V.out]
  replace h0 := x1.cell h0
  replace h1 := x1.cell h1
  replace h2 := x1.cell h2
  go_wp2_with fail
  refine (VC.out _).mono ?_; rintro e w2 ⟨rfl, x2⟩; rw [C.out]
  replace h0 := x2.cell h0
  replace h1 := x2.cell h1
  replace h2 := x2.cell h2
  have X := x1.box.trans x2
  go_wp2_with fail
  refine (WC.out _ (HA.out.ext X)).mono ?_; rintro e w3 ⟨v, rfl, o3, x3⟩
  go_wp2_with fail
  go_ret2
  rw [E.out]; exact ⟨_, rfl, o3.base X.size, X.trans x3⟩

/-- Nearest of a word of the right length, within half the distance. -/
def N3Post (w : World) (o : Option (List Nat)) (n : Int) (e : Ending) (w' : World) : Prop :=
  ∃ v, e = .returned (.tuple #[v, .bool o.isSome, .int .i64 n]) ∧ Own w' w.heap.size v (o.getD []) ∧ Ext w w'
def cNear (p : Nat) (n k : Int) (l : List Nat) (e : Int) : Option (List Nat) × Int :=
  if vld p = false then (none, 7) else if cval p n k = true ∧ (l.length : Int) = n ∧ 0 ≤ e ∧ e ≤ (n - k) / 2 then (nearM p n.toNat k.toNat l e, 0) else (none, 1)

set_option maxRecDepth 100000 in
set_option maxHeartbeats 2000000 in
theorem Nearest_c (p : Nat) (n k : Int) (l : List Nat) (e : Int) (a : Option Addr) (c : Nat) (w : World) (ha : Rd w a l) (_hl : l.length ≤ 1000000) (hn : n ≤ 9223372036854775807) (hn2 : -9223372036854775808 ≤ n) :
    Calls Try.prog 27 #[.agg #[.int .u64 p, .int .i64 n, .int .i64 k], .slice a l.length c, .int .i64 e] w (N3Post w (cNear p n k l e).1 (cNear p n k l e).2) := by
  have HA := Lib.hid ha
  clear ha
  have h0 : (w.alloc (.cells #[.int .u64 p, .int .i64 n, .int .i64 k] 31)).cell? ⟨w.heap.size, 0, none⟩ = some (.int .u64 p) := by simp
  have h1 : (w.alloc (.cells #[.int .u64 p, .int .i64 n, .int .i64 k] 31)).cell? ⟨w.heap.size, 1, none⟩ = some (.int .i64 n) := by simp
  have h2 : (w.alloc (.cells #[.int .u64 p, .int .i64 n, .int .i64 k] 31)).cell? ⟨w.heap.size, 2, none⟩ = some (.int .i64 k) := by simp
  cases hv : vld p
  · have V := Lib.hid hv
    have E : Hid (cNear p n k l e = (none, 7)) := Lib.hid (by unfold cNear; rw [if_pos hv])
    clear hv
    go_enter Try.func27, Try.ntmps27
    go_wp2_with fail
    refine (Valid_c _ _).mono ?_; rintro e w1 ⟨rfl, x1⟩; rw [V.out]
    have X := x1.box
    go_wp2_with fail
    go_ret3
    rw [E.out]; exact ⟨_, rfl, Own.nil _ _, X⟩
  have V := Lib.hid hv
  have VC := Lib.hid (fun w' => CValid_c p n k w' hn hn2)
  have hv2 : ¬ vld p = false := by rw [hv]; simp
  clear hv
  cases hc : cval p n k
  · have C := Lib.hid hc
    have E : Hid (cNear p n k l e = (none, 1)) := Lib.hid (by unfold cNear; rw [if_neg hv2, if_neg (fun h => by rw [hc] at h; cases h.1)])
    clear hc hv2
    go_enter Try.func27, Try.ntmps27
    go_wp2_with fail
    refine (Valid_c _ _).mono ?_; rintro e w1 ⟨rfl, x1⟩; rw [V.out]
    have X := x1.box
    replace h0 := x1.cell h0
    replace h1 := x1.cell h1
    replace h2 := x1.cell h2
    clear x1
    go_wp2_with fail
    refine (VC.out _).mono ?_; rintro e w2 ⟨rfl, x2⟩; rw [C.out]
    replace h0 := x2.cell h0
    replace h1 := x2.cell h1
    replace h2 := x2.cell h2
    replace X := X.trans x2
    clear x2
    go_wp2_with fail
    go_ret3
    rw [E.out]; exact ⟨_, rfl, Own.nil _ _, X⟩
  have C := Lib.hid hc
  obtain ⟨_, f, K, N, hf, hN, rfl, rfl, hK1, hK2, hNp, hd, ho⟩ := cval_spec hc
  have hN2 : N ≤ 256 := by rw [hN]; exact Nat.pow_le_pow_right (n := 2) (by omega) hf
  obtain ⟨q, hq⟩ : ∃ q : Nat, q = (N - K) / 2 := ⟨_, rfl⟩
  have hq2 : ((N : Int) - (K : Int)) / 2 = (q : Int) := by omega
  have hqn : q ≤ 256 := by omega
  clear hd ho hN hf hq
  by_cases b1 : l.length = N
  case neg =>
    have t1 : ((l.length : Int) != (N : Int)) = true := bne_iff_ne.2 (by omega)
    have E : Hid (cNear p N K l e = (none, 1)) := Lib.hid (by unfold cNear; rw [if_neg hv2, if_neg (fun h => by omega)])
    clear hc hv2 b1
    go_enter Try.func27, Try.ntmps27
    go_wp2_with fail
    refine (Valid_c _ _).mono ?_; rintro e w1 ⟨rfl, x1⟩; rw [V.out]
    have X := x1.box
    replace h0 := x1.cell h0
    replace h1 := x1.cell h1
    replace h2 := x1.cell h2
    clear x1
    go_wp2_with fail
    refine (VC.out _).mono ?_; rintro e w2 ⟨rfl, x2⟩; rw [C.out]
    replace h0 := x2.cell h0
    replace h1 := x2.cell h1
    replace h2 := x2.cell h2
    replace X := X.trans x2
    clear x2
    go_wp2_with fail
    go_ret3
    rw [E.out]; exact ⟨_, rfl, Own.nil _ _, X⟩
  have t1 : ((l.length : Int) != (N : Int)) = false := by rw [b1]; simp
  by_cases b2 : 0 ≤ e
  case neg =>
    have t2 : decide (e < 0) = true := decide_eq_true (by omega)
    have E : Hid (cNear p N K l e = (none, 1)) := Lib.hid (by unfold cNear; rw [if_neg hv2, if_neg (fun h => b2 h.2.2.1)])
    have HB1 := Lib.hid b1
    clear hc hv2 b2 b1
    go_enter Try.func27, Try.ntmps27
    go_wp2_with fail
    refine (Valid_c _ _).mono ?_; rintro e w1 ⟨rfl, x1⟩; rw [V.out]
    have X := x1.box
    replace h0 := x1.cell h0
    replace h1 := x1.cell h1
    replace h2 := x1.cell h2
    clear x1
    go_wp2_with fail
    refine (VC.out _).mono ?_; rintro e w2 ⟨rfl, x2⟩; rw [C.out]
    replace h0 := x2.cell h0
    replace h1 := x2.cell h1
    replace h2 := x2.cell h2
    replace X := X.trans x2
    clear x2
    go_wp2_with fail
    go_ret3
    rw [E.out]; exact ⟨_, rfl, Own.nil _ _, X⟩
  have t2 : decide (e < 0) = false := decide_eq_false (by omega)
  by_cases b3 : e ≤ (q : Int)
  case neg =>
    have t3 : decide ((q : Int) < e) = true := decide_eq_true (by omega)
    have E : Hid (cNear p N K l e = (none, 1)) := Lib.hid (by unfold cNear; rw [if_neg hv2, if_neg (fun h => by rw [hq2] at h; exact b3 h.2.2.2)])
    have HB1 := Lib.hid b1
    clear hc hv2 b2 b3 b1
    go_enter Try.func27, Try.ntmps27
    go_wp2_with fail
    refine (Valid_c _ _).mono ?_; rintro e w1 ⟨rfl, x1⟩; rw [V.out]
    have X := x1.box
    replace h0 := x1.cell h0
    replace h1 := x1.cell h1
    replace h2 := x1.cell h2
    clear x1
    go_wp2_with fail
    refine (VC.out _).mono ?_; rintro e w2 ⟨rfl, x2⟩; rw [C.out]
    replace h0 := x2.cell h0
    replace h1 := x2.cell h1
    replace h2 := x2.cell h2
    replace X := X.trans x2
    clear x2
    go_wp2_with fail
    go_ret3
    rw [E.out]; exact ⟨_, rfl, Own.nil _ _, X⟩
  have t3 : decide ((q : Int) < e) = false := decide_eq_false (by omega)
  have E : Hid (cNear p N K l e = (nearM p N K l e, 0)) := Lib.hid (by unfold cNear; rw [if_neg hv2, if_pos ⟨hc, by omega, b2, by rw [hq2]; exact b3⟩, Int.toNat_natCast, Int.toNat_natCast])
  have NC := Lib.hid (fun w' (hr : Rd w' a l) => nearest_c p N K l e a c w' (cval_W hc) hr b1 hN2 hK1 hK2)
  have HB1 := Lib.hid b1
  obtain ⟨O, hO⟩ : ∃ O, O = nearM p N K l e := ⟨_, rfl⟩
  rw [← hO] at NC E
  clear hc hv2 b2 b3 b1 hO
  go_enter Try.func27, Try.ntmps27
  go_wp2_with fail
  refine (Valid_c _ _).mono ?_; rintro e w1 ⟨rfl, x1⟩; rw [V.out]
  have X := x1.box
  replace h0 := x1.cell h0
  replace h1 := x1.cell h1
  replace h2 := x1.cell h2
  clear x1
  go_wp2_with fail
  refine (VC.out _).mono ?_; rintro e w2 ⟨rfl, x2⟩; rw [C.out]
  replace h0 := x2.cell h0
  replace h1 := x2.cell h1
  replace h2 := x2.cell h2
  replace X := X.trans x2
  clear x2
  go_wp2_with fail
  refine (NC.out _ (HA.out.ext X)).mono ?_; rintro e w3 ⟨v, rfl, o3, x3⟩
  have HO := Lib.hid (o3.base X.size)
  replace X := X.trans x3
  clear o3 x3
  go_wp2_with fail
  go_ret3
  rw [E.out]; exact ⟨_, rfl, HO.out, X⟩

theorem aw6P : cpts 17 4 2 = [3, 5, 14, 12] := by decide +kernel
theorem aw6E : cEnc 17 4 2 [1, 1] = ([4, 6, 15, 13], 0) := by decide +kernel
theorem aw6N : cNear 17 4 2 [4, 6, 0, 13] 1 = (some [4, 6, 15, 13], 0) := by decide +kernel
theorem aw6Pc (W : World) : Calls Try.prog 20 #[.agg #[.int .u64 17, .int .i64 4, .int .i64 2]] W (SlPost W [3, 5, 14, 12]) := by
  have := CPoints_c 17 4 2 W (by decide) (by decide)
  rw [aw6P] at this; exact this
theorem aw6Ec (W : World) (a : Option Addr) (h : Rd W a [1, 1]) : Calls Try.prog 14 #[.agg #[.int .u64 17, .int .i64 4, .int .i64 2], .slice a 2 2] W (IPost W [4, 6, 15, 13] 0) := by
  have := Encode_c 17 4 2 [1, 1] a 2 W h (by decide) (by decide) (by decide)
  rw [aw6E] at this; exact this
theorem aw6Nc (W : World) (a : Option Addr) (h : Rd W a [4, 6, 0, 13]) : Calls Try.prog 27 #[.agg #[.int .u64 17, .int .i64 4, .int .i64 2], .slice a 4 4, .int .i64 1] W (N3Post W (some [4, 6, 15, 13]) 0) := by
  have := Nearest_c 17 4 2 [4, 6, 0, 13] 1 a 4 W h (by decide) (by decide) (by decide)
  rw [aw6N] at this; exact this
theorem same6 (l : List Nat) (n : Nat) (a b : Option Addr) (c d : Nat) (w : World) (hn : l.length = n) (ha : Rd w a l) (hb : Rd w b l) (hl : n ≤ 2000000000) :
    Calls Try.prog 19 #[.slice a n c, .slice b n d] w fun e w' => e = .returned (.bool true) ∧ Ext w w' := by
  subst hn; exact Same_c l a b c d w ha hb hl

set_option maxRecDepth 100000 in
set_option maxHeartbeats 2000000 in
theorem awake6_c (w : World) : Calls Try.prog 12 #[] w fun e w' => e = .returned (.bool true) ∧ Ext w w' := by
  have h0 : (w.alloc (.cells #[.int .u64 17, .int .i64 4, .int .i64 2] 31)).cell? ⟨w.heap.size, 0, none⟩ = some (.int .u64 17) := by simp
  have h1 : (w.alloc (.cells #[.int .u64 17, .int .i64 4, .int .i64 2] 31)).cell? ⟨w.heap.size, 1, none⟩ = some (.int .i64 4) := by simp
  have h2 : (w.alloc (.cells #[.int .u64 17, .int .i64 4, .int .i64 2] 31)).cell? ⟨w.heap.size, 2, none⟩ = some (.int .i64 2) := by simp
  go_enter Try.func12, Try.ntmps12
  go_wp2_with fail
  refine (aw6Ec _ _ ?_).mono ?_
  · exact Rd.two (by simp [cnew]) (by simp [cnew])
  rintro e w1 ⟨v, rfl, o1, x1⟩
  obtain ⟨a1, c1, rfl, k1, r1⟩ := o1.formN 4 rfl
  replace h0 := x1.box.cell h0
  replace h1 := x1.box.cell h1
  replace h2 := x1.box.cell h2
  have X : Ext w w1 := x1.box.box
  clear o1 x1
  go_wp2_with fail
  refine (aw6Nc _ _ ?_).mono ?_
  · exact Rd.four (by simp [cnew]) (by simp [cnew]) (by simp [cnew]) (by simp [cnew])
  rintro e w2 ⟨v, rfl, o2, x2⟩
  obtain ⟨a2, c2, rfl, k2, r2⟩ := o2.formN 4 rfl
  replace h0 := x2.box.cell h0
  replace h1 := x2.box.cell h1
  replace h2 := x2.box.cell h2
  replace r1 := r1.ext x2.box
  replace X := X.trans x2.box
  clear o2 x2
  go_wp2_with fail
  refine (aw6Pc _).mono ?_
  rintro e w3 ⟨v, rfl, o3, x3⟩
  obtain ⟨a3, c3, rfl, k3, r3⟩ := o3.formN 4 rfl
  replace r1 := r1.ext x3
  replace r2 := r2.ext x3
  replace X := X.trans x3
  clear o3 x3 h0 h1 h2
  go_wp2_with fail
  refine (same6 [3, 5, 14, 12] 4 _ _ _ _ _ rfl (r3.ext ((Ext.refl _).alloc _)) ?_ (by decide)).mono ?_
  · exact Rd.four (by simp [cnew]) (by simp [cnew]) (by simp [cnew]) (by simp [cnew])
  rintro e w4 ⟨rfl, x4⟩
  replace r1 := r1.ext x4.box
  replace r2 := r2.ext x4.box
  replace X := X.trans x4.box
  clear x4 r3
  go_wp2_with fail
  refine (same6 [4, 6, 15, 13] 4 _ _ _ _ _ rfl (r1.ext ((Ext.refl _).alloc _)) ?_ (by decide)).mono ?_
  · exact Rd.four (by simp [cnew]) (by simp [cnew]) (by simp [cnew]) (by simp [cnew])
  rintro e w5 ⟨rfl, x5⟩
  replace r1 := r1.ext x5.box
  replace r2 := r2.ext x5.box
  replace X := X.trans x5.box
  clear x5
  go_wp2_with fail
  refine (same6 [4, 6, 15, 13] 4 _ _ _ _ _ rfl r2 r1 (by decide)).mono ?_
  rintro e w6 ⟨rfl, x6⟩
  replace X := X.trans x6
  clear x6 r1 r2
  go_wp2_with fail
  go_ret
  exact ⟨rfl, X⟩
end Go.Proofs.Ytgnngifnoaagjaa
