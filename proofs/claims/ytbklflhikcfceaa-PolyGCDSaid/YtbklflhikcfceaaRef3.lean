/- Contracts of moidoreref03, first part. -/
import Derived.Test.YtbklflhikcfceaaPoly
import Derived.Test.YtbklflhikcfceaaApp
namespace Go.Proofs.Ytbklflhikcfceaa
open Go.RowKit

/-- The relation of a loop that appends, element by element. -/
def AppRel (f : Nat → Nat) (n : Nat) (w : World) (s i : Value) (wr : World) : Prop :=
  ∃ k : Nat, i = .int .i64 k ∧ k ≤ n ∧ Own wr w.heap.size s ((List.range k).map f) ∧ Ext w wr
theorem AppRel.start (f : Nat → Nat) (n : Nat) (w : World) : AppRel f n w (.slice none 0 0) (.int .i64 0) w := ⟨0, rfl, Nat.zero_le _, Own.nil _ _, Ext.refl _⟩

set_option maxHeartbeats 1000000 in
theorem RTrim_c (p : Nat) (l : List Nat) (a : Option Addr) (c : Nat) (w : World) (ha : Rd w a l) (hl : l.length ≤ 1000000) :
    Calls Try.prog 21 #[.int .u64 p, .slice a l.length c] w (SlPost w (trimP p l)) := by
  go_enter Try.func21, Try.ntmps21
  go_wp2
  go_loopw [5, 6] (AppRel (fun i => fred p (l.getD i 0)) l.length w) (fun _ i _ => l.length - (intOf i).toNat)
  case atStart => exact AppRel.start _ _ _
  case round =>
    obtain ⟨k, rfl, hk, hown, hext⟩ := hrel
    by_cases hlt : k < l.length
    · obtain ⟨b, off, rfl, hcell⟩ := ha.at (by omega)
      have c1 := hext.cell (hcell k hlt)
      obtain ⟨x, hx0⟩ : ∃ x, x = l.getD k 0 := ⟨_, rfl⟩
      rw [← hx0] at c1
      have HX := Lib.hid hx0
      have HO := Lib.hid hown
      have HE := Lib.hid hext
      clear hcell hx0 ha hown
      go_wp2_with (first
        | (go_at_call 25; refine (RReduce_c _ _ _).mono ?_; rintro e w1 ⟨rfl, hn⟩)
        | (at_builtin; refine wpList_app1 rfl (.tmp 13) (.tmp 20) rfl w.heap.size _ _ rfl ((HO.out.grow hn).grow ((Ext.refl _).alloc _)) w1.heap.size (fred p x) 1 rfl (by simp) (by simp; omega) (Nat.le_trans (HE.out.trans hn).size (by simp)) ?_; intro v' w2 hown2 hx2 _))
      go_roundw
      case rel =>
        refine ⟨k + 1, by go_num, by omega, ?_, hx2 w ((HE.out.trans hn).alloc _) (Nat.le_refl _)⟩
        rw [List.range_succ, List.map_append, List.map_cons, List.map_nil, ← HX.out]; exact hown2
      case measure => simp [intOf]; omega
    · obtain rfl : k = l.length := by omega
      rw [range_map_getD] at hown
      obtain ⟨m, hm0⟩ : ∃ m, m = l.map (fred p) := ⟨_, rfl⟩
      rw [← hm0] at hown
      have hml : m.length ≤ 1000000 := by rw [hm0]; simpa using hl
      have HM := Lib.hid hm0
      clear hm0
      obtain ⟨a', c', rfl, hlc, hmx, hrd⟩ := hown.form
      have hmx' : c' ≤ 9223372036854775807 := hmx
      have HO := Lib.hid hown
      clear hown ha hmx
      go_wp2
      go_loop [5] (fun s => ∃ j : Nat, s = .slice a' j c' ∧ j ≤ m.length ∧ Hid (trimZ (m.take j) = trimZ m)) (fun s => match s with | .slice _ n _ => n | _ => 0)
      case atStart => exact ⟨m.length, rfl, Nat.le_refl _, Lib.hid (by simp)⟩
      case round =>
        obtain ⟨j, rfl, hj, hT⟩ := hrel
        by_cases h0 : j = 0
        · subst h0
          go_wp2
          go_ret
          refine ⟨_, rfl, ?_, hext⟩
          have e0 : trimP p l = [] := by unfold trimP; rw [← HM.out, ← hT.out]; simp [trimZ]
          rw [e0]
          have := HO.out.pre 0 (by omega)
          simpa using this
        · obtain ⟨i, rfl⟩ : ∃ i, j = i + 1 := ⟨j - 1, by omega⟩
          obtain ⟨b, off, rfl, hcell⟩ := hrd.at (by omega)
          have c1 := hcell i (by omega)
          have hs := take_snoc m i (by omega)
          obtain ⟨x, hx0⟩ : ∃ x, x = m.getD i 0 := ⟨_, rfl⟩
          rw [← hx0] at c1 hs
          have HS := Lib.hid hs
          clear hcell hx0 hs hrd
          by_cases hx : x = 0
          · subst hx
            go_wp2
            go_round
            case rel => exact ⟨i, rfl, by omega, Lib.hid (by rw [← hT.out, HS.out, trimZ_snoc0])⟩
            case measure => simp
          · have t1 : ((x : Int) == 0) = false := beq_eq_false_iff_ne.2 (by omega)
            have E : Hid (trimP p l = m.take (i + 1)) := Lib.hid (by unfold trimP; rw [← HM.out, ← hT.out, HS.out, trimZ_snoc _ _ hx])
            go_wp2
            go_ret
            refine ⟨_, rfl, ?_, hext⟩
            rw [E.out]
            exact HO.out.pre (i + 1) hj

set_option maxHeartbeats 1000000 in
theorem RDegree_c (p : Nat) (l : List Nat) (a : Option Addr) (c : Nat) (w : World) (ha : Rd w a l) (hl : l.length ≤ 1000000) :
    Calls Try.prog 16 #[.int .u64 p, .slice a l.length c] w fun e w' => e = .returned (.int .i64 (((trimP p l).length : Int) - 1)) ∧ Ext w w' := by
  have hle : (trimP p l).length ≤ 1000000 := Nat.le_trans (trimZ_le _) (by simpa using hl)
  go_enter Try.func16, Try.ntmps16
  go_wp2_with (go_at_call 21; refine (RTrim_c p l a c _ ha hl).mono ?_; rintro e w1 ⟨v, rfl, hown, hx⟩; obtain ⟨a', c', rfl, hlc, hmx, hrd⟩ := hown.form; have HO := Lib.hid hown; clear hown)
  go_ret
  exact ⟨rfl, hx⟩

set_option maxHeartbeats 1000000 in
theorem Rat_c (l : List Nat) (a : Option Addr) (c k : Nat) (w : World) (ha : Rd w a l) (hl : l.length ≤ 1000000) :
    Calls Try.prog 52 #[.slice a l.length c, .int .i64 k] w fun e w' => e = .returned (.int .u64 ((l.getD k 0 : Nat) : Int)) ∧ w = w' := by
  by_cases h : k < l.length
  · obtain ⟨b, off, rfl, hcell⟩ := ha.at (by omega)
    have c1 := hcell k h
    obtain ⟨x, hx0⟩ : ∃ x, x = l.getD k 0 := ⟨_, rfl⟩
    rw [← hx0] at c1 ⊢
    clear hcell hx0 ha
    have h2 : decide (l.length ≤ k) = false := by simp; omega
    go_enter Try.func52, Try.ntmps52
    go_wp2
    go_ret
    exact ⟨rfl, rfl⟩
  · have e : l.getD k 0 = 0 := by simp [List.getD, List.getElem?_eq_none (by omega : l.length ≤ k)]
    rw [e]
    have h2 : decide (l.length ≤ k) = true := by simp; omega
    clear e ha
    go_enter Try.func52, Try.ntmps52
    go_wp2
    go_ret
    exact ⟨rfl, rfl⟩

set_option maxHeartbeats 1000000 in
theorem RAddP_c (p : Nat) (l m : List Nat) (a b : Option Addr) (c d : Nat) (w : World) (ha : Rd w a l) (hb : Rd w b m) (hl : l.length ≤ 1000000) (hm : m.length ≤ 1000000) :
    Calls Try.prog 19 #[.int .u64 p, .slice a l.length c, .slice b m.length d] w (SlPost w (radd p l m)) := by
  obtain ⟨n, hn0⟩ : ∃ n, n = max l.length m.length := ⟨_, rfl⟩
  have HN := Lib.hid hn0
  have n1 : l.length ≤ n := by omega
  have n2 : m.length ≤ n := by omega
  have n3 : n ≤ 1000000 := by omega
  clear hn0
  go_enter Try.func19, Try.ntmps19
  go_wp2
  go_loopw [7, 8] (AppRel (fun i => fadd p (l.getD i 0) (m.getD i 0)) n w) (fun _ i _ => n - (intOf i).toNat)
  case atStart => exact AppRel.start _ _ _
  case round =>
    obtain ⟨k, rfl, hk, hown, hext⟩ := hrel
    by_cases hlt : k < l.length ∨ k < m.length
    · have A := Rat_c l a c k wr (ha.ext hext) hl
      have B := Rat_c m b d k wr (hb.ext hext) hm
      obtain ⟨x, hx0⟩ : ∃ x, x = l.getD k 0 := ⟨_, rfl⟩
      obtain ⟨y, hy0⟩ : ∃ y, y = m.getD k 0 := ⟨_, rfl⟩
      rw [← hx0] at A
      rw [← hy0] at B
      have HX := Lib.hid (And.intro hx0 hy0)
      have HA := Lib.hid A
      have HBB := Lib.hid B
      have HO := Lib.hid hown
      have HE := Lib.hid hext
      have hkn : k < n := by omega
      clear hx0 hy0 ha hb hown A B
      by_cases hc : k < l.length
      · clear hlt
        go_wp2_with fail
        refine HA.out.mono ?_; rintro e w2 ⟨rfl, rfl⟩
        go_wp2_with fail
        refine HBB.out.mono ?_; rintro e w2 ⟨rfl, rfl⟩
        go_wp2_with fail
        refine (RAdd_c _ _ _ _).mono ?_; rintro e w1 ⟨rfl, hn⟩
        go_wp2_with (at_builtin; refine wpList_app1 rfl (.tmp 21) (.tmp 30) rfl w.heap.size _ _ rfl ((HO.out.grow hn).grow ((Ext.refl _).alloc _)) w1.heap.size (fadd p x y) 1 rfl (by simp) (by simp; omega) (Nat.le_trans (HE.out.trans hn).size (by simp)) ?_; intro v' w2 hown2 hx2 _)
        go_roundw
        case rel =>
          refine ⟨k + 1, by go_num, by omega, ?_, hx2 w ((HE.out.trans hn).alloc _) (Nat.le_refl _)⟩
          rw [List.range_succ, List.map_append, List.map_cons, List.map_nil, ← HX.out.1, ← HX.out.2]; exact hown2
        case measure => simp [intOf]; omega
      · have hc2 : k < m.length := by omega
        clear hlt
        go_wp2_with fail
        refine HA.out.mono ?_; rintro e w2 ⟨rfl, rfl⟩
        go_wp2_with fail
        refine HBB.out.mono ?_; rintro e w2 ⟨rfl, rfl⟩
        go_wp2_with fail
        refine (RAdd_c _ _ _ _).mono ?_; rintro e w1 ⟨rfl, hn⟩
        go_wp2_with (at_builtin; refine wpList_app1 rfl (.tmp 21) (.tmp 30) rfl w.heap.size _ _ rfl ((HO.out.grow hn).grow ((Ext.refl _).alloc _)) w1.heap.size (fadd p x y) 1 rfl (by simp) (by simp; omega) (Nat.le_trans (HE.out.trans hn).size (by simp)) ?_; intro v' w2 hown2 hx2 _)
        go_roundw
        case rel =>
          refine ⟨k + 1, by go_num, by omega, ?_, hx2 w ((HE.out.trans hn).alloc _) (Nat.le_refl _)⟩
          rw [List.range_succ, List.map_append, List.map_cons, List.map_nil, ← HX.out.1, ← HX.out.2]; exact hown2
        case measure => simp [intOf]; omega
    · obtain rfl : k = n := by have := HN.out; omega
      have e1 : (List.range k).map (fun i => fadd p (l.getD i 0) (m.getD i 0)) = addL p l m := by rw [HN.out]; rfl
      rw [e1] at hown
      have c1 : decide (k < l.length) = false := by simp; omega
      have c2 : decide (k < m.length) = false := by simp; omega
      obtain ⟨a', c', rfl, hlc, hmx, hrd⟩ := hown.form
      have T := RTrim_c p (addL p l m) a' c' wr hrd (by rw [addL_len]; omega)
      have HT := Lib.hid T
      have HO := Lib.hid hown
      clear ha hb hown T hlt e1
      go_wp2_with (go_at_call 21; refine HT.out.mono ?_; rintro e w1 ⟨v, rfl, hown1, hn⟩)
      go_ret
      exact ⟨v, rfl, hown1.base hext.size, hext.trans hn⟩

set_option maxHeartbeats 1000000 in
theorem RScale_c (p : Nat) (l : List Nat) (a : Option Addr) (c y : Nat) (w : World) (ha : Rd w a l) (hl : l.length ≤ 1000000) :
    Calls Try.prog 42 #[.int .u64 p, .slice a l.length c, .int .u64 y] w (SlPost w (rscale p l y)) := by
  go_enter Try.func42, Try.ntmps42
  go_wp2
  go_loopw [7, 8] (AppRel (fun i => fmul p (l.getD i 0) y) l.length w) (fun _ i _ => l.length - (intOf i).toNat)
  case atStart => exact AppRel.start _ _ _
  case round =>
    obtain ⟨k, rfl, hk, hown, hext⟩ := hrel
    by_cases hlt : k < l.length
    · obtain ⟨b, off, rfl, hcell⟩ := ha.at (by omega)
      have c1 := hext.cell (hcell k hlt)
      obtain ⟨x, hx0⟩ : ∃ x, x = l.getD k 0 := ⟨_, rfl⟩
      rw [← hx0] at c1
      have HX := Lib.hid hx0
      have HO := Lib.hid hown
      have HE := Lib.hid hext
      clear hcell hx0 ha hown
      go_wp2_with (first
        | (go_at_call 34; refine (RMul_c _ _ _ _).mono ?_; rintro e w1 ⟨rfl, hn⟩)
        | (at_builtin; refine wpList_app1 rfl (.tmp 15) (.tmp 23) rfl w.heap.size _ _ rfl ((HO.out.grow hn).grow ((Ext.refl _).alloc _)) w1.heap.size (fmul p x y) 1 rfl (by simp) (by simp; omega) (Nat.le_trans (HE.out.trans hn).size (by simp)) ?_; intro v' w2 hown2 hx2 _))
      go_roundw
      case rel =>
        refine ⟨k + 1, by go_num, by omega, ?_, hx2 w ((HE.out.trans hn).alloc _) (Nat.le_refl _)⟩
        rw [List.range_succ, List.map_append, List.map_cons, List.map_nil, ← HX.out]; exact hown2
      case measure => simp [intOf]; omega
    · obtain rfl : k = l.length := by omega
      rw [range_map_getD l (fun x => fmul p x y)] at hown
      obtain ⟨a', c', rfl, hlc, hmx, hrd⟩ := hown.form
      have T := RTrim_c p (l.map fun x => fmul p x y) a' c' wr hrd (by simpa using hl)
      rw [List.length_map] at T
      have HT := Lib.hid T
      clear ha hown T hrd hlc
      go_wp2_with (go_at_call 21; refine HT.out.mono ?_; rintro e w1 ⟨v, rfl, hown1, hn⟩)
      go_ret
      exact ⟨v, rfl, hown1.base hext.size, hext.trans hn⟩

set_option maxHeartbeats 1000000 in
theorem RSubP_c (p : Nat) (l m : List Nat) (a b : Option Addr) (c d : Nat) (w : World) (ha : Rd w a l) (hb : Rd w b m) (hl : l.length ≤ 1000000) (hm : m.length ≤ 1000000) :
    Calls Try.prog 40 #[.int .u64 p, .slice a l.length c, .slice b m.length d] w (SlPost w (rsub p l m)) := by
  have hs : (rscale p m (fneg p 1)).length ≤ 1000000 := Nat.le_trans (rscale_le _ _ _) hm
  have N1 : Calls Try.prog 58 #[.int .u64 p, .int .u64 1] w fun e w' => e = .returned (.int .u64 (fneg p 1)) ∧ Ext w w' := RNeg_c p 1 w
  have HN1 := Lib.hid N1
  clear N1
  go_enter Try.func40, Try.ntmps40
  go_wp2_with (first
    | (go_at_call 58; refine HN1.out.mono ?_; rintro e w1 ⟨rfl, h1⟩)
    | (go_at_call 42; refine (RScale_c p m b d (fneg p 1) _ (hb.ext h1) hm).mono ?_; rintro e w2 ⟨v, rfl, hown, h2⟩; obtain ⟨a', c', rfl, hlc, hmx, hrd⟩ := hown.form; clear hown)
    | (go_at_call 19; refine (RAddP_c p l _ a a' c c' _ (ha.ext (h1.trans h2)) hrd hl hs).mono ?_; rintro e w3 ⟨v, rfl, hown3, h3⟩))
  go_ret
  exact ⟨v, rfl, hown3.base (h1.trans h2).size, (h1.trans h2).trans h3⟩

set_option maxHeartbeats 1000000 in
theorem RShift_c (l : List Nat) (a : Option Addr) (c n : Nat) (w : World) (ha : Rd w a l) (hl : l.length ≤ 1000000) (hn : n ≤ 1000000) :
    Calls Try.prog 50 #[.slice a l.length c, .int .i64 n] w (SlPost w (shift l n)) := by
  have hmk := make_c n n (Nat.le_refl _) (by omega)
  have ho : Own (w.alloc (.cells (rowA (List.replicate n 0)) 22)) w.heap.size (.slice (some ⟨w.heap.size, 0, none⟩) n n) (List.replicate n 0) := by
    have := Own.ofBlk (l := List.replicate n 0) (m := []) (base := w.heap.size) (w := w.alloc (.cells (rowA (List.replicate n 0)) 22)) (g := w.heap.size) (by rw [List.append_nil]; exact Blk.new _ _) (Nat.le_refl _) (by simp [maxLen]; omega)
    simpa using this
  have HO := Lib.hid ho
  clear ho
  go_enter Try.func50, Try.ntmps50
  go_wp2_with (at_builtin; refine wpList_app rfl (.tmp 6) (.tmp 7) rfl w.heap.size _ _ rfl HO.out a l c rfl (ha.ext ((Ext.refl _).alloc _)) (by simp; omega) (by simp) ?_; intro v' w2 hown2 hx2 _)
  go_ret
  exact ⟨v', rfl, hown2, hx2 w ((Ext.refl _).alloc _) (Nat.le_refl _)⟩

def MulRel (p : Nat) (l m : List Nat) (w : World) (s i : Value) (wr : World) : Prop :=
  ∃ k : Nat, i = .int .i64 k ∧ k ≤ l.length ∧ Own wr w.heap.size s (rmulK p l m k) ∧ Ext w wr

set_option maxHeartbeats 1000000 in
theorem RMulP_c (p : Nat) (l m : List Nat) (a b : Option Addr) (c d : Nat) (w : World) (ha : Rd w a l) (hb : Rd w b m) (hl : l.length ≤ 100000) (hm : m.length ≤ 100000) :
    Calls Try.prog 20 #[.int .u64 p, .slice a l.length c, .slice b m.length d] w (SlPost w (rmul p l m)) := by
  go_enter Try.func20, Try.ntmps20
  go_wp2
  go_loopw [7, 8] (MulRel p l m w) (fun _ i _ => l.length - (intOf i).toNat)
  case atStart => exact ⟨0, rfl, Nat.zero_le _, Own.nil _ _, Ext.refl _⟩
  case round =>
    obtain ⟨k, rfl, hk, hown, hext⟩ := hrel
    by_cases hlt : k < l.length
    · have h1 := rmulK_le p l m k
      have h2 := rscale_le p m (l.getD k 0)
      obtain ⟨av, cv, rfl, hlc, hmx, hrd⟩ := hown.form
      obtain ⟨b1, off, rfl, hcell⟩ := ha.at (by omega)
      have c1 := hext.cell (hcell k hlt)
      have hr2 := hb.ext hext
      have E : Hid (rmulK p l m (k + 1) = radd p (rmulK p l m k) (shift (rscale p m (l.getD k 0)) k)) := Lib.hid rfl
      obtain ⟨x, hx0⟩ : ∃ x, x = l.getD k 0 := ⟨_, rfl⟩
      obtain ⟨o, ho0⟩ : ∃ o, o = rmulK p l m k := ⟨_, rfl⟩
      rw [← ho0] at hlc hrd h1 E
      rw [← hx0] at c1 h2 E
      rw [← ho0]
      have hsl : (shift (rscale p m x) k).length ≤ 1000000 := by simp [shift]; omega
      have S := RScale_c p m b d x wr hr2 (by omega)
      have HS := Lib.hid S
      have HE := Lib.hid hext
      have HRD := Lib.hid hrd
      clear hcell hx0 ho0 ha hown hb hr2 S hrd
      go_wp2_with fail
      refine HS.out.mono ?_; rintro e w1 ⟨v, rfl, hown1, hn1⟩; obtain ⟨a1, k1, rfl, _, _, hrd1⟩ := hown1.form; clear hown1
      go_wp2_with fail
      refine (RShift_c _ a1 k1 k _ hrd1 (by omega) (by omega)).mono ?_; rintro e w2 ⟨v, rfl, hown2, hn2⟩; obtain ⟨a2, k2, rfl, _, _, hrd2⟩ := hown2.form; clear hown2
      go_wp2_with fail
      refine (RAddP_c p o _ av a2 cv k2 _ (HRD.out.ext (hn1.trans hn2)) hrd2 (by omega) hsl).mono ?_; rintro e w3 ⟨v, rfl, hown3, hn3⟩
      go_wp2_with fail
      go_roundw
      case rel =>
        have hx := (HE.out.trans hn1).trans hn2
        refine ⟨k + 1, by go_num, by omega, ?_, hx.trans hn3⟩
        rw [E.out]; exact hown3.base hx.size
      case measure => simp [intOf]; omega
    · obtain rfl : k = l.length := by omega
      have HO := Lib.hid hown
      clear ha hb hown
      go_wp2
      go_ret
      exact ⟨_, rfl, HO.out, hext⟩

set_option maxHeartbeats 1000000 in
theorem REval_c (p : Nat) (l : List Nat) (a : Option Addr) (c x : Nat) (w : World) (ha : Rd w a l) (hl : l.length ≤ 1000000) :
    Calls Try.prog 24 #[.int .u64 p, .slice a l.length c, .int .u64 x] w fun e w' => e = .returned (.int .u64 (reval p x l)) ∧ Ext w w' := by
  go_enter Try.func24, Try.ntmps24
  go_wp2
  go_loopw [7, 8, 9] (fun o q i wr => ∃ k : Nat, i = .int .i64 k ∧ k ≤ l.length ∧ o = .int .u64 (revK p x l k) ∧ q = .int .u64 (pwK p x k) ∧ Ext w wr) (fun _ _ i _ => l.length - (intOf i).toNat)
  case atStart => exact ⟨0, rfl, Nat.zero_le _, rfl, rfl, Ext.refl _⟩
  case round =>
    obtain ⟨k, rfl, hk, rfl, rfl, hext⟩ := hrel
    by_cases hlt : k < l.length
    · obtain ⟨b, off, rfl, hcell⟩ := ha.at (by omega)
      have c1 := hext.cell (hcell k hlt)
      have E : Hid (revK p x l (k + 1) = fadd p (revK p x l k) (fmul p (l.getD k 0) (pwK p x k)) ∧ pwK p x (k + 1) = fmul p (pwK p x k) x) := Lib.hid ⟨rfl, rfl⟩
      obtain ⟨y, hy0⟩ : ∃ y, y = l.getD k 0 := ⟨_, rfl⟩
      obtain ⟨o, ho0⟩ : ∃ o, o = revK p x l k := ⟨_, rfl⟩
      obtain ⟨q, hq0⟩ : ∃ q, q = pwK p x k := ⟨_, rfl⟩
      rw [← hy0] at c1
      rw [← hy0, ← ho0, ← hq0] at E
      rw [← ho0, ← hq0]
      clear hcell hy0 ho0 hq0 ha
      go_wp2_with (first
        | (go_at_call 34; refine (RMul_c _ _ _ _).mono ?_; rintro e w1 ⟨rfl, hn⟩; replace hext := hext.trans hn; clear hn)
        | (go_at_call 36; refine (RAdd_c _ _ _ _).mono ?_; rintro e w1 ⟨rfl, hn⟩; replace hext := hext.trans hn; clear hn))
      go_roundw
      case rel => exact ⟨k + 1, by go_num, by omega, by rw [E.out.1], by rw [E.out.2], hext⟩
      case measure => simp [intOf]; omega
    · obtain rfl : k = l.length := by omega
      clear ha
      go_wp2
      go_ret
      exact ⟨rfl, hext⟩
end Go.Proofs.Ytbklflhikcfceaa
