/- Contracts of package poly, first part. -/
import Derived.Test.YtcnbinjoeilfgaaRef1
import Derived.Test.YtcnbinjoeilfgaaGS
import Derived.Test.YtcnbinjoeilfgaaGP
namespace Go.Proofs.Ytcnbinjoeilfgaa
open Go.RowKit


set_option maxHeartbeats 1000000 in
theorem shorten_c (l : List Nat) (a : Option Addr) (c : Nat) (w : World) (ha : Rd w a l) (hc : l.length ≤ c) (hl : c ≤ 9223372036854775807) :
    Calls Try.prog 56 #[.slice a l.length c] w fun e w' => e = .returned (.slice a (trimZ l).length c) ∧ w = w' := by
  go_enter Try.func56, Try.ntmps56
  go_wp2
  go_loop [3] (fun s => ∃ k : Nat, s = .int .i64 k ∧ k ≤ l.length ∧ Hid (trimZ (l.take k) = trimZ l)) (fun s => (intOf s).toNat)
  case atStart => exact ⟨l.length, rfl, Nat.le_refl _, Lib.hid (by simp)⟩
  case round =>
    obtain ⟨k, rfl, hk, hT⟩ := hrel
    by_cases h0 : k = 0
    · subst h0
      have e0 : trimZ l = [] := by rw [← hT.out]; simp [trimZ]
      have E := Lib.hid e0
      clear e0 ha
      go_wp2
      go_ret
      exact ⟨by rw [E.out]; rfl, rfl⟩
    · obtain ⟨j, rfl⟩ : ∃ j, k = j + 1 := ⟨k - 1, by omega⟩
      obtain ⟨b, off, rfl, hcell⟩ := ha.at (by omega)
      have c1 := hcell j (by omega)
      have hs := take_snoc l j (by omega)
      obtain ⟨x, hx0⟩ : ∃ x, x = l.getD j 0 := ⟨_, rfl⟩
      rw [← hx0] at c1 hs
      have HS := Lib.hid hs
      clear hcell hx0 hs ha
      by_cases hx : x = 0
      · subst hx
        go_wp2
        go_round
        case rel => exact ⟨j, by go_num, by omega, Lib.hid (by rw [← hT.out, HS.out, trimZ_snoc0])⟩
        case measure => simp [intOf]
      · have t1 : ((x : Int) == 0) = false := beq_eq_false_iff_ne.2 (by omega)
        have E : Hid ((trimZ l).length = j + 1) := Lib.hid (by rw [← hT.out, HS.out, trimZ_snoc _ _ hx]; simp; omega)
        go_wp2
        go_ret
        exact ⟨by rw [E.out]; rfl, rfl⟩

/-- The relation of a loop that fills a new row, element by element. -/
def FillRel (f : Nat → Nat) (n : Nat) (w0 : World) (g : Nat) (s : Value) (wr : World) : Prop :=
  ∃ k : Nat, s = .int .i64 k ∧ k ≤ n ∧ Blk wr g (rowA (fill f n k)) ∧ Ext w0 wr
theorem FillRel.start (f : Nat → Nat) (n : Nat) (w0 : World) (g : Nat) (hg : g = w0.heap.size) : FillRel f n w0 g (.int .i64 0) (w0.alloc (.cells (rowA (List.replicate n 0)) 22)) :=
  ⟨0, rfl, Nat.zero_le _, by rw [fill_zero, hg]; exact Blk.new _ _, (Ext.refl _).alloc _⟩
theorem FillRel.step {f : Nat → Nat} {n : Nat} {w0 wr w1 : World} {g k x : Nat} (hg : w0.heap.size ≤ g) (h : k < n) (hb : Blk wr g (rowA (fill f n k))) (h0 : Ext w0 wr) (hx : Ext wr w1) (hv : x = f k) :
    Blk (w1.setCell ⟨g, k, none⟩ (.int .u64 (x : Int))) g (rowA (fill f n (k + 1))) ∧ Ext w0 (w1.setCell ⟨g, k, none⟩ (.int .u64 (x : Int))) := by
  refine ⟨?_, (h0.trans hx).setNew hg _⟩
  rw [← fill_step f n k h, ← hv]
  exact (hb.ext hx).setN k _
/-- The cell that such a loop stores into. -/
theorem FillRel.cell {f : Nat → Nat} {n : Nat} {wr w1 : World} {g k : Nat} (hb : Hid (Blk wr g (rowA (fill f n k)))) (hk : k < n) (hx : Ext wr w1) : ∃ x : Nat, w1.cell? ⟨g, k, none⟩ = some (.int .u64 (x : Int)) :=
  ⟨_, (hb.out.ext hx).at (by rw [fill_len _ _ _ (by omega)]; exact hk)⟩
/-- What shorten makes of a row of the call's own. -/
theorem own_short {w : World} {base g : Nat} {l : List Nat} (h : Blk w g (rowA l)) (hb : base ≤ g) (hl : l.length ≤ 1000000000) : Own w base (.slice (some ⟨g, 0, none⟩) (trimZ l).length l.length) (trimZ l) := by
  have e : l = trimZ l ++ l.drop (trimZ l).length := by
    conv => lhs; rw [← List.take_append_drop (trimZ l).length l, trimZ_take]
  rw [e] at h
  have := Own.ofBlk h hb (by rw [← e]; simp [maxLen]; omega)
  rwa [← e] at this

set_option maxHeartbeats 1000000 in
theorem Trim_c (p : Nat) (l : List Nat) (a : Option Addr) (c : Nat) (w : World) (ha : Rd w a l) (hl : l.length ≤ 1000000) :
    Calls Try.prog 27 #[.agg #[.int .u64 p], .slice a l.length c] w (SlPost w (trimP p l)) := by
  have hmk := make_c l.length l.length (Nat.le_refl _) (by omega)
  go_enter Try.func27, Try.ntmps27
  go_wp2
  clear hmk
  go_loopw [13] (FillRel (fun i => fred p (l.getD i 0)) l.length (w.alloc (.cells #[.int .u64 p] 29)) (w.heap.size + 1)) (fun i _ => l.length - (intOf i).toNat)
  case atStart => exact FillRel.start _ _ _ _ (by simp)
  case round =>
    obtain ⟨k, rfl, hk, hblk, hext⟩ := hrel
    have hc := hext.boxCell
    by_cases hlt : k < l.length
    · obtain ⟨b, off, rfl, hcell⟩ := ha.at (by omega)
      have c1 := (hext.box).cell (hcell k hlt)
      obtain ⟨x, hx0⟩ : ∃ x, x = l.getD k 0 := ⟨_, rfl⟩
      rw [← hx0] at c1
      have HX := Lib.hid hx0
      have HB := Lib.hid hblk
      clear hcell hx0 hblk ha
      go_wp2_with (go_at_call 46; refine (Reduce_c _ _ _).mono ?_; rintro e w1 ⟨rfl, hn⟩; obtain ⟨y, d1⟩ := FillRel.cell HB hlt hn; have d2 := (HB.out.ext hn).frozen k)
      have hst := FillRel.step (x := fred p x) (w0 := w.alloc (.cells #[.int .u64 p] 29)) (by simp) hlt HB.out hext hn (by rw [HX.out])
      go_roundw
      case rel => exact ⟨k + 1, by go_num, by omega, hst.1, hst.2⟩
      case measure => simp [intOf]; omega
    · obtain rfl : k = l.length := by omega
      rw [fill_full, range_map_getD] at hblk
      have HB := Lib.hid hblk
      have S := shorten_c (l.map (fred p)) (some ⟨w.heap.size + 1, 0, none⟩) l.length wr hblk.rd' (by simp) (by omega)
      rw [List.length_map] at S
      have HS := Lib.hid S
      clear hblk ha S
      go_wp2_with (go_at_call 56; refine HS.out.mono ?_; rintro e w1 ⟨rfl, rfl⟩)
      go_ret
      refine ⟨_, rfl, ?_, hext.box⟩
      have := own_short HB.out (base := w.heap.size) (by omega) (by simp; omega)
      rw [List.length_map] at this
      exact this

set_option maxHeartbeats 1000000 in
theorem EvalP_c (p : Nat) (l : List Nat) (a : Option Addr) (c x : Nat) (w : World) (ha : Rd w a l) (hl : l.length ≤ 1000000) :
    Calls Try.prog 50 #[.agg #[.int .u64 p], .slice a l.length c, .int .u64 x] w fun e w' => e = .returned (.int .u64 (horner p x l)) ∧ Ext w w' := by
  go_enter Try.func50, Try.ntmps50
  go_wp2
  go_loopw [7, 8] (fun v s wr => ∃ k : Nat, s = .int .i64 ((k : Int) - 1) ∧ k ≤ l.length ∧ v = .int .u64 (horner p x (l.drop k)) ∧ Ext (w.alloc (.cells #[.int .u64 p] 29)) wr) (fun _ s _ => (intOf s + 1).toNat)
  case atStart => exact ⟨l.length, by go_num, Nat.le_refl _, by simp [horner], Ext.refl _⟩
  case round =>
    obtain ⟨k, rfl, hk, rfl, hext⟩ := hrel
    have hc := hext.boxCell
    by_cases h0 : k = 0
    · subst h0
      clear ha
      rw [List.drop_zero]
      go_wp2
      go_ret
      exact ⟨rfl, hext.box⟩
    · obtain ⟨j, rfl⟩ : ∃ j, k = j + 1 := ⟨k - 1, by omega⟩
      obtain ⟨b, off, rfl, hcell⟩ := ha.at (by omega)
      have c1 := (hext.box).cell (hcell j (by omega))
      have hs := drop_cons l j (by omega)
      obtain ⟨y, hy0⟩ : ∃ y, y = l.getD j 0 := ⟨_, rfl⟩
      obtain ⟨v, hv0⟩ : ∃ v, v = horner p x (l.drop (j + 1)) := ⟨_, rfl⟩
      rw [← hy0] at c1 hs
      have E : horner p x (l.drop j) = fadd p (fmul p v x) y := by rw [hs, horner, hv0]
      have HE := Lib.hid E
      rw [← hv0]
      have z1 : ((j + 1 : Nat) : Int) - 1 = (j : Int) := by omega
      rw [z1]
      clear hcell hy0 hv0 hs E ha
      go_wp2
      refine region_facts [[], [], [], [], [(1, 17), (2, 18), (3, 19)], [], [], [(5, 21), (6, 22)], [(7, 23)], [(0, 16), (4, 20), (8, 24)], [(9, 25)]] [some 16, some 17, some 18, some 19, some 20, some 21, some 22, some 23, some 24, some 25, some 7] (by kernel_rfl) (by kernel_rfl) ?_
      apply From.eq
      · intro w' hx; have hcx := hx.cell hc; have c1x := hx.cell c1; dsimp only [DepsV, fat, List.nil_append, List.cons_append, eqF]; go_wp2; exact OpPost.some _ rfl rfl (Ext.refl _) rfl
      apply From.eq
      · intro w' hx; have hcx := hx.cell hc; have c1x := hx.cell c1; dsimp only [DepsV, fat, List.nil_append, List.cons_append, eqF]; go_wp2; exact OpPost.some _ rfl rfl (Ext.refl _) rfl
      apply From.eq
      · intro w' hx; have hcx := hx.cell hc; have c1x := hx.cell c1; dsimp only [DepsV, fat, List.nil_append, List.cons_append, eqF]; go_wp2; exact OpPost.some _ rfl rfl (Ext.refl _) rfl
      apply From.eq
      · intro w' hx; have hcx := hx.cell hc; have c1x := hx.cell c1; dsimp only [DepsV, fat, List.nil_append, List.cons_append, eqF]; go_wp2; exact OpPost.some _ rfl rfl (Ext.refl _) rfl
      apply From.eq
      · intro w' hx; have hcx := hx.cell hc; have c1x := hx.cell c1; dsimp only [DepsV, fat, List.nil_append, List.cons_append, eqF]; rintro _ rfl _ rfl _ rfl; go_wp2_with (go_at_call 44; refine (Mul_c _ _ _ _).mono ?_; rintro e w2 ⟨rfl, hb2⟩); exact OpPost.some _ rfl rfl hb2 rfl
      apply From.eq
      · intro w' hx; have hcx := hx.cell hc; have c1x := hx.cell c1; dsimp only [DepsV, fat, List.nil_append, List.cons_append, eqF]; go_wp2; exact OpPost.some _ rfl rfl (Ext.refl _) rfl
      apply From.eq
      · intro w' hx; have hcx := hx.cell hc; have c1x := hx.cell c1; dsimp only [DepsV, fat, List.nil_append, List.cons_append, eqF]; go_wp2; exact OpPost.some _ rfl rfl (Ext.refl _) rfl
      apply From.eq
      · intro w' hx; have hcx := hx.cell hc; have c1x := hx.cell c1; dsimp only [DepsV, fat, List.nil_append, List.cons_append, eqF]; rintro _ rfl _ rfl; go_wp2; exact OpPost.some _ rfl rfl (Ext.refl _) rfl
      apply From.eq
      · intro w' hx; have hcx := hx.cell hc; have c1x := hx.cell c1; dsimp only [DepsV, fat, List.nil_append, List.cons_append, eqF]; rintro _ rfl; go_wp2; exact OpPost.some _ rfl rfl (Ext.refl _) rfl
      apply From.eq
      · intro w' hx; have hcx := hx.cell hc; have c1x := hx.cell c1; dsimp only [DepsV, fat, List.nil_append, List.cons_append, eqF]; rintro _ rfl _ rfl _ rfl; go_wp2_with (go_at_call 48; refine (Add_c _ _ _ _).mono ?_; rintro e w2 ⟨rfl, hb2⟩); exact OpPost.some _ rfl rfl hb2 rfl
      apply From.eq
      · intro w' hx; have hcx := hx.cell hc; have c1x := hx.cell c1; dsimp only [DepsV, fat, List.nil_append, List.cons_append, eqF]; rintro _ rfl; go_wp2; exact OpPost.some _ rfl rfl (Ext.refl _) rfl
      refine From.fin (fun w' hx => ?_)
      dsimp only [EndV, List.nil_append, List.cons_append, eqF]; rintro _ rfl _ rfl _ rfl _ rfl _ rfl _ rfl _ rfl _ rfl _ rfl _ rfl _ rfl; simp only [Act.put, List.setIfInBounds_toArray, List.set_cons_zero, List.set_cons_succ]
      go_wp2
      go_roundw
      case rel => exact ⟨j, by go_num, by omega, by rw [HE.out], hext.trans hx⟩
      case measure => simp [intOf]
end Go.Proofs.Ytcnbinjoeilfgaa
