/- Contracts of package poly, first part. -/
import Derived.Test.YtgnngifnoaagjaaRef1
import Derived.Test.YtgnngifnoaagjaaGS
import Derived.Test.YtgnngifnoaagjaaGP
namespace Go.Proofs.Ytgnngifnoaagjaa
open Go.RowKit


set_option maxHeartbeats 1000000 in
theorem shorten_c (l : List Nat) (a : Option Addr) (c : Nat) (w : World) (ha : Rd w a l) (hc : l.length ≤ c) (hl : c ≤ 9223372036854775807) :
    Calls Try.prog 83 #[.slice a l.length c] w fun e w' => e = .returned (.slice a (trimZ l).length c) ∧ w = w' := by
  go_enter Try.func83, Try.ntmps83
  go_wp2
  go_loop [3] (fun s => ∃ k : Nat, s = .int .i64 k ∧ k ≤ l.length ∧ Hid (trimZ (l.take k) = trimZ l)) (fun s => (intOf s).toNat)
  case atStart => exact ⟨l.length, rfl, Nat.le_refl _, Lib.hid (by simp)⟩
  case round =>
    obtain ⟨k, rfl, hk, hT⟩ := hrel
    by_cases h0 : k = 0
    · subst h0
      have e0 : trimZ l = [] := by rw [← hT.out]; simp [trimZ]
      have E := Lib.hid e0
      clear e0 ha
      go_wp2
      go_ret
      exact ⟨by rw [E.out]; rfl, rfl⟩
    · obtain ⟨j, rfl⟩ : ∃ j, k = j + 1 := ⟨k - 1, by omega⟩
      obtain ⟨b, off, rfl, hcell⟩ := ha.at (by omega)
      have c1 := hcell j (by omega)
      have hs := take_snoc l j (by omega)
      obtain ⟨x, hx0⟩ : ∃ x, x = l.getD j 0 := ⟨_, rfl⟩
      rw [← hx0] at c1 hs
      have HS := Lib.hid hs
      clear hcell hx0 hs ha
      by_cases hx : x = 0
      · subst hx
        go_wp2
        go_round
        case rel => exact ⟨j, by go_num, by omega, Lib.hid (by rw [← hT.out, HS.out, trimZ_snoc0])⟩
        case measure => simp [intOf]
      · have t1 : ((x : Int) == 0) = false := beq_eq_false_iff_ne.2 (by omega)
        have E : Hid ((trimZ l).length = j + 1) := Lib.hid (by rw [← hT.out, HS.out, trimZ_snoc _ _ hx]; simp; omega)
        go_wp2
        go_ret
        exact ⟨by rw [E.out]; rfl, rfl⟩

/-- The relation of a loop that fills a new row, element by element. -/
def FillRel (f : Nat → Nat) (n : Nat) (w0 : World) (g : Nat) (s : Value) (wr : World) : Prop :=
  ∃ k : Nat, s = .int .i64 k ∧ k ≤ n ∧ Blk wr g (rowA (fill f n k)) ∧ Ext w0 wr
theorem FillRel.start (f : Nat → Nat) (n : Nat) (w0 : World) (g : Nat) (hg : g = w0.heap.size) : FillRel f n w0 g (.int .i64 0) (w0.alloc (.cells (rowA (List.replicate n 0)) 22)) :=
  ⟨0, rfl, Nat.zero_le _, by rw [fill_zero, hg]; exact Blk.new _ _, (Ext.refl _).alloc _⟩
theorem FillRel.step {f : Nat → Nat} {n : Nat} {w0 wr w1 : World} {g k x : Nat} (hg : w0.heap.size ≤ g) (h : k < n) (hb : Blk wr g (rowA (fill f n k))) (h0 : Ext w0 wr) (hx : Ext wr w1) (hv : x = f k) :
    Blk (w1.setCell ⟨g, k, none⟩ (.int .u64 (x : Int))) g (rowA (fill f n (k + 1))) ∧ Ext w0 (w1.setCell ⟨g, k, none⟩ (.int .u64 (x : Int))) := by
  refine ⟨?_, (h0.trans hx).setNew hg _⟩
  rw [← fill_step f n k h, ← hv]
  exact (hb.ext hx).setN k _
/-- The cell that such a loop stores into. -/
theorem FillRel.cell {f : Nat → Nat} {n : Nat} {wr w1 : World} {g k : Nat} (hb : Hid (Blk wr g (rowA (fill f n k)))) (hk : k < n) (hx : Ext wr w1) : ∃ x : Nat, w1.cell? ⟨g, k, none⟩ = some (.int .u64 (x : Int)) :=
  ⟨_, (hb.out.ext hx).at (by rw [fill_len _ _ _ (by omega)]; exact hk)⟩
/-- What shorten makes of a row of the call's own. -/
theorem own_short {w : World} {base g : Nat} {l : List Nat} (h : Blk w g (rowA l)) (hb : base ≤ g) (hl : l.length ≤ 1000000000) : Own w base (.slice (some ⟨g, 0, none⟩) (trimZ l).length l.length) (trimZ l) := by
  have e : l = trimZ l ++ l.drop (trimZ l).length := by
    conv => lhs; rw [← List.take_append_drop (trimZ l).length l, trimZ_take]
  rw [e] at h
  have := Own.ofBlk h hb (by rw [← e]; simp [maxLen]; omega)
  rwa [← e] at this

set_option maxHeartbeats 1000000 in
theorem Trim_c (p : Nat) (l : List Nat) (a : Option Addr) (c : Nat) (w : World) (ha : Rd w a l) (hl : l.length ≤ 1000000) :
    Calls Try.prog 76 #[.agg #[.int .u64 p], .slice a l.length c] w (SlPost w (trimP p l)) := by
  have hmk := make_c l.length l.length (Nat.le_refl _) (by omega)
  go_enter Try.func76, Try.ntmps76
  go_wp2
  clear hmk
  go_loopw [13] (FillRel (fun i => fred p (l.getD i 0)) l.length (w.alloc (.cells #[.int .u64 p] 65)) (w.heap.size + 1)) (fun i _ => l.length - (intOf i).toNat)
  case atStart => exact FillRel.start _ _ _ _ (by simp)
  case round =>
    obtain ⟨k, rfl, hk, hblk, hext⟩ := hrel
    have hc := hext.boxCell
    by_cases hlt : k < l.length
    · obtain ⟨b, off, rfl, hcell⟩ := ha.at (by omega)
      have c1 := (hext.box).cell (hcell k hlt)
      obtain ⟨x, hx0⟩ : ∃ x, x = l.getD k 0 := ⟨_, rfl⟩
      rw [← hx0] at c1
      have HX := Lib.hid hx0
      have HB := Lib.hid hblk
      clear hcell hx0 hblk ha
      go_wp2_with (go_at_call 59; refine (Reduce_c _ _ _).mono ?_; rintro e w1 ⟨rfl, hn⟩; obtain ⟨y, d1⟩ := FillRel.cell HB hlt hn; have d2 := (HB.out.ext hn).frozen k)
      have hst := FillRel.step (x := fred p x) (w0 := w.alloc (.cells #[.int .u64 p] 65)) (by simp) hlt HB.out hext hn (by rw [HX.out])
      go_roundw
      case rel => exact ⟨k + 1, by go_num, by omega, hst.1, hst.2⟩
      case measure => simp [intOf]; omega
    · obtain rfl : k = l.length := by omega
      rw [fill_full, range_map_getD] at hblk
      have HB := Lib.hid hblk
      have S := shorten_c (l.map (fred p)) (some ⟨w.heap.size + 1, 0, none⟩) l.length wr hblk.rd' (by simp) (by omega)
      rw [List.length_map] at S
      have HS := Lib.hid S
      clear hblk ha S
      go_wp2_with (go_at_call 83; refine HS.out.mono ?_; rintro e w1 ⟨rfl, rfl⟩)
      go_ret
      refine ⟨_, rfl, ?_, hext.box⟩
      have := own_short HB.out (base := w.heap.size) (by omega) (by simp; omega)
      rw [List.length_map] at this
      exact this

set_option maxHeartbeats 1000000 in
theorem at_c (l : List Nat) (a : Option Addr) (c k : Nat) (w : World) (ha : Rd w a l) (hl : l.length ≤ 1000000) :
    Calls Try.prog 84 #[.slice a l.length c, .int .i64 k] w fun e w' => e = .returned (.int .u64 ((l.getD k 0 : Nat) : Int)) ∧ w = w' := by
  by_cases h : k < l.length
  · obtain ⟨b, off, rfl, hcell⟩ := ha.at (by omega)
    have c1 := hcell k h
    obtain ⟨x, hx0⟩ : ∃ x, x = l.getD k 0 := ⟨_, rfl⟩
    rw [← hx0] at c1 ⊢
    clear hcell hx0 ha
    go_enter Try.func84, Try.ntmps84
    go_wp2
    go_ret
    exact ⟨rfl, rfl⟩
  · have e : l.getD k 0 = 0 := by simp [List.getD, List.getElem?_eq_none (by omega : l.length ≤ k)]
    rw [e]
    have h2 : decide ((k : Int) < l.length) = false := by simp; omega
    clear e ha
    go_enter Try.func84, Try.ntmps84
    go_wp2
    go_ret
    exact ⟨rfl, rfl⟩

set_option maxHeartbeats 1000000 in
theorem SubP_c (p : Nat) (l m : List Nat) (a b : Option Addr) (c d : Nat) (w : World) (ha : Rd w a l) (hb : Rd w b m) (hl : l.length ≤ 1000000) (hm : m.length ≤ 1000000) :
    Calls Try.prog 71 #[.agg #[.int .u64 p], .slice a l.length c, .slice b m.length d] w (SlPost w (trimZ (subL p l m))) := by
  rcases Nat.lt_or_ge l.length m.length with hcmp | hcmp
  · have hmk := make_c m.length m.length (Nat.le_refl _) (by omega)
    have HN : Hid (max l.length m.length = m.length) := Lib.hid (by omega)
    go_enter Try.func71, Try.ntmps71
    go_wp2
    clear hmk
    go_loopw [17] (FillRel (fun i => fsub p (l.getD i 0) (m.getD i 0)) m.length (w.alloc (.cells #[.int .u64 p] 65)) (w.heap.size + 1)) (fun i _ => m.length - (intOf i).toNat)
    case atStart => exact FillRel.start _ _ _ _ (by simp)
    case round =>
      obtain ⟨k, rfl, hk, hblk, hext⟩ := hrel
      have hc := hext.boxCell
      by_cases hlt : k < m.length
      · have HB := Lib.hid hblk
        have A := fun w' (h : Ext wr w') => at_c l a c k w' (ha.ext (hext.box.trans h)) hl
        have B := fun w' (h : Ext wr w') => at_c m b d k w' (hb.ext (hext.box.trans h)) hm
        obtain ⟨x, hx0⟩ : ∃ x, x = l.getD k 0 := ⟨_, rfl⟩
        obtain ⟨y, hy0⟩ : ∃ y, y = m.getD k 0 := ⟨_, rfl⟩
        rw [← hx0] at A
        rw [← hy0] at B
        have HX := Lib.hid (And.intro hx0 hy0)
        have HA := Lib.hid A
        have HBB := Lib.hid B
        clear hx0 hy0 hblk ha hb A B
        go_wp2
        refine region_facts [[], [], [], [], [], [(3, 23), (4, 24)], [], [], [(6, 26), (7, 27)], [(2, 22), (5, 25), (8, 28)], [(0, 20), (1, 21)]] [some 20, some 21, some 22, some 23, some 24, some 25, some 26, some 27, some 28, some 29, some 30] (by kernel_rfl) (by kernel_rfl) ?_
        apply From.eq
        · intro w' hx; have hcx := hx.cell hc; dsimp only [DepsV, fat, List.nil_append, List.cons_append, eqF]; go_wp2; exact OpPost.some _ rfl rfl (Ext.refl _) rfl
        apply From.eq
        · intro w' hx; have hcx := hx.cell hc; dsimp only [DepsV, fat, List.nil_append, List.cons_append, eqF]; go_wp2; exact OpPost.some _ rfl rfl (Ext.refl _) rfl
        apply From.eq
        · intro w' hx; have hcx := hx.cell hc; dsimp only [DepsV, fat, List.nil_append, List.cons_append, eqF]; go_wp2; exact OpPost.some _ rfl rfl (Ext.refl _) rfl
        apply From.eq
        · intro w' hx; have hcx := hx.cell hc; dsimp only [DepsV, fat, List.nil_append, List.cons_append, eqF]; go_wp2; exact OpPost.some _ rfl rfl (Ext.refl _) rfl
        apply From.eq
        · intro w' hx; have hcx := hx.cell hc; dsimp only [DepsV, fat, List.nil_append, List.cons_append, eqF]; go_wp2; exact OpPost.some _ rfl rfl (Ext.refl _) rfl
        -- 5: t25
        apply From.eq
        · intro w' hx; have hcx := hx.cell hc; dsimp only [DepsV, fat, List.nil_append, List.cons_append, eqF]; rintro _ rfl _ rfl
          go_wp2_with (go_at_call 84; refine (HA.out _ hx).mono ?_; rintro e w2 ⟨rfl, rfl⟩); exact OpPost.some _ rfl rfl (Ext.refl _) rfl
        apply From.eq
        · intro w' hx; have hcx := hx.cell hc; dsimp only [DepsV, fat, List.nil_append, List.cons_append, eqF]; go_wp2; exact OpPost.some _ rfl rfl (Ext.refl _) rfl
        apply From.eq
        · intro w' hx; have hcx := hx.cell hc; dsimp only [DepsV, fat, List.nil_append, List.cons_append, eqF]; go_wp2; exact OpPost.some _ rfl rfl (Ext.refl _) rfl
        -- 8: t28
        apply From.eq
        · intro w' hx; have hcx := hx.cell hc; dsimp only [DepsV, fat, List.nil_append, List.cons_append, eqF]; rintro _ rfl _ rfl
          go_wp2_with (go_at_call 84; refine (HBB.out _ hx).mono ?_; rintro e w2 ⟨rfl, rfl⟩); exact OpPost.some _ rfl rfl (Ext.refl _) rfl
        apply From.eq
        · intro w' hx; have hcx := hx.cell hc; dsimp only [DepsV, fat, List.nil_append, List.cons_append, eqF]; rintro _ rfl _ rfl _ rfl; go_wp2_with (go_at_call 58; refine (Sub_c _ _ _ _).mono ?_; rintro e w2 ⟨rfl, hb2⟩); exact OpPost.some _ rfl rfl hb2 rfl
        apply From.eq
        · intro w' hx; have hcx := hx.cell hc; dsimp only [DepsV, fat, List.nil_append, List.cons_append, eqF]; rintro _ rfl _ rfl; go_wp2; exact OpPost.some _ rfl rfl (Ext.refl _) rfl
        refine From.fin (fun w' hx => ?_)
        dsimp only [EndV, List.nil_append, List.cons_append, eqF]; rintro _ rfl _ rfl _ rfl _ rfl _ rfl _ rfl _ rfl _ rfl _ rfl _ rfl _ rfl; simp only [Act.put, List.setIfInBounds_toArray, List.set_cons_zero, List.set_cons_succ]
        obtain ⟨z, d1⟩ := FillRel.cell HB hlt hx
        have d2 := (HB.out.ext hx).frozen k
        go_wp2
        have hst := FillRel.step (x := fsub p x y) (w0 := w.alloc (.cells #[.int .u64 p] 65)) (by simp) hlt HB.out hext hx (by rw [HX.out.1, HX.out.2])
        go_roundw
        case rel => exact ⟨k + 1, by go_num, by omega, hst.1, hst.2⟩
        case measure => simp [intOf]; omega
      · obtain rfl : k = m.length := by omega
        rw [fill_full, ← HN.out] at hblk
        have hblk' : Blk wr (w.heap.size + 1) (rowA (subL p l m)) := hblk
        have hlen : (subL p l m).length = m.length := by simp only [subL, List.length_map, List.length_range]; exact HN.out
        have HB := Lib.hid hblk'
        have S := shorten_c (subL p l m) (some ⟨w.heap.size + 1, 0, none⟩) m.length wr hblk'.rd' (by omega) (by omega)
        rw [hlen] at S
        have HS := Lib.hid S
        have HL := Lib.hid hlen
        clear hblk hblk' ha hb S hlen
        go_wp2_with (go_at_call 83; refine HS.out.mono ?_; rintro e w1 ⟨rfl, rfl⟩)
        go_ret
        refine ⟨_, rfl, ?_, hext.box⟩
        have := own_short HB.out (base := w.heap.size) (by omega) (by rw [HL.out]; omega)
        rw [HL.out] at this
        exact this
  · have hmk := make_c l.length l.length (Nat.le_refl _) (by omega)
    have HN : Hid (max l.length m.length = l.length) := Lib.hid (by omega)
    go_enter Try.func71, Try.ntmps71
    go_wp2
    clear hmk
    go_loopw [17] (FillRel (fun i => fsub p (l.getD i 0) (m.getD i 0)) l.length (w.alloc (.cells #[.int .u64 p] 65)) (w.heap.size + 1)) (fun i _ => l.length - (intOf i).toNat)
    case atStart => exact FillRel.start _ _ _ _ (by simp)
    case round =>
      obtain ⟨k, rfl, hk, hblk, hext⟩ := hrel
      have hc := hext.boxCell
      by_cases hlt : k < l.length
      · have HB := Lib.hid hblk
        have A := fun w' (h : Ext wr w') => at_c l a c k w' (ha.ext (hext.box.trans h)) hl
        have B := fun w' (h : Ext wr w') => at_c m b d k w' (hb.ext (hext.box.trans h)) hm
        obtain ⟨x, hx0⟩ : ∃ x, x = l.getD k 0 := ⟨_, rfl⟩
        obtain ⟨y, hy0⟩ : ∃ y, y = m.getD k 0 := ⟨_, rfl⟩
        rw [← hx0] at A
        rw [← hy0] at B
        have HX := Lib.hid (And.intro hx0 hy0)
        have HA := Lib.hid A
        have HBB := Lib.hid B
        clear hx0 hy0 hblk ha hb A B
        go_wp2
        refine region_facts [[], [], [], [], [], [(3, 23), (4, 24)], [], [], [(6, 26), (7, 27)], [(2, 22), (5, 25), (8, 28)], [(0, 20), (1, 21)]] [some 20, some 21, some 22, some 23, some 24, some 25, some 26, some 27, some 28, some 29, some 30] (by kernel_rfl) (by kernel_rfl) ?_
        apply From.eq
        · intro w' hx; have hcx := hx.cell hc; dsimp only [DepsV, fat, List.nil_append, List.cons_append, eqF]; go_wp2; exact OpPost.some _ rfl rfl (Ext.refl _) rfl
        apply From.eq
        · intro w' hx; have hcx := hx.cell hc; dsimp only [DepsV, fat, List.nil_append, List.cons_append, eqF]; go_wp2; exact OpPost.some _ rfl rfl (Ext.refl _) rfl
        apply From.eq
        · intro w' hx; have hcx := hx.cell hc; dsimp only [DepsV, fat, List.nil_append, List.cons_append, eqF]; go_wp2; exact OpPost.some _ rfl rfl (Ext.refl _) rfl
        apply From.eq
        · intro w' hx; have hcx := hx.cell hc; dsimp only [DepsV, fat, List.nil_append, List.cons_append, eqF]; go_wp2; exact OpPost.some _ rfl rfl (Ext.refl _) rfl
        apply From.eq
        · intro w' hx; have hcx := hx.cell hc; dsimp only [DepsV, fat, List.nil_append, List.cons_append, eqF]; go_wp2; exact OpPost.some _ rfl rfl (Ext.refl _) rfl
        -- 5: t25
        apply From.eq
        · intro w' hx; have hcx := hx.cell hc; dsimp only [DepsV, fat, List.nil_append, List.cons_append, eqF]; rintro _ rfl _ rfl
          go_wp2_with (go_at_call 84; refine (HA.out _ hx).mono ?_; rintro e w2 ⟨rfl, rfl⟩); exact OpPost.some _ rfl rfl (Ext.refl _) rfl
        apply From.eq
        · intro w' hx; have hcx := hx.cell hc; dsimp only [DepsV, fat, List.nil_append, List.cons_append, eqF]; go_wp2; exact OpPost.some _ rfl rfl (Ext.refl _) rfl
        apply From.eq
        · intro w' hx; have hcx := hx.cell hc; dsimp only [DepsV, fat, List.nil_append, List.cons_append, eqF]; go_wp2; exact OpPost.some _ rfl rfl (Ext.refl _) rfl
        -- 8: t28
        apply From.eq
        · intro w' hx; have hcx := hx.cell hc; dsimp only [DepsV, fat, List.nil_append, List.cons_append, eqF]; rintro _ rfl _ rfl
          go_wp2_with (go_at_call 84; refine (HBB.out _ hx).mono ?_; rintro e w2 ⟨rfl, rfl⟩); exact OpPost.some _ rfl rfl (Ext.refl _) rfl
        apply From.eq
        · intro w' hx; have hcx := hx.cell hc; dsimp only [DepsV, fat, List.nil_append, List.cons_append, eqF]; rintro _ rfl _ rfl _ rfl; go_wp2_with (go_at_call 58; refine (Sub_c _ _ _ _).mono ?_; rintro e w2 ⟨rfl, hb2⟩); exact OpPost.some _ rfl rfl hb2 rfl
        apply From.eq
        · intro w' hx; have hcx := hx.cell hc; dsimp only [DepsV, fat, List.nil_append, List.cons_append, eqF]; rintro _ rfl _ rfl; go_wp2; exact OpPost.some _ rfl rfl (Ext.refl _) rfl
        refine From.fin (fun w' hx => ?_)
        dsimp only [EndV, List.nil_append, List.cons_append, eqF]; rintro _ rfl _ rfl _ rfl _ rfl _ rfl _ rfl _ rfl _ rfl _ rfl _ rfl _ rfl; simp only [Act.put, List.setIfInBounds_toArray, List.set_cons_zero, List.set_cons_succ]
        obtain ⟨z, d1⟩ := FillRel.cell HB hlt hx
        have d2 := (HB.out.ext hx).frozen k
        go_wp2
        have hst := FillRel.step (x := fsub p x y) (w0 := w.alloc (.cells #[.int .u64 p] 65)) (by simp) hlt HB.out hext hx (by rw [HX.out.1, HX.out.2])
        go_roundw
        case rel => exact ⟨k + 1, by go_num, by omega, hst.1, hst.2⟩
        case measure => simp [intOf]; omega
      · obtain rfl : k = l.length := by omega
        rw [fill_full, ← HN.out] at hblk
        have hblk' : Blk wr (w.heap.size + 1) (rowA (subL p l m)) := hblk
        have hlen : (subL p l m).length = l.length := by simp only [subL, List.length_map, List.length_range]; exact HN.out
        have HB := Lib.hid hblk'
        have S := shorten_c (subL p l m) (some ⟨w.heap.size + 1, 0, none⟩) l.length wr hblk'.rd' (by omega) (by omega)
        rw [hlen] at S
        have HS := Lib.hid S
        have HL := Lib.hid hlen
        clear hblk hblk' ha hb S hlen
        go_wp2_with (go_at_call 83; refine HS.out.mono ?_; rintro e w1 ⟨rfl, rfl⟩)
        go_ret
        refine ⟨_, rfl, ?_, hext.box⟩
        have := own_short HB.out (base := w.heap.size) (by omega) (by rw [HL.out]; omega)
        rw [HL.out] at this
        exact this

end Go.Proofs.Ytgnngifnoaagjaa
