/- Contract of the fast transform. -/
import Derived.Test.YtcnbinjoeilfgaaTr2
import Derived.Handy
namespace Go.Proofs.Ytcnbinjoeilfgaa
open Go.RowKit

def VPost (g : Nat) (l : List Nat) (c : Nat) (w : World) (e : Ending) (w' : World) : Prop := ∃ v, e = .returned v ∧ Arr w' g l c ∧ But g w w'
def VRel1 (l : List Nat) (n : Nat) (g c ge go : Nat) (w1 : World) (s : Value) (wr : World) : Prop :=
  ∃ k : Nat, s = .int .i64 k ∧ k ≤ n ∧ Arr wr g l c ∧ Arr wr ge (fill (fun i => l.getD (2 * i) 0) n k) n ∧ Arr wr go (fill (fun i => l.getD (2 * i + 1) 0) n k) n ∧ Ext w1 wr
def VRel2 (p : Nat) (l e o : List Nat) (n wv : Nat) (g c ge go : Nat) (w1 : World) (q s : Value) (wr : World) : Prop :=
  ∃ k : Nat, s = .int .i64 k ∧ k ≤ n ∧ q = .int .u64 (pwK p wv k) ∧ Arr wr g (tab (n + n) (joink p l e o n wv k)) c ∧ Arr wr ge e n ∧ Arr wr go o n ∧ But g w1 wr

set_option maxRecDepth 100000 in
set_option maxHeartbeats 8000000 in
theorem values_c (p k : Nat) : ∀ (l : List Nat) (g c wv : Nat) (w : World), l.length = 2 ^ k → k ≤ 12 → Arr w g l c →
    Calls Try.prog 42 #[.agg #[.int .u64 p], .slice (some ⟨g, 0, none⟩) l.length c, .int .u64 wv] w (VPost g (fft p k l wv) c w) := by
  induction k with
  | zero =>
    intro l g c wv w hl _ ha
    rw [Nat.pow_zero] at hl
    rw [hl]
    have HA := Lib.hid ha
    clear ha
    go_enter Try.func42, Try.ntmps42
    go_wp2
    go_returns
    exact ⟨_, rfl, HA.out.ext ((Ext.refl _).alloc _), ((Ext.refl _).alloc _).but _⟩
  | succ k ih =>
    intro l g c wv w hl hk ha
    have IH := Lib.hid ih
    clear ih
    obtain ⟨n, hn⟩ : ∃ n, n = 2 ^ k := ⟨_, rfl⟩
    have hl2 : l.length = n + n := by rw [hl, Nat.pow_succ, hn]; omega
    have hn1 : 1 ≤ n := by rw [hn]; exact Nat.two_pow_pos k
    have hn2 : n ≤ 4096 := by
      have := Nat.pow_le_pow_right (show 0 < 2 by omega) (show k ≤ 12 by omega)
      rw [← hn] at this; exact this
    have E0 : Hid (fft p (k + 1) l wv = tab (n + n) (joinv p (fft p k (evens l n) (fmul p wv wv)) (fft p k (odds l n) (fmul p wv wv)) n wv)) := Lib.hid (by
      rw [fft, ← hn, Nat.pow_succ, ← hn]; congr 1; omega)
    have hglt := ha.lt
    have HA := Lib.hid ha
    rw [hl2]
    have hmk := make_c n n (Nat.le_refl _) (by omega)
    have t1 : decide (n + n < 2) = false := by simp; omega
    have hq : ((n : Int) + n) / 2 = (n : Int) := by omega
    have HN := Lib.hid hn
    have HL := Lib.hid hl2
    have hkk : k ≤ 12 := by omega
    obtain ⟨w1, hw1⟩ : ∃ w1, w1 = w.alloc (.cells #[.int .u64 p] 29) := ⟨_, rfl⟩
    have x1 : Hid (Ext w w1) := Lib.hid (by rw [hw1]; exact (Ext.refl _).alloc _)
    have hs1 : Hid (w1.heap.size = w.heap.size + 1) := Lib.hid (by rw [hw1]; simp)
    have hc : w1.cell? ⟨w.heap.size, 0, none⟩ = some (.int .u64 p) := by rw [hw1]; simp
    clear ha hn hl hl2 hk
    go_enter Try.func42, Try.ntmps42
    go_wp2
    go_region
    all_goals rw [← hw1]
    · obtain ⟨w3, hw3⟩ : ∃ w3, w3 = ((w1.alloc (.cells (rowA (List.replicate n 0)) 22)).alloc (.cells (rowA (List.replicate n 0)) 22)).drew := ⟨_, rfl⟩
      have b1 := ((Blk.new w1 (rowA (List.replicate n 0))).alloc (.cells (rowA (List.replicate n 0)) 22)).drew
      have b2 := (Blk.new (w1.alloc (.cells (rowA (List.replicate n 0)) 22)) (rowA (List.replicate n 0))).drew
      have hsd2 : (w1.alloc (.cells (rowA (List.replicate n 0)) 22)).heap.size = w.heap.size + 1 + 1 := by simp; exact hs1.out
      rw [← hw3, hs1.out] at b1
      rw [← hw3, hsd2] at b2
      have X3 : Ext w1 w3 := by rw [hw3]; exact (((Ext.refl _).alloc _).alloc _).drew
      generalize hg2 : w.heap.size + 1 + 1 = go
      rw [hg2] at b2
      generalize hg1 : w.heap.size + 1 = ge
      rw [hg1] at b1
      have k1 : g ≠ ge := by omega
      have k2 : g ≠ go := by omega
      have k3 : ge ≠ go := by omega
      have k4 : w1.heap.size ≤ ge := by rw [hs1.out]; omega
      have k5 : w1.heap.size ≤ go := by rw [hs1.out]; omega
      have A1 := Arr.ofBlk b1 (by simp; omega)
      have A2 := Arr.ofBlk b2 (by simp; omega)
      rw [List.length_replicate] at A1 A2
      have AG := Lib.hid (HA.out.ext (x1.out.trans X3))
      have HA1 := Lib.hid A1
      have HA2 := Lib.hid A2
      clear b1 b2 A1 A2 hsd2 hg1 hg2
      have HW3 := Lib.hid hw3
      clear hw3
      go_wp2
      go_loopw [26] (VRel1 l n g c ge go w1) (fun i _ => n - (intOf i).toNat)
      case atStart => rw [← hw1, ← HW3.out]; exact ⟨0, rfl, Nat.zero_le _, AG.out, by rw [fill_zero]; exact HA1.out, by rw [fill_zero]; exact HA2.out, X3⟩
      case round =>
        clear AG HA1 HA2
        obtain ⟨j, rfl, hj, ag, ae, ao, hext⟩ := hrel
        have hc2 := hext.cell hc
        by_cases hlt : j < n
        · have c1 := ag.at (i := 2 * j) (by rw [HL.out]; omega)
          have c2 := ag.at (i := 2 * j + 1) (by rw [HL.out]; omega)
          have st1 := fill_step (fun i => l.getD (2 * i) 0) n j hlt
          have st2 := fill_step (fun i => l.getD (2 * i + 1) 0) n j hlt
          have l1 : j < (fill (fun i => l.getD (2 * i) 0) n j).length := by rw [fill_len _ _ _ hj]; exact hlt
          have l2 : j < (fill (fun i => l.getD (2 * i + 1) 0) n j).length := by rw [fill_len _ _ _ hj]; exact hlt
          obtain ⟨x, hx0⟩ : ∃ x, x = l.getD (2 * j) 0 := ⟨_, rfl⟩
          obtain ⟨y, hy0⟩ : ∃ y, y = l.getD (2 * j + 1) 0 := ⟨_, rfl⟩
          rw [← hx0] at c1 st1
          rw [← hy0] at c2 st2
          have HAG := Lib.hid ag
          have HAE := Lib.hid ae
          have HAO := Lib.hid ao
          have HST := Lib.hid (And.intro st1 st2)
          have HL1 := Lib.hid (And.intro l1 l2)
          clear hx0 hy0 st1 st2 l1 l2 ag ae ao
          have f1 := HAE.out.frozen j
          have d1 := HAE.out.at HL1.out.1
          have o2 := HAO.out.far (p := ⟨ge, j, none⟩) (fun h => k3 h.symm) (.int .u64 (x : Int))
          have f2 := o2.frozen j
          have d2 := o2.at HL1.out.2
          have c1' := (But.set wr ge j (.int .u64 (x : Int))).cell c1 k1
          have c2' := (But.set wr ge j (.int .u64 (x : Int))).cell c2 k1
          have HO2 := Lib.hid o2
          clear o2
          go_wp2
          go_region

          go_wp2
          go_roundw
          case rel =>
            refine ⟨j + 1, by go_num, by omega, (HAG.out.far k1 _).far k2 _, ?_, ?_, ((hext.setNew (p := ⟨ge, j, none⟩) k4 _).setNew (p := ⟨go, j, none⟩) k5 _).drew⟩
            · rw [← HST.out.1]; exact (HAE.out.set j x HL1.out.1).far k3 _
            · rw [← HST.out.2]; exact HO2.out.set j y HL1.out.2
          case measure => simp [intOf]; omega
        · obtain rfl : j = n := by omega
          rw [fill_full] at ae ao
          have HAG := Lib.hid ag
          have HAE : Hid (Arr wr ge (evens l j) j) := Lib.hid ae
          have HAO : Hid (Arr wr go (odds l j) j) := Lib.hid ao
          have k6 : w.heap.size ≠ ge := by have := hs1.out; omega
          have k7 : w.heap.size ≠ go := by have := hs1.out; omega
          have k8 : w.heap.size ≠ g := by omega
          have hle : (evens l j).length = j := tab_len _ _
          have hlo : (odds l j).length = j := tab_len _ _
          have FE : Hid ((fft p k (evens l j) (fmul p wv wv)).length = j) := Lib.hid (by rw [fft_len _ _ _ _ (by rw [hle]; exact HN.out)]; exact HN.out.symm)
          have FO : Hid ((fft p k (odds l j) (fmul p wv wv)).length = j) := Lib.hid (by rw [fft_len _ _ _ _ (by rw [hlo]; exact HN.out)]; exact HN.out.symm)
          have VE := fun (h : Arr wr ge (evens l j) j) => fun w' (x : Ext wr w') => IH.out (evens l j) ge j (fmul p wv wv) w' (by rw [hle]; exact HN.out) hkk (h.ext x)
          have VO := fun w' (h : Arr w' go (odds l j) j) => IH.out (odds l j) go j (fmul p wv wv) w' (by rw [hlo]; exact HN.out) hkk h
          rw [hle] at VE
          rw [hlo] at VO
          have HVE := Lib.hid VE
          have HVO := Lib.hid VO
          clear ag ae ao VE VO hle hlo hlt hj IH
          obtain ⟨EV, hEV⟩ : ∃ EV, EV = fft p k (evens l j) (fmul p wv wv) := ⟨_, rfl⟩
          obtain ⟨OD, hOD⟩ : ∃ OD, OD = fft p k (odds l j) (fmul p wv wv) := ⟨_, rfl⟩
          rw [← hEV] at HVE FE E0
          rw [← hOD] at HVO FO E0
          clear hEV hOD
          go_wp2_with fail
          refine (Mul_c _ _ _ _).mono ?_; rintro e w4 ⟨rfl, x4⟩
          replace hc2 := x4.cell hc2
          go_wp2_with fail
          refine (HVE.out HAE.out _ x4).mono ?_; rintro e w5 ⟨v5, rfl, ae5, b5⟩
          have X5 := b5.ext (hext.trans x4) k4
          have HG5 := Lib.hid (b5.arr (HAG.out.ext x4) k1)
          have HO5 := Lib.hid (b5.arr (HAO.out.ext x4) (fun h => k3 h.symm))
          have HE5 := Lib.hid ae5
          replace hc2 := b5.cell hc2 k6
          clear ae5 b5
          go_wp2_with fail
          refine (HVO.out _ HO5.out).mono ?_; rintro e w6 ⟨v6, rfl, ao6, b6⟩
          have X6 := b6.ext X5 k5
          have HG6 := Lib.hid (b6.arr HG5.out k2)
          have HE6 := Lib.hid (b6.arr HE5.out k3)
          have HO6 := Lib.hid ao6
          replace hc2 := b6.cell hc2 k7
          clear ao6 b6 HG5 HE5 HO5 HVE HVO HAG HAE HAO
          go_wp2_with fail
          rw [hq]
          go_loopw [11, 61] (VRel2 p l EV OD j wv g c ge go w6) (fun _ i _ => j - (intOf i).toNat)
          case atStart =>
            refine ⟨0, rfl, Nat.zero_le _, rfl, ?_, HE6.out, HO6.out, But.refl _ _⟩
            have : tab (j + j) (joink p l EV OD j wv 0) = l := by rw [joink_zero, ← HL.out, ← list_tab]
            rw [this]; exact HG6.out
          case round =>
            clear HG6 HE6 HO6
            obtain ⟨i, rfl, hi, rfl, ag, ae, ao, bt⟩ := hrel
            have hc3 := bt.cell hc2 k8
            by_cases hlt : i < j
            · have cE := ae.at (i := i) (by rw [FE.out]; exact hlt)
              have cO := ao.at (i := i) (by rw [FO.out]; exact hlt)
              have hst := joink_step p l EV OD j wv i (j + j) hlt
              have E1 : Hid (pwK p wv (i + 1) = fmul p (pwK p wv i) wv) := Lib.hid rfl
              obtain ⟨x, hx0⟩ : ∃ x, x = EV.getD i 0 := ⟨_, rfl⟩
              obtain ⟨y, hy0⟩ : ∃ y, y = OD.getD i 0 := ⟨_, rfl⟩
              obtain ⟨q, hq0⟩ : ∃ q, q = pwK p wv i := ⟨_, rfl⟩
              rw [← hx0] at cE hst
              rw [← hy0] at cO hst
              rw [← hq0] at hst E1
              rw [← hq0]
              obtain ⟨T, hT⟩ : ∃ T, T = tab (j + j) (joink p l EV OD j wv i) := ⟨_, rfl⟩
              have hTl : T.length = j + j := by rw [hT]; exact tab_len _ _
              rw [← hT] at hst ag
              have HST := Lib.hid hst
              have HTL := Lib.hid hTl
              have HAG := Lib.hid ag
              have HAE := Lib.hid ae
              have HAO := Lib.hid ao
              have HBT := Lib.hid bt
              clear hx0 hy0 hq0 hT hst hTl ag ae ao bt
              go_wp2
              refine region_facts [[], [], [], [], [(2, 66), (3, 67)], [(4, 68)], [(0, 64), (1, 65), (5, 69)], [(6, 70)]] [some 64, some 65, some 66, some 67, some 68, some 69, some 70, some 13] (by kernel_rfl) (by kernel_rfl) ?_
              with_reducible apply From.eq
              · intro w' hx; have hc3x := hx.cell hc3; have cOx := hx.cell cO; (try dsimp only [List.nil_append, List.cons_append]); dsimp only [DepsV, fat, eqF]; go_wp2; exact OpPost.some _ rfl rfl (Ext.refl _) rfl
              with_reducible apply From.eq
              · intro w' hx; have hc3x := hx.cell hc3; have cOx := hx.cell cO; (try dsimp only [List.nil_append, List.cons_append]); dsimp only [DepsV, fat, eqF]; go_wp2; exact OpPost.some _ rfl rfl (Ext.refl _) rfl
              with_reducible apply From.eq
              · intro w' hx; have hc3x := hx.cell hc3; have cOx := hx.cell cO; (try dsimp only [List.nil_append, List.cons_append]); dsimp only [DepsV, fat, eqF]; go_wp2; exact OpPost.some _ rfl rfl (Ext.refl _) rfl
              with_reducible apply From.eq
              · intro w' hx; have hc3x := hx.cell hc3; have cOx := hx.cell cO; (try dsimp only [List.nil_append, List.cons_append]); dsimp only [DepsV, fat, eqF]; go_wp2; exact OpPost.some _ rfl rfl (Ext.refl _) rfl
              with_reducible apply From.eq
              · intro w' hx; have hc3x := hx.cell hc3; have cOx := hx.cell cO; (try dsimp only [List.nil_append, List.cons_append]); dsimp only [DepsV, fat, eqF]; rintro _ rfl _ rfl; go_wp2; exact OpPost.some _ rfl rfl (Ext.refl _) rfl
              with_reducible apply From.eq
              · intro w' hx; have hc3x := hx.cell hc3; have cOx := hx.cell cO; (try dsimp only [List.nil_append, List.cons_append]); dsimp only [DepsV, fat, eqF]; rintro _ rfl; go_wp2; exact OpPost.some _ rfl rfl (Ext.refl _) rfl
              with_reducible apply From.eq
              · intro w' hx; have hc3x := hx.cell hc3; have cOx := hx.cell cO; (try dsimp only [List.nil_append, List.cons_append]); dsimp only [DepsV, fat, eqF]; rintro _ rfl _ rfl _ rfl; go_wp2_with (go_at_call 44; refine (Mul_c _ _ _ _).mono ?_; rintro e w2 ⟨rfl, hb2⟩); exact OpPost.some _ rfl rfl hb2 rfl
              with_reducible apply From.eq
              · intro w' hx; have hc3x := hx.cell hc3; have cOx := hx.cell cO; (try dsimp only [List.nil_append, List.cons_append]); dsimp only [DepsV, fat, eqF]; rintro _ rfl; go_wp2; exact OpPost.some _ rfl rfl (Ext.refl _) rfl
              with_reducible refine From.fin ?_
              intro w' hx
              (try dsimp only [List.nil_append, List.cons_append]); dsimp only [EndV, eqF]; rintro _ rfl _ rfl _ rfl _ rfl _ rfl _ rfl _ rfl _ rfl; simp only [Act.put, List.setIfInBounds_toArray, List.set_cons_zero, List.set_cons_succ]
              obtain ⟨wa, rfl⟩ : ∃ wa : World, wa = w' := ⟨_, rfl⟩
              have xa := hx
              clear hx
              have hc4 := xa.cell hc3
              have cE4 := xa.cell cE
              go_wp2
              refine region_facts [[], [], [], [], [], [(3, 74), (4, 75)], [(5, 76)], [], [(2, 73), (6, 77), (7, 78)]] [some 71, some 72, some 73, some 74, some 75, some 76, some 77, some 78, some 79] (by kernel_rfl) (by kernel_rfl) ?_
              with_reducible apply From.eq
              · intro w' hx; have hc4x := hx.cell hc4; have cE4x := hx.cell cE4; (try dsimp only [List.nil_append, List.cons_append]); dsimp only [DepsV, fat, eqF]; go_wp2; exact OpPost.some _ rfl rfl (Ext.refl _) rfl
              with_reducible apply From.eq
              · intro w' hx; have hc4x := hx.cell hc4; have cE4x := hx.cell cE4; (try dsimp only [List.nil_append, List.cons_append]); dsimp only [DepsV, fat, eqF]; go_wp2; exact OpPost.some _ rfl rfl (Ext.refl _) rfl
              with_reducible apply From.eq
              · intro w' hx; have hc4x := hx.cell hc4; have cE4x := hx.cell cE4; (try dsimp only [List.nil_append, List.cons_append]); dsimp only [DepsV, fat, eqF]; go_wp2; exact OpPost.some _ rfl rfl (Ext.refl _) rfl
              with_reducible apply From.eq
              · intro w' hx; have hc4x := hx.cell hc4; have cE4x := hx.cell cE4; (try dsimp only [List.nil_append, List.cons_append]); dsimp only [DepsV, fat, eqF]; go_wp2; exact OpPost.some _ rfl rfl (Ext.refl _) rfl
              with_reducible apply From.eq
              · intro w' hx; have hc4x := hx.cell hc4; have cE4x := hx.cell cE4; (try dsimp only [List.nil_append, List.cons_append]); dsimp only [DepsV, fat, eqF]; go_wp2; exact OpPost.some _ rfl rfl (Ext.refl _) rfl
              with_reducible apply From.eq
              · intro w' hx; have hc4x := hx.cell hc4; have cE4x := hx.cell cE4; (try dsimp only [List.nil_append, List.cons_append]); dsimp only [DepsV, fat, eqF]; rintro _ rfl _ rfl; go_wp2; exact OpPost.some _ rfl rfl (Ext.refl _) rfl
              with_reducible apply From.eq
              · intro w' hx; have hc4x := hx.cell hc4; have cE4x := hx.cell cE4; (try dsimp only [List.nil_append, List.cons_append]); dsimp only [DepsV, fat, eqF]; rintro _ rfl; go_wp2; exact OpPost.some _ rfl rfl (Ext.refl _) rfl
              with_reducible apply From.eq
              · intro w' hx; have hc4x := hx.cell hc4; have cE4x := hx.cell cE4; (try dsimp only [List.nil_append, List.cons_append]); dsimp only [DepsV, fat, eqF]; go_wp2; exact OpPost.some _ rfl rfl (Ext.refl _) rfl
              with_reducible apply From.eq
              · intro w' hx; have hc4x := hx.cell hc4; have cE4x := hx.cell cE4; (try dsimp only [List.nil_append, List.cons_append]); dsimp only [DepsV, fat, eqF]; rintro _ rfl _ rfl _ rfl; go_wp2_with (go_at_call 48; refine (Add_c _ _ _ _).mono ?_; rintro e w2 ⟨rfl, hb2⟩); exact OpPost.some _ rfl rfl hb2 rfl
              with_reducible refine From.fin ?_
              intro w' hx
              (try dsimp only [List.nil_append, List.cons_append]); dsimp only [EndV, eqF]; rintro _ rfl _ rfl _ rfl _ rfl _ rfl _ rfl _ rfl _ rfl _ rfl; simp only [Act.put, List.setIfInBounds_toArray, List.set_cons_zero, List.set_cons_succ]
              obtain ⟨wb, rfl⟩ : ∃ wb : World, wb = w' := ⟨_, rfl⟩
              have xb := hx
              clear hx
              have A1 := (HAG.out.ext xa).ext xb
              have f1 := A1.frozen i
              have d1 := A1.at (i := i) (by rw [HTL.out]; omega)
              obtain ⟨s, hs⟩ : ∃ s, s = fadd p x (fmul p q y) := ⟨_, rfl⟩
              obtain ⟨d, hd⟩ : ∃ d, d = fsub p x (fmul p q y) := ⟨_, rfl⟩
              rw [← hs, ← hd] at HST
              have A2 := A1.set i s (by rw [HTL.out]; omega)
              have B2 := But.set wb g i (.int .u64 (s : Int))
              have hc5 := B2.cell (xb.cell hc4) k8
              have cE5 := B2.cell (xb.cell cE4) (fun h => k1 h.symm)
              have HA2 := Lib.hid A2
              have HB2 := Lib.hid B2
              have hsd : fadd p x (fmul p q y) = s := hs.symm
              have HD := Lib.hid hd
              clear A1 A2 B2 hs hd
              rw [hsd]
              go_wp2
              refine region_facts [[], [], [], [(2, 83)], [(1, 82), (3, 84)], [], [], [], [(6, 87), (7, 88)], [(8, 89)], [], [(5, 86), (9, 90), (10, 91)]] [some 81, some 82, some 83, some 84, some 85, some 86, some 87, some 88, some 89, some 90, some 91, some 92] (by kernel_rfl) (by kernel_rfl) ?_
              with_reducible apply From.eq
              · intro w' hx; have hc5x := hx.cell hc5; have cE5x := hx.cell cE5; (try dsimp only [List.nil_append, List.cons_append]); dsimp only [DepsV, fat, eqF]; go_wp2; exact OpPost.some _ rfl rfl (Ext.refl _) rfl
              with_reducible apply From.eq
              · intro w' hx; have hc5x := hx.cell hc5; have cE5x := hx.cell cE5; (try dsimp only [List.nil_append, List.cons_append]); dsimp only [DepsV, fat, eqF]; go_wp2; exact OpPost.some _ rfl rfl (Ext.refl _) rfl
              with_reducible apply From.eq
              · intro w' hx; have hc5x := hx.cell hc5; have cE5x := hx.cell cE5; (try dsimp only [List.nil_append, List.cons_append]); dsimp only [DepsV, fat, eqF]; go_wp2; exact OpPost.some _ rfl rfl (Ext.refl _) rfl
              with_reducible apply From.eq
              · intro w' hx; have hc5x := hx.cell hc5; have cE5x := hx.cell cE5; (try dsimp only [List.nil_append, List.cons_append]); dsimp only [DepsV, fat, eqF]; rintro _ rfl; go_wp2; exact OpPost.some _ rfl rfl (Ext.refl _) rfl
              with_reducible apply From.eq
              · intro w' hx; have hc5x := hx.cell hc5; have cE5x := hx.cell cE5; (try dsimp only [List.nil_append, List.cons_append]); dsimp only [DepsV, fat, eqF]; rintro _ rfl _ rfl; go_wp2; exact OpPost.some _ rfl rfl (Ext.refl _) rfl
              with_reducible apply From.eq
              · intro w' hx; have hc5x := hx.cell hc5; have cE5x := hx.cell cE5; (try dsimp only [List.nil_append, List.cons_append]); dsimp only [DepsV, fat, eqF]; go_wp2; exact OpPost.some _ rfl rfl (Ext.refl _) rfl
              with_reducible apply From.eq
              · intro w' hx; have hc5x := hx.cell hc5; have cE5x := hx.cell cE5; (try dsimp only [List.nil_append, List.cons_append]); dsimp only [DepsV, fat, eqF]; go_wp2; exact OpPost.some _ rfl rfl (Ext.refl _) rfl
              with_reducible apply From.eq
              · intro w' hx; have hc5x := hx.cell hc5; have cE5x := hx.cell cE5; (try dsimp only [List.nil_append, List.cons_append]); dsimp only [DepsV, fat, eqF]; go_wp2; exact OpPost.some _ rfl rfl (Ext.refl _) rfl
              with_reducible apply From.eq
              · intro w' hx; have hc5x := hx.cell hc5; have cE5x := hx.cell cE5; (try dsimp only [List.nil_append, List.cons_append]); dsimp only [DepsV, fat, eqF]; rintro _ rfl _ rfl; go_wp2; exact OpPost.some _ rfl rfl (Ext.refl _) rfl
              with_reducible apply From.eq
              · intro w' hx; have hc5x := hx.cell hc5; have cE5x := hx.cell cE5; (try dsimp only [List.nil_append, List.cons_append]); dsimp only [DepsV, fat, eqF]; rintro _ rfl; go_wp2; exact OpPost.some _ rfl rfl (Ext.refl _) rfl
              with_reducible apply From.eq
              · intro w' hx; have hc5x := hx.cell hc5; have cE5x := hx.cell cE5; (try dsimp only [List.nil_append, List.cons_append]); dsimp only [DepsV, fat, eqF]; go_wp2; exact OpPost.some _ rfl rfl (Ext.refl _) rfl
              with_reducible apply From.eq
              · intro w' hx; have hc5x := hx.cell hc5; have cE5x := hx.cell cE5; (try dsimp only [List.nil_append, List.cons_append]); dsimp only [DepsV, fat, eqF]; rintro _ rfl _ rfl _ rfl; go_wp2_with (go_at_call 68; refine (Sub_c _ _ _ _).mono ?_; rintro e w2 ⟨rfl, hb2⟩); exact OpPost.some _ rfl rfl hb2 rfl
              with_reducible refine From.fin ?_
              intro w' hx
              (try dsimp only [List.nil_append, List.cons_append]); dsimp only [EndV, eqF]; rintro _ rfl _ rfl _ rfl _ rfl _ rfl _ rfl _ rfl _ rfl _ rfl _ rfl _ rfl _ rfl; simp only [Act.put, List.setIfInBounds_toArray, List.set_cons_zero, List.set_cons_succ]
              obtain ⟨wd, rfl⟩ : ∃ wd : World, wd = w' := ⟨_, rfl⟩
              have xd := hx
              clear hx
              rw [← HD.out]
              have A3 := HA2.out.ext xd
              have f2 := A3.frozen (i + j)
              have d2 := A3.at (i := i + j) (by rw [List.length_set, HTL.out]; omega)
              have HA4 := Lib.hid (A3.set (i + j) d (by rw [List.length_set, HTL.out]; omega))
              have B4 := But.set wd g (i + j) (.int .u64 (d : Int))
              have hc6 := B4.cell (xd.cell hc5) k8
              have HB4 := Lib.hid B4
              clear A3 B4
              go_wp2_with fail
              refine (Mul_c _ _ _ _).mono ?_; rintro e w9 ⟨rfl, x9⟩
              go_wp2_with fail
              go_roundw
              case rel =>
                have BB := ((((HBT.out.trans (xa.but g)).trans (xb.but g)).trans HB2.out).trans (xd.but g)).trans HB4.out
                refine ⟨i + 1, by go_num, by omega, by rw [E1.out], ?_, ?_, ?_, BB.trans (x9.but g)⟩
                · rw [← HST.out]; exact HA4.out.ext x9
                · exact ((HB4.out.arr ((HB2.out.arr ((HAE.out.ext xa).ext xb) (fun h => k1 h.symm)).ext xd) (fun h => k1 h.symm)).ext x9)
                · exact ((HB4.out.arr ((HB2.out.arr ((HAO.out.ext xa).ext xb) (fun h => k2 h.symm)).ext xd) (fun h => k2 h.symm)).ext x9)
              case measure => simp [intOf]; omega
            · obtain rfl : i = j := by omega
              have HAG := Lib.hid ag
              have HBT := Lib.hid bt
              clear ag ae ao bt
              go_wp2
              go_returns
              refine ⟨_, rfl, ?_, ((x1.out.trans X6).but g).trans HBT.out⟩
              have hh := HAG.out
              rw [joink_all] at hh
              rw [E0.out]; exact hh
    · obtain ⟨w3, hw3⟩ : ∃ w3, w3 = ((w1.alloc (.cells (rowA (List.replicate n 0)) 22)).alloc (.cells (rowA (List.replicate n 0)) 22)).drew := ⟨_, rfl⟩
      have b1 := ((Blk.new w1 (rowA (List.replicate n 0))).alloc (.cells (rowA (List.replicate n 0)) 22)).drew
      have b2 := (Blk.new (w1.alloc (.cells (rowA (List.replicate n 0)) 22)) (rowA (List.replicate n 0))).drew
      have hsd2 : (w1.alloc (.cells (rowA (List.replicate n 0)) 22)).heap.size = w.heap.size + 1 + 1 := by simp; exact hs1.out
      rw [← hw3, hs1.out] at b1
      rw [← hw3, hsd2] at b2
      have X3 : Ext w1 w3 := by rw [hw3]; exact (((Ext.refl _).alloc _).alloc _).drew
      generalize hg2 : w.heap.size + 1 + 1 = ge
      rw [hg2] at b2
      generalize hg1 : w.heap.size + 1 = go
      rw [hg1] at b1
      have k1 : g ≠ ge := by omega
      have k2 : g ≠ go := by omega
      have k3 : ge ≠ go := by omega
      have k4 : w1.heap.size ≤ ge := by rw [hs1.out]; omega
      have k5 : w1.heap.size ≤ go := by rw [hs1.out]; omega
      have A1 := Arr.ofBlk b1 (by simp; omega)
      have A2 := Arr.ofBlk b2 (by simp; omega)
      rw [List.length_replicate] at A1 A2
      have AG := Lib.hid (HA.out.ext (x1.out.trans X3))
      have HA1 := Lib.hid A1
      have HA2 := Lib.hid A2
      clear b1 b2 A1 A2 hsd2 hg1 hg2
      have HW3 := Lib.hid hw3
      clear hw3
      go_wp2
      go_loopw [26] (VRel1 l n g c ge go w1) (fun i _ => n - (intOf i).toNat)
      case atStart => rw [← hw1, ← HW3.out]; exact ⟨0, rfl, Nat.zero_le _, AG.out, by rw [fill_zero]; exact HA2.out, by rw [fill_zero]; exact HA1.out, X3⟩
      case round =>
        clear AG HA1 HA2
        obtain ⟨j, rfl, hj, ag, ae, ao, hext⟩ := hrel
        have hc2 := hext.cell hc
        by_cases hlt : j < n
        · have c1 := ag.at (i := 2 * j) (by rw [HL.out]; omega)
          have c2 := ag.at (i := 2 * j + 1) (by rw [HL.out]; omega)
          have st1 := fill_step (fun i => l.getD (2 * i) 0) n j hlt
          have st2 := fill_step (fun i => l.getD (2 * i + 1) 0) n j hlt
          have l1 : j < (fill (fun i => l.getD (2 * i) 0) n j).length := by rw [fill_len _ _ _ hj]; exact hlt
          have l2 : j < (fill (fun i => l.getD (2 * i + 1) 0) n j).length := by rw [fill_len _ _ _ hj]; exact hlt
          obtain ⟨x, hx0⟩ : ∃ x, x = l.getD (2 * j) 0 := ⟨_, rfl⟩
          obtain ⟨y, hy0⟩ : ∃ y, y = l.getD (2 * j + 1) 0 := ⟨_, rfl⟩
          rw [← hx0] at c1 st1
          rw [← hy0] at c2 st2
          have HAG := Lib.hid ag
          have HAE := Lib.hid ae
          have HAO := Lib.hid ao
          have HST := Lib.hid (And.intro st1 st2)
          have HL1 := Lib.hid (And.intro l1 l2)
          clear hx0 hy0 st1 st2 l1 l2 ag ae ao
          have f1 := HAE.out.frozen j
          have d1 := HAE.out.at HL1.out.1
          have o2 := HAO.out.far (p := ⟨ge, j, none⟩) (fun h => k3 h.symm) (.int .u64 (x : Int))
          have f2 := o2.frozen j
          have d2 := o2.at HL1.out.2
          have c1' := (But.set wr ge j (.int .u64 (x : Int))).cell c1 k1
          have c2' := (But.set wr ge j (.int .u64 (x : Int))).cell c2 k1
          have HO2 := Lib.hid o2
          clear o2
          go_wp2
          go_region

          go_wp2
          go_roundw
          case rel =>
            refine ⟨j + 1, by go_num, by omega, (HAG.out.far k1 _).far k2 _, ?_, ?_, ((hext.setNew (p := ⟨ge, j, none⟩) k4 _).setNew (p := ⟨go, j, none⟩) k5 _).drew⟩
            · rw [← HST.out.1]; exact (HAE.out.set j x HL1.out.1).far k3 _
            · rw [← HST.out.2]; exact HO2.out.set j y HL1.out.2
          case measure => simp [intOf]; omega
        · obtain rfl : j = n := by omega
          rw [fill_full] at ae ao
          have HAG := Lib.hid ag
          have HAE : Hid (Arr wr ge (evens l j) j) := Lib.hid ae
          have HAO : Hid (Arr wr go (odds l j) j) := Lib.hid ao
          have k6 : w.heap.size ≠ ge := by have := hs1.out; omega
          have k7 : w.heap.size ≠ go := by have := hs1.out; omega
          have k8 : w.heap.size ≠ g := by omega
          have hle : (evens l j).length = j := tab_len _ _
          have hlo : (odds l j).length = j := tab_len _ _
          have FE : Hid ((fft p k (evens l j) (fmul p wv wv)).length = j) := Lib.hid (by rw [fft_len _ _ _ _ (by rw [hle]; exact HN.out)]; exact HN.out.symm)
          have FO : Hid ((fft p k (odds l j) (fmul p wv wv)).length = j) := Lib.hid (by rw [fft_len _ _ _ _ (by rw [hlo]; exact HN.out)]; exact HN.out.symm)
          have VE := fun (h : Arr wr ge (evens l j) j) => fun w' (x : Ext wr w') => IH.out (evens l j) ge j (fmul p wv wv) w' (by rw [hle]; exact HN.out) hkk (h.ext x)
          have VO := fun w' (h : Arr w' go (odds l j) j) => IH.out (odds l j) go j (fmul p wv wv) w' (by rw [hlo]; exact HN.out) hkk h
          rw [hle] at VE
          rw [hlo] at VO
          have HVE := Lib.hid VE
          have HVO := Lib.hid VO
          clear ag ae ao VE VO hle hlo hlt hj IH
          obtain ⟨EV, hEV⟩ : ∃ EV, EV = fft p k (evens l j) (fmul p wv wv) := ⟨_, rfl⟩
          obtain ⟨OD, hOD⟩ : ∃ OD, OD = fft p k (odds l j) (fmul p wv wv) := ⟨_, rfl⟩
          rw [← hEV] at HVE FE E0
          rw [← hOD] at HVO FO E0
          clear hEV hOD
          go_wp2_with fail
          refine (Mul_c _ _ _ _).mono ?_; rintro e w4 ⟨rfl, x4⟩
          replace hc2 := x4.cell hc2
          go_wp2_with fail
          refine (HVE.out HAE.out _ x4).mono ?_; rintro e w5 ⟨v5, rfl, ae5, b5⟩
          have X5 := b5.ext (hext.trans x4) k4
          have HG5 := Lib.hid (b5.arr (HAG.out.ext x4) k1)
          have HO5 := Lib.hid (b5.arr (HAO.out.ext x4) (fun h => k3 h.symm))
          have HE5 := Lib.hid ae5
          replace hc2 := b5.cell hc2 k6
          clear ae5 b5
          go_wp2_with fail
          refine (HVO.out _ HO5.out).mono ?_; rintro e w6 ⟨v6, rfl, ao6, b6⟩
          have X6 := b6.ext X5 k5
          have HG6 := Lib.hid (b6.arr HG5.out k2)
          have HE6 := Lib.hid (b6.arr HE5.out k3)
          have HO6 := Lib.hid ao6
          replace hc2 := b6.cell hc2 k7
          clear ao6 b6 HG5 HE5 HO5 HVE HVO HAG HAE HAO
          go_wp2_with fail
          rw [hq]
          go_loopw [11, 61] (VRel2 p l EV OD j wv g c ge go w6) (fun _ i _ => j - (intOf i).toNat)
          case atStart =>
            refine ⟨0, rfl, Nat.zero_le _, rfl, ?_, HE6.out, HO6.out, But.refl _ _⟩
            have : tab (j + j) (joink p l EV OD j wv 0) = l := by rw [joink_zero, ← HL.out, ← list_tab]
            rw [this]; exact HG6.out
          case round =>
            clear HG6 HE6 HO6
            obtain ⟨i, rfl, hi, rfl, ag, ae, ao, bt⟩ := hrel
            have hc3 := bt.cell hc2 k8
            by_cases hlt : i < j
            · have cE := ae.at (i := i) (by rw [FE.out]; exact hlt)
              have cO := ao.at (i := i) (by rw [FO.out]; exact hlt)
              have hst := joink_step p l EV OD j wv i (j + j) hlt
              have E1 : Hid (pwK p wv (i + 1) = fmul p (pwK p wv i) wv) := Lib.hid rfl
              obtain ⟨x, hx0⟩ : ∃ x, x = EV.getD i 0 := ⟨_, rfl⟩
              obtain ⟨y, hy0⟩ : ∃ y, y = OD.getD i 0 := ⟨_, rfl⟩
              obtain ⟨q, hq0⟩ : ∃ q, q = pwK p wv i := ⟨_, rfl⟩
              rw [← hx0] at cE hst
              rw [← hy0] at cO hst
              rw [← hq0] at hst E1
              rw [← hq0]
              obtain ⟨T, hT⟩ : ∃ T, T = tab (j + j) (joink p l EV OD j wv i) := ⟨_, rfl⟩
              have hTl : T.length = j + j := by rw [hT]; exact tab_len _ _
              rw [← hT] at hst ag
              have HST := Lib.hid hst
              have HTL := Lib.hid hTl
              have HAG := Lib.hid ag
              have HAE := Lib.hid ae
              have HAO := Lib.hid ao
              have HBT := Lib.hid bt
              clear hx0 hy0 hq0 hT hst hTl ag ae ao bt
              go_wp2
              refine region_facts [[], [], [], [], [(2, 66), (3, 67)], [(4, 68)], [(0, 64), (1, 65), (5, 69)], [(6, 70)]] [some 64, some 65, some 66, some 67, some 68, some 69, some 70, some 13] (by kernel_rfl) (by kernel_rfl) ?_
              with_reducible apply From.eq
              · intro w' hx; have hc3x := hx.cell hc3; have cOx := hx.cell cO; (try dsimp only [List.nil_append, List.cons_append]); dsimp only [DepsV, fat, eqF]; go_wp2; exact OpPost.some _ rfl rfl (Ext.refl _) rfl
              with_reducible apply From.eq
              · intro w' hx; have hc3x := hx.cell hc3; have cOx := hx.cell cO; (try dsimp only [List.nil_append, List.cons_append]); dsimp only [DepsV, fat, eqF]; go_wp2; exact OpPost.some _ rfl rfl (Ext.refl _) rfl
              with_reducible apply From.eq
              · intro w' hx; have hc3x := hx.cell hc3; have cOx := hx.cell cO; (try dsimp only [List.nil_append, List.cons_append]); dsimp only [DepsV, fat, eqF]; go_wp2; exact OpPost.some _ rfl rfl (Ext.refl _) rfl
              with_reducible apply From.eq
              · intro w' hx; have hc3x := hx.cell hc3; have cOx := hx.cell cO; (try dsimp only [List.nil_append, List.cons_append]); dsimp only [DepsV, fat, eqF]; go_wp2; exact OpPost.some _ rfl rfl (Ext.refl _) rfl
              with_reducible apply From.eq
              · intro w' hx; have hc3x := hx.cell hc3; have cOx := hx.cell cO; (try dsimp only [List.nil_append, List.cons_append]); dsimp only [DepsV, fat, eqF]; rintro _ rfl _ rfl; go_wp2; exact OpPost.some _ rfl rfl (Ext.refl _) rfl
              with_reducible apply From.eq
              · intro w' hx; have hc3x := hx.cell hc3; have cOx := hx.cell cO; (try dsimp only [List.nil_append, List.cons_append]); dsimp only [DepsV, fat, eqF]; rintro _ rfl; go_wp2; exact OpPost.some _ rfl rfl (Ext.refl _) rfl
              with_reducible apply From.eq
              · intro w' hx; have hc3x := hx.cell hc3; have cOx := hx.cell cO; (try dsimp only [List.nil_append, List.cons_append]); dsimp only [DepsV, fat, eqF]; rintro _ rfl _ rfl _ rfl; go_wp2_with (go_at_call 44; refine (Mul_c _ _ _ _).mono ?_; rintro e w2 ⟨rfl, hb2⟩); exact OpPost.some _ rfl rfl hb2 rfl
              with_reducible apply From.eq
              · intro w' hx; have hc3x := hx.cell hc3; have cOx := hx.cell cO; (try dsimp only [List.nil_append, List.cons_append]); dsimp only [DepsV, fat, eqF]; rintro _ rfl; go_wp2; exact OpPost.some _ rfl rfl (Ext.refl _) rfl
              with_reducible refine From.fin ?_
              intro w' hx
              (try dsimp only [List.nil_append, List.cons_append]); dsimp only [EndV, eqF]; rintro _ rfl _ rfl _ rfl _ rfl _ rfl _ rfl _ rfl _ rfl; simp only [Act.put, List.setIfInBounds_toArray, List.set_cons_zero, List.set_cons_succ]
              obtain ⟨wa, rfl⟩ : ∃ wa : World, wa = w' := ⟨_, rfl⟩
              have xa := hx
              clear hx
              have hc4 := xa.cell hc3
              have cE4 := xa.cell cE
              go_wp2
              refine region_facts [[], [], [], [], [], [(3, 74), (4, 75)], [(5, 76)], [], [(2, 73), (6, 77), (7, 78)]] [some 71, some 72, some 73, some 74, some 75, some 76, some 77, some 78, some 79] (by kernel_rfl) (by kernel_rfl) ?_
              with_reducible apply From.eq
              · intro w' hx; have hc4x := hx.cell hc4; have cE4x := hx.cell cE4; (try dsimp only [List.nil_append, List.cons_append]); dsimp only [DepsV, fat, eqF]; go_wp2; exact OpPost.some _ rfl rfl (Ext.refl _) rfl
              with_reducible apply From.eq
              · intro w' hx; have hc4x := hx.cell hc4; have cE4x := hx.cell cE4; (try dsimp only [List.nil_append, List.cons_append]); dsimp only [DepsV, fat, eqF]; go_wp2; exact OpPost.some _ rfl rfl (Ext.refl _) rfl
              with_reducible apply From.eq
              · intro w' hx; have hc4x := hx.cell hc4; have cE4x := hx.cell cE4; (try dsimp only [List.nil_append, List.cons_append]); dsimp only [DepsV, fat, eqF]; go_wp2; exact OpPost.some _ rfl rfl (Ext.refl _) rfl
              with_reducible apply From.eq
              · intro w' hx; have hc4x := hx.cell hc4; have cE4x := hx.cell cE4; (try dsimp only [List.nil_append, List.cons_append]); dsimp only [DepsV, fat, eqF]; go_wp2; exact OpPost.some _ rfl rfl (Ext.refl _) rfl
              with_reducible apply From.eq
              · intro w' hx; have hc4x := hx.cell hc4; have cE4x := hx.cell cE4; (try dsimp only [List.nil_append, List.cons_append]); dsimp only [DepsV, fat, eqF]; go_wp2; exact OpPost.some _ rfl rfl (Ext.refl _) rfl
              with_reducible apply From.eq
              · intro w' hx; have hc4x := hx.cell hc4; have cE4x := hx.cell cE4; (try dsimp only [List.nil_append, List.cons_append]); dsimp only [DepsV, fat, eqF]; rintro _ rfl _ rfl; go_wp2; exact OpPost.some _ rfl rfl (Ext.refl _) rfl
              with_reducible apply From.eq
              · intro w' hx; have hc4x := hx.cell hc4; have cE4x := hx.cell cE4; (try dsimp only [List.nil_append, List.cons_append]); dsimp only [DepsV, fat, eqF]; rintro _ rfl; go_wp2; exact OpPost.some _ rfl rfl (Ext.refl _) rfl
              with_reducible apply From.eq
              · intro w' hx; have hc4x := hx.cell hc4; have cE4x := hx.cell cE4; (try dsimp only [List.nil_append, List.cons_append]); dsimp only [DepsV, fat, eqF]; go_wp2; exact OpPost.some _ rfl rfl (Ext.refl _) rfl
              with_reducible apply From.eq
              · intro w' hx; have hc4x := hx.cell hc4; have cE4x := hx.cell cE4; (try dsimp only [List.nil_append, List.cons_append]); dsimp only [DepsV, fat, eqF]; rintro _ rfl _ rfl _ rfl; go_wp2_with (go_at_call 48; refine (Add_c _ _ _ _).mono ?_; rintro e w2 ⟨rfl, hb2⟩); exact OpPost.some _ rfl rfl hb2 rfl
              with_reducible refine From.fin ?_
              intro w' hx
              (try dsimp only [List.nil_append, List.cons_append]); dsimp only [EndV, eqF]; rintro _ rfl _ rfl _ rfl _ rfl _ rfl _ rfl _ rfl _ rfl _ rfl; simp only [Act.put, List.setIfInBounds_toArray, List.set_cons_zero, List.set_cons_succ]
              obtain ⟨wb, rfl⟩ : ∃ wb : World, wb = w' := ⟨_, rfl⟩
              have xb := hx
              clear hx
              have A1 := (HAG.out.ext xa).ext xb
              have f1 := A1.frozen i
              have d1 := A1.at (i := i) (by rw [HTL.out]; omega)
              obtain ⟨s, hs⟩ : ∃ s, s = fadd p x (fmul p q y) := ⟨_, rfl⟩
              obtain ⟨d, hd⟩ : ∃ d, d = fsub p x (fmul p q y) := ⟨_, rfl⟩
              rw [← hs, ← hd] at HST
              have A2 := A1.set i s (by rw [HTL.out]; omega)
              have B2 := But.set wb g i (.int .u64 (s : Int))
              have hc5 := B2.cell (xb.cell hc4) k8
              have cE5 := B2.cell (xb.cell cE4) (fun h => k1 h.symm)
              have HA2 := Lib.hid A2
              have HB2 := Lib.hid B2
              have hsd : fadd p x (fmul p q y) = s := hs.symm
              have HD := Lib.hid hd
              clear A1 A2 B2 hs hd
              rw [hsd]
              go_wp2
              refine region_facts [[], [], [], [(2, 83)], [(1, 82), (3, 84)], [], [], [], [(6, 87), (7, 88)], [(8, 89)], [], [(5, 86), (9, 90), (10, 91)]] [some 81, some 82, some 83, some 84, some 85, some 86, some 87, some 88, some 89, some 90, some 91, some 92] (by kernel_rfl) (by kernel_rfl) ?_
              with_reducible apply From.eq
              · intro w' hx; have hc5x := hx.cell hc5; have cE5x := hx.cell cE5; (try dsimp only [List.nil_append, List.cons_append]); dsimp only [DepsV, fat, eqF]; go_wp2; exact OpPost.some _ rfl rfl (Ext.refl _) rfl
              with_reducible apply From.eq
              · intro w' hx; have hc5x := hx.cell hc5; have cE5x := hx.cell cE5; (try dsimp only [List.nil_append, List.cons_append]); dsimp only [DepsV, fat, eqF]; go_wp2; exact OpPost.some _ rfl rfl (Ext.refl _) rfl
              with_reducible apply From.eq
              · intro w' hx; have hc5x := hx.cell hc5; have cE5x := hx.cell cE5; (try dsimp only [List.nil_append, List.cons_append]); dsimp only [DepsV, fat, eqF]; go_wp2; exact OpPost.some _ rfl rfl (Ext.refl _) rfl
              with_reducible apply From.eq
              · intro w' hx; have hc5x := hx.cell hc5; have cE5x := hx.cell cE5; (try dsimp only [List.nil_append, List.cons_append]); dsimp only [DepsV, fat, eqF]; rintro _ rfl; go_wp2; exact OpPost.some _ rfl rfl (Ext.refl _) rfl
              with_reducible apply From.eq
              · intro w' hx; have hc5x := hx.cell hc5; have cE5x := hx.cell cE5; (try dsimp only [List.nil_append, List.cons_append]); dsimp only [DepsV, fat, eqF]; rintro _ rfl _ rfl; go_wp2; exact OpPost.some _ rfl rfl (Ext.refl _) rfl
              with_reducible apply From.eq
              · intro w' hx; have hc5x := hx.cell hc5; have cE5x := hx.cell cE5; (try dsimp only [List.nil_append, List.cons_append]); dsimp only [DepsV, fat, eqF]; go_wp2; exact OpPost.some _ rfl rfl (Ext.refl _) rfl
              with_reducible apply From.eq
              · intro w' hx; have hc5x := hx.cell hc5; have cE5x := hx.cell cE5; (try dsimp only [List.nil_append, List.cons_append]); dsimp only [DepsV, fat, eqF]; go_wp2; exact OpPost.some _ rfl rfl (Ext.refl _) rfl
              with_reducible apply From.eq
              · intro w' hx; have hc5x := hx.cell hc5; have cE5x := hx.cell cE5; (try dsimp only [List.nil_append, List.cons_append]); dsimp only [DepsV, fat, eqF]; go_wp2; exact OpPost.some _ rfl rfl (Ext.refl _) rfl
              with_reducible apply From.eq
              · intro w' hx; have hc5x := hx.cell hc5; have cE5x := hx.cell cE5; (try dsimp only [List.nil_append, List.cons_append]); dsimp only [DepsV, fat, eqF]; rintro _ rfl _ rfl; go_wp2; exact OpPost.some _ rfl rfl (Ext.refl _) rfl
              with_reducible apply From.eq
              · intro w' hx; have hc5x := hx.cell hc5; have cE5x := hx.cell cE5; (try dsimp only [List.nil_append, List.cons_append]); dsimp only [DepsV, fat, eqF]; rintro _ rfl; go_wp2; exact OpPost.some _ rfl rfl (Ext.refl _) rfl
              with_reducible apply From.eq
              · intro w' hx; have hc5x := hx.cell hc5; have cE5x := hx.cell cE5; (try dsimp only [List.nil_append, List.cons_append]); dsimp only [DepsV, fat, eqF]; go_wp2; exact OpPost.some _ rfl rfl (Ext.refl _) rfl
              with_reducible apply From.eq
              · intro w' hx; have hc5x := hx.cell hc5; have cE5x := hx.cell cE5; (try dsimp only [List.nil_append, List.cons_append]); dsimp only [DepsV, fat, eqF]; rintro _ rfl _ rfl _ rfl; go_wp2_with (go_at_call 68; refine (Sub_c _ _ _ _).mono ?_; rintro e w2 ⟨rfl, hb2⟩); exact OpPost.some _ rfl rfl hb2 rfl
              with_reducible refine From.fin ?_
              intro w' hx
              (try dsimp only [List.nil_append, List.cons_append]); dsimp only [EndV, eqF]; rintro _ rfl _ rfl _ rfl _ rfl _ rfl _ rfl _ rfl _ rfl _ rfl _ rfl _ rfl _ rfl; simp only [Act.put, List.setIfInBounds_toArray, List.set_cons_zero, List.set_cons_succ]
              obtain ⟨wd, rfl⟩ : ∃ wd : World, wd = w' := ⟨_, rfl⟩
              have xd := hx
              clear hx
              rw [← HD.out]
              have A3 := HA2.out.ext xd
              have f2 := A3.frozen (i + j)
              have d2 := A3.at (i := i + j) (by rw [List.length_set, HTL.out]; omega)
              have HA4 := Lib.hid (A3.set (i + j) d (by rw [List.length_set, HTL.out]; omega))
              have B4 := But.set wd g (i + j) (.int .u64 (d : Int))
              have hc6 := B4.cell (xd.cell hc5) k8
              have HB4 := Lib.hid B4
              clear A3 B4
              go_wp2_with fail
              refine (Mul_c _ _ _ _).mono ?_; rintro e w9 ⟨rfl, x9⟩
              go_wp2_with fail
              go_roundw
              case rel =>
                have BB := ((((HBT.out.trans (xa.but g)).trans (xb.but g)).trans HB2.out).trans (xd.but g)).trans HB4.out
                refine ⟨i + 1, by go_num, by omega, by rw [E1.out], ?_, ?_, ?_, BB.trans (x9.but g)⟩
                · rw [← HST.out]; exact HA4.out.ext x9
                · exact ((HB4.out.arr ((HB2.out.arr ((HAE.out.ext xa).ext xb) (fun h => k1 h.symm)).ext xd) (fun h => k1 h.symm)).ext x9)
                · exact ((HB4.out.arr ((HB2.out.arr ((HAO.out.ext xa).ext xb) (fun h => k2 h.symm)).ext xd) (fun h => k2 h.symm)).ext x9)
              case measure => simp [intOf]; omega
            · obtain rfl : i = j := by omega
              have HAG := Lib.hid ag
              have HBT := Lib.hid bt
              clear ag ae ao bt
              go_wp2
              go_returns
              refine ⟨_, rfl, ?_, ((x1.out.trans X6).but g).trans HBT.out⟩
              have hh := HAG.out
              rw [joink_all] at hh
              rw [E0.out]; exact hh
end Go.Proofs.Ytcnbinjoeilfgaa
