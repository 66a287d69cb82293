/- Contracts of the document's layer 6: Many, Nearest. -/
import Derived.Test.YtgnngifnoaagjaaGE
namespace Go.Proofs.Ytgnngifnoaagjaa
open Go.RowKit

def manyM (p : Nat) : Nat → Nat
  | 0 => 1
  | i + 1 => if manyM p i ≤ 20000 then manyM p i * min p 20001 else manyM p i
theorem manyM_le (p : Nat) : ∀ i, manyM p i ≤ 400020001
  | 0 => by show 1 ≤ 400020001; decide
  | i + 1 => by
    have := manyM_le p i
    unfold manyM
    split
    · rename_i h
      have h2 : min p 20001 ≤ 20001 := Nat.min_le_right _ _
      have := Nat.mul_le_mul h h2
      omega
    · exact this
theorem manyM_stay {p i : Nat} (h : ¬ manyM p i ≤ 20000) : ∀ d, manyM p (i + d) = manyM p i
  | 0 => rfl
  | d + 1 => by
    have := manyM_stay h d
    show (if manyM p (i + d) ≤ 20000 then _ else manyM p (i + d)) = _
    rw [this, if_neg h]
def MnRel (p K : Nat) (w1 : World) (n i : Value) (wr : World) : Prop := ∃ j : Nat, i = .int .i64 j ∧ j ≤ K ∧ n = .int .u64 ((manyM p j : Nat) : Int) ∧ Ext w1 wr

set_option maxRecDepth 100000 in
set_option maxHeartbeats 2000000 in
theorem Many_c (p : Nat) (n : Int) (K : Nat) (w : World) (hK : K ≤ 256) :
    Calls Try.prog 26 #[.agg #[.int .u64 p, .int .i64 n, .int .i64 (K : Int)]] w fun e w' => e = .returned (.int .u64 ((manyM p K : Nat) : Int)) ∧ Ext w w' := by
  have h0 : (w.alloc (.cells #[.int .u64 p, .int .i64 n, .int .i64 (K : Int)] 24)).cell? ⟨w.heap.size, 0, none⟩ = some (.int .u64 p) := by simp
  have h2 : (w.alloc (.cells #[.int .u64 p, .int .i64 n, .int .i64 (K : Int)] 24)).cell? ⟨w.heap.size, 2, none⟩ = some (.int .i64 (K : Int)) := by simp
  go_enter Try.func26, Try.ntmps26
  go_wp2_with fail
  go_loopw [3, 4] (MnRel p K (w.alloc (.cells #[.int .u64 p, .int .i64 n, .int .i64 (K : Int)] 24))) (fun _ i _ => K - (intOf i).toNat)
  case atStart => exact ⟨0, rfl, Nat.zero_le _, rfl, Ext.refl _⟩
  case round =>
    obtain ⟨j, rfl, hj, rfl, hext⟩ := hrel
    replace h0 := hext.cell h0
    replace h2 := hext.cell h2
    have HX := Lib.hid hext
    have E1 : Hid (manyM p (j + 1) = if manyM p j ≤ 20000 then manyM p j * min p 20001 else manyM p j) := Lib.hid rfl
    have E2 : Hid (¬ manyM p j ≤ 20000 → manyM p K = manyM p j) := Lib.hid (fun h => by have := manyM_stay h (K - j); rwa [show j + (K - j) = K from by omega] at this)
    obtain ⟨x, hx⟩ : ∃ x, x = manyM p j := ⟨_, rfl⟩
    by_cases hlt : j < K
    · rw [← hx] at E1 E2
      rw [← hx]
      clear hext hx
      by_cases hb : x ≤ 20000
      · have E3 : Hid (manyM p (j + 1) = x * min p 20001) := Lib.hid (by rw [E1.out, if_pos hb])
        by_cases hp : p ≤ 20001
        · have E4 : Hid (x * min p 20001 = x * p) := Lib.hid (by rw [Nat.min_eq_left hp])
          have hxp : x * p ≤ 20000 * 20001 := Nat.mul_le_mul hb hp
          have HC : Hid ((x : Int) * (p : Int) = ((x * p : Nat) : Int)) := Lib.hid (by rw [Int.natCast_mul])
          have b1 : (x : Int) * (p : Int) ≤ 400020000 := by rw [HC.out]; omega
          have b2 : 0 ≤ (x : Int) * (p : Int) := by rw [HC.out]; omega
          go_wp2_with fail
          go_roundw
          case rel => exact ⟨j + 1, by go_num, by omega, by rw [E3.out, E4.out, ← HC.out], HX.out⟩
          case measure => simp [intOf]; omega
        · have E4 : Hid (x * min p 20001 = x * 20001) := Lib.hid (by rw [Nat.min_eq_right (by omega)])
          go_wp2_with fail
          go_roundw
          case rel => exact ⟨j + 1, by go_num, by omega, by rw [E3.out, E4.out]; first | rfl | go_num, HX.out⟩
          case measure => simp [intOf]; omega
      · go_wp2_with fail
        go_ret
        exact ⟨by rw [E2.out hb]; rfl, HX.out.box⟩
    · obtain rfl : j = K := by omega
      clear hext
      go_wp2_with fail
      go_ret
      exact ⟨rfl, HX.out.box⟩

/-- The number whose digits a list of cells holds. -/
def numA (p : Nat) : List Value → Nat
  | .int _ z :: r => z.toNat + p * numA p r
  | _ => 0
theorem digs_succ (p K t : Nat) : digs p (K + 1) t = t % p :: digs p K (t / p) := by
  unfold digs tab
  rw [List.range_succ_eq_map, List.map_cons, List.map_map]
  congr 1
  · simp
  · apply List.map_congr_left
    intro j _
    simp only [Function.comp]
    rw [Nat.pow_succ, Nat.mul_comm, Nat.div_div_eq_div_mul]
theorem numA_digs {p : Nat} (hp : 0 < p) : ∀ K t, t < p ^ K → numA p (rowL (digs p K t)) = t
  | 0, t, h => by
    have : t = 0 := by simpa using h
    subst this; rfl
  | K + 1, t, h => by
    rw [digs_succ]
    show ((t % p : Nat) : Int).toNat + p * numA p (rowL (digs p K (t / p))) = t
    rw [numA_digs hp K (t / p) (by rw [Nat.div_lt_iff_lt_mul hp]; rwa [Nat.pow_succ] at h), Int.toNat_natCast]
    exact Nat.mod_add_div t p
def numW (p g : Nat) (w : World) : Nat := match w.heap[g]? with
  | some (.cells cur _ _) => numA p cur.toList
  | _ => 0
theorem Arr.num {w : World} {g p K t : Nat} (h : Arr w g (digs p K t) K) (hp : 0 < p) (ht : t < p ^ K) : numW p g w = t := by
  obtain ⟨cur, hg, h1, _, _, h2⟩ := h
  unfold numW
  rw [hg]
  simp only
  rw [digs_len, ← h1, List.take_of_length_le (by simp)] at h2
  rw [h2, h1, numA_digs hp K t ht]
theorem Own.formN6 {w : World} {base : Nat} {v : Value} {l : List Nat} (h : Own w base v l) (n : Nat) (hn : l.length = n) : ∃ a c, v = .slice a n c ∧ n ≤ c ∧ Rd w a l := by
  subst hn
  obtain ⟨a, c, hv, hlc, _, hr⟩ := h.form
  exact ⟨a, c, hv, hlc, hr⟩
theorem last_dig {p K t i : Nat} (hp : 2 ≤ p) (hi : i < K) (ht : t < p ^ K) (h1 : t % p ^ i = p ^ i - 1) (h2 : t / p ^ i % p ≠ p - 1) : t + 1 < p ^ K := by
  rcases Nat.lt_or_ge (t + 1) (p ^ K) with h | h
  · exact h
  · exfalso
    have e : t + 1 = p ^ K := by omega
    have h3 := succ_dig (by omega) h1 h2 i
    rw [if_neg (by omega), if_pos rfl, e] at h3
    obtain ⟨d, rfl⟩ : ∃ d, K = d + 1 + i := ⟨K - i - 1, by omega⟩
    rw [Nat.pow_add, Nat.mul_div_cancel _ (Nat.pow_pos (by omega)), Nat.pow_succ, Nat.mul_mod_left] at h3
    omega
theorem rnK_none {p N K t : Nat} {W : List Nat} {e : Int} (ht : t < p ^ K) (h1 : t % p ^ K = p ^ K - 1) (hd : ¬ (dist (cword p N (digs p K t)) W : Int) ≤ e) : rnK p N K W e (p ^ K - t) t = none := by
  rw [Nat.mod_eq_of_lt ht] at h1
  rw [show p ^ K - t = 0 + 1 from by omega, rnK, if_neg hd]; rfl
theorem rnK_some {p N K t : Nat} {W : List Nat} {e : Int} (ht : t < p ^ K) (hd : (dist (cword p N (digs p K t)) W : Int) ≤ e) : rnK p N K W e (p ^ K - t) t = some (cword p N (digs p K t)) := by
  obtain ⟨f, hf⟩ : ∃ f, p ^ K - t = f + 1 := ⟨p ^ K - t - 1, by omega⟩
  rw [hf, rnK, if_pos hd]
theorem rnK_step {p N K t : Nat} {W : List Nat} {e : Int} (ht : t < p ^ K) (hd : ¬ (dist (cword p N (digs p K t)) W : Int) ≤ e) : rnK p N K W e (p ^ K - t) t = rnK p N K W e (p ^ K - (t + 1)) (t + 1) := by
  obtain ⟨f, hf⟩ : ∃ f, p ^ K - t = f + 1 := ⟨p ^ K - t - 1, by omega⟩
  rw [hf, rnK, if_neg hd, show p ^ K - (t + 1) = f from by omega]
def NoRel (p K g : Nat) (W : List Nat) (e : Int) (R : Option (List Nat)) (N : Nat) (w2 : World) (_ _ : Value) (wr : World) : Prop :=
  ∃ t : Nat, t < p ^ K ∧ rnK p N K W e (p ^ K - t) t = R ∧ Arr wr g (digs p K t) K ∧ Ext w2 wr
def NiRel (p K g t : Nat) (w2 : World) (i : Value) (wr : World) : Prop :=
  ∃ j : Nat, i = .int .i64 j ∧ j ≤ K ∧ t % p ^ j = p ^ j - 1 ∧ Arr wr g (tab K (fun q => if q < j then 0 else t / p ^ q % p)) K ∧ Ext w2 wr

set_option maxRecDepth 100000 in
set_option maxHeartbeats 4000000 in
theorem RNear_c (p N K : Nat) (l : List Nat) (e : Int) (a : Option Addr) (c : Nat) (w : World) (hc : cval p N K = true) (ha : Rd w a l) (hl : l.length ≤ 300) :
    Calls Try.prog 28 #[.agg #[.int .u64 p, .int .i64 (N : Int), .int .i64 (K : Int)], .slice a l.length c, .int .i64 e] w (NPost w (rNear p N K l e)) := by
  have HA := Lib.hid ha
  clear ha
  have h0 : (w.alloc (.cells #[.int .u64 p, .int .i64 (N : Int), .int .i64 (K : Int)] 24)).cell? ⟨w.heap.size, 0, none⟩ = some (.int .u64 p) := by simp
  have h1 : (w.alloc (.cells #[.int .u64 p, .int .i64 (N : Int), .int .i64 (K : Int)] 24)).cell? ⟨w.heap.size, 1, none⟩ = some (.int .i64 (N : Int)) := by simp
  have h2 : (w.alloc (.cells #[.int .u64 p, .int .i64 (N : Int), .int .i64 (K : Int)] 24)).cell? ⟨w.heap.size, 2, none⟩ = some (.int .i64 (K : Int)) := by simp
  obtain ⟨hv, e0, K', N', he8, hN2, hN1, hK1, hK2, hK3, hNp, hdd, hok⟩ := cval_spec hc
  obtain rfl : N' = N := by omega
  obtain rfl : K' = K := by omega
  have hN256 : N' ≤ 256 := by have := ((cval_iff p N' K').1 hc).2.2.1; omega
  have hp := vld_bd hv
  have RC := Lib.hid (fun w' (h : Rd w' a l) => RReduced6_c p l a c w' h (by omega))
  have EC := fun (m : List Nat) (hm : m.length = K') w' (a : Option Addr) (c : Nat) (h : Rd w' a m) => REncode_c p N' K' m a c w' h (by omega) (by omega) (by omega)
  have EC2 : Hid (∀ (m : List Nat) (hm : m.length = K') w' (a : Option Addr) (c : Nat) (h : Rd w' a m), Calls Try.prog 23 #[.agg #[.int .u64 p, .int .i64 (N' : Int), .int .i64 (K' : Int)], .slice a K' c] w' (SlPost w' (cword p N' m))) := Lib.hid (fun m hm w' a c h => by
    have := EC m hm w' a c h
    rw [rEnc_val hc, Int.toNat_natCast, hm] at this
    exact this)
  have WL := Lib.hid (fun m => cword_len p N' m)
  obtain ⟨W, hW⟩ : ∃ W, W = l.map (fred p) := ⟨_, rfl⟩
  have hWl : W.length = l.length := by rw [hW, List.length_map]
  have ER : Hid (rNear p N' K' l e = rnK p N' K' W e (p ^ K') 0) := Lib.hid (by rw [hW]; rfl)
  rw [← hW] at RC
  have HWL := Lib.hid hWl
  have DC := Lib.hid (fun (m : List Nat) (hm : m.length = N') w' (a b : Option Addr) (c d : Nat) (h1 : Rd w' a m) (h2 : Rd w' b W) => RDistance_c m W a b c d w' h1 h2 (by omega) (by omega))
  have DC : Hid (∀ (m : List Nat) (_ : m.length = N') w' (a b : Option Addr) (c d : Nat) (_ : Rd w' a m) (_ : Rd w' b W), Calls Try.prog 25 #[.slice a N' c, .slice b l.length d] w' fun e w'' => e = .returned (.int .i64 ((dist m W : Nat) : Int)) ∧ Ext w' w'') := Lib.hid (fun m hm w' a b c d h1 h2 => by
    have := DC.out m hm w' a b c d h1 h2
    rw [hWl, hm] at this
    exact this)
  have hp2 : 2 ≤ p := by omega
  have hmk := make_c K' K' (Nat.le_refl _) (by omega)
  have hp0 : 0 < p := by omega
  have hp64 : p < 18446744073709551616 := by omega
  have hK256 : K' ≤ 256 := by omega
  clear hc EC hW hWl hN1 hK1 hNp hv he8 hN2 hdd hok hp
  go_enter Try.func28, Try.ntmps28
  go_wp2_with fail
  refine (RC.out _ (HA.out.ext ((Ext.refl _).alloc _))).mono ?_; rintro e w2 ⟨v2, rfl, o2, x2⟩
  obtain ⟨a2, c2, rfl, _, _, r2⟩ := o2.form
  have R2 := Lib.hid r2
  replace h0 := x2.cell h0
  replace h1 := x2.cell h1
  replace h2 := x2.cell h2
  have X := Lib.hid x2.box
  rw [HWL.out]
  clear o2 r2 x2
  go_wp2_with fail
  clear hmk
  go_loopw [10, 11] (NoRel p K' w2.heap.size W e (rNear p N' K' l e) N' w2) (fun _ _ wr => p ^ K' - numW p w2.heap.size wr)
  case atStart =>
    refine ⟨0, Nat.pow_pos hp0, by rw [ER.out]; rfl, ?_, (Ext.refl _).alloc _⟩
    have := Arr.ofBlk (Blk.new w2 (rowA (List.replicate K' 0))) (by simp; omega)
    rw [List.length_replicate] at this
    rw [digs_zero]; exact this
  case round =>
    obtain ⟨t, ht, hrn, harr, hext⟩ := hrel
    have c0 := hext.cell h0
    have c1 := hext.cell h1
    have c2 := hext.cell h2
    have HARR := Lib.hid harr
    have HX := Lib.hid hext
    have RDM := Lib.hid harr.rd
    have HRN := Lib.hid hrn
    have HT := Lib.hid ht
    clear harr hext hrn ht
    go_wp2_with fail
    refine (EC2.out (digs p K' t) (digs_len _ _ _) _ _ _ RDM.out).mono ?_; rintro e3 w3 ⟨v3, rfl, o3, x3⟩
    obtain ⟨a3, c3, rfl, _, r3⟩ := o3.formN6 N' (WL.out _)
    have O3 := Lib.hid o3
    have X3 := Lib.hid x3
    replace c0 := x3.cell c0
    replace c1 := x3.cell c1
    replace c2 := x3.cell c2
    have R3 := Lib.hid r3
    clear o3 x3 r3
    go_wp2_with fail
    refine (DC.out (cword p N' (digs p K' t)) (WL.out _) _ _ _ _ _ R3.out (R2.out.ext (HX.out.trans X3.out))).mono ?_; rintro e4 w4 ⟨rfl, x4⟩
    replace c0 := x4.cell c0
    replace c1 := x4.cell c1
    replace c2 := x4.cell c2
    have X4 := Lib.hid (X3.out.trans x4)
    have X44 := Lib.hid x4
    clear x4
    by_cases hd : ((dist (cword p N' (digs p K' t)) W : Nat) : Int) ≤ e
    · have E : Hid (rNear p N' K' l e = some (cword p N' (digs p K' t))) := Lib.hid (by rw [← HRN.out, rnK_some HT.out hd])
      obtain ⟨d, hdd⟩ : ∃ d, d = dist (cword p N' (digs p K' t)) W := ⟨_, rfl⟩
      rw [← hdd] at hd
      rw [← hdd]
      clear hdd
      go_wp2_with fail
      go_ret2
      refine ⟨_, by rw [E.out]; rfl, ?_, X.out.trans (HX.out.trans X4.out)⟩
      rw [E.out]
      exact (O3.out.base (X.out.trans HX.out).size).grow X44.out
    · have E : Hid (t % p ^ K' = p ^ K' - 1 → rNear p N' K' l e = none) := Lib.hid (fun h => by rw [← HRN.out, rnK_none HT.out h hd])
      have ES : Hid (rnK p N' K' W e (p ^ K' - (t + 1)) (t + 1) = rNear p N' K' l e) := Lib.hid (by rw [← HRN.out, rnK_step HT.out hd])
      obtain ⟨d, hdd⟩ : ∃ d, d = dist (cword p N' (digs p K' t)) W := ⟨_, rfl⟩
      rw [← hdd] at hd
      rw [← hdd]
      clear hdd
      have NUM : Hid (numW p w2.heap.size wr = t) := Lib.hid (HARR.out.num hp0 HT.out)
      go_wp2_with fail
      go_loopw [11] (NiRel p K' w2.heap.size t w2) (fun i _ => K' - (intOf i).toNat)
      case atStart =>
        refine ⟨0, rfl, Nat.zero_le _, by simp [Nat.mod_one], ?_, HX.out.trans X4.out⟩
        have := HARR.out.ext X4.out
        unfold digs at this
        rw [tab_congr (G := fun q => if q < 0 then 0 else t / p ^ q % p) (fun q _ => by rw [if_neg (by omega)])] at this
        exact this
      case round =>
        obtain ⟨j, rfl, hj, hlow, harr2, hext2⟩ := hrel
        have b0 := hext2.cell h0
        have b2 := hext2.cell h2
        have HX2 := Lib.hid hext2
        have HLOW := Lib.hid hlow
        have HARR2 := Lib.hid harr2
        clear hlow c0 c1 c2
        by_cases hjK : j < K'
        · have ca := harr2.at (i := j) (by rw [tab_len]; exact hjK)
          have fz := harr2.frozen j
          rw [tab_get _ _ _ hjK, if_neg (Nat.lt_irrefl j)] at ca
          have hxp : t / p ^ j % p < p := Nat.mod_lt _ hp0
          obtain ⟨x, hx⟩ : ∃ x, x = t / p ^ j % p := ⟨_, rfl⟩
          rw [← hx] at ca hxp
          clear harr2 hext2
          by_cases hxe : x = p - 1
          · have tE : ((x : Int) == (p : Int) - 1) = true := by simp; omega
            have S2 : Hid ((tab K' (fun q => if q < j then 0 else t / p ^ q % p)).set j 0 = tab K' (fun q => if q < j + 1 then 0 else t / p ^ q % p)) := Lib.hid (tab_upd fun q _ => by
              by_cases h1 : q = j
              · rw [if_pos h1, if_pos (by omega)]
              · rw [if_neg h1]
                by_cases h2 : q < j
                · rw [if_pos h2, if_pos (by omega)]
                · rw [if_neg h2, if_neg (by omega)])
            have LS : Hid (t % p ^ (j + 1) = p ^ (j + 1) - 1) := Lib.hid (low_step hp0 HLOW.out (by rw [← hx]; exact hxe))
            clear hxe hx
            go_wp2_with fail
            refine region_facts [[], [], [(1, 29)], [(0, 28), (2, 30)], [(3, 31)], [(4, 32)], [(4, 32)], [(5, 33), (6, 34), (4, 32)], [(7, 35), (4, 32)], [(4, 32)], [(9, 37), (4, 32)], [(10, 38), (4, 32)], [(8, 36), (11, 39), (4, 32)], [(4, 32), (12, 40)]] [some 28, some 29, some 30, some 31, some 32, some 33, some 34, some 35, some 36, some 37, some 38, some 39, some 40, some 41] (by kernel_rfl) (by kernel_rfl) ?_
            with_reducible apply From.eq
            · intro w' hx; have b0x := hx.cell b0; have b2x := hx.cell b2; have cax := hx.cell ca; (try dsimp only [List.nil_append, List.cons_append]); dsimp only [DepsV, fat, eqF]; go_wp2; exact OpPost.some _ rfl rfl (Ext.refl _) rfl
            with_reducible apply From.eq
            · intro w' hx; have b0x := hx.cell b0; have b2x := hx.cell b2; have cax := hx.cell ca; (try dsimp only [List.nil_append, List.cons_append]); dsimp only [DepsV, fat, eqF]; go_wp2; exact OpPost.some _ rfl rfl (Ext.refl _) rfl
            with_reducible apply From.eq
            · intro w' hx; have b0x := hx.cell b0; have b2x := hx.cell b2; have cax := hx.cell ca; (try dsimp only [List.nil_append, List.cons_append]); dsimp only [DepsV, fat, eqF]; rintro _ rfl; go_wp2; exact OpPost.some _ rfl rfl (Ext.refl _) rfl
            with_reducible apply From.eq
            · intro w' hx; have b0x := hx.cell b0; have b2x := hx.cell b2; have cax := hx.cell ca; (try dsimp only [List.nil_append, List.cons_append]); dsimp only [DepsV, fat, eqF]; rintro _ rfl _ rfl; go_wp2; exact OpPost.some _ rfl rfl (Ext.refl _) rfl
            with_reducible apply From.eq
            · intro w' hx; have b0x := hx.cell b0; have b2x := hx.cell b2; have cax := hx.cell ca; (try dsimp only [List.nil_append, List.cons_append]); dsimp only [DepsV, fat, eqF]; rintro _ rfl; go_wp2; exact OpPost.some _ rfl rfl (Ext.refl _) rfl
            with_reducible apply From.eq
            · intro w' hx; have b0x := hx.cell b0; have b2x := hx.cell b2; have cax := hx.cell ca; (try dsimp only [List.nil_append, List.cons_append]); dsimp only [DepsV, fat, eqF]; rintro _ rfl; go_wp2; exact OpPost.some _ rfl rfl (Ext.refl _) rfl
            with_reducible apply From.eq
            · intro w' hx; have b0x := hx.cell b0; have b2x := hx.cell b2; have cax := hx.cell ca; (try dsimp only [List.nil_append, List.cons_append]); dsimp only [DepsV, fat, eqF]; rintro _ rfl; go_wp2; exact OpPost.some _ rfl rfl (Ext.refl _) rfl
            with_reducible apply From.eq
            · intro w' hx; have b0x := hx.cell b0; have b2x := hx.cell b2; have cax := hx.cell ca; (try dsimp only [List.nil_append, List.cons_append]); dsimp only [DepsV, fat, eqF]; rintro _ rfl _ rfl _ rfl; go_wp2; exact OpPost.some _ rfl rfl (Ext.refl _) rfl
            with_reducible apply From.eq
            · intro w' hx; have b0x := hx.cell b0; have b2x := hx.cell b2; have cax := hx.cell ca; (try dsimp only [List.nil_append, List.cons_append]); dsimp only [DepsV, fat, eqF]; rintro _ rfl _ rfl; go_wp2; exact OpPost.some _ rfl rfl (Ext.refl _) rfl
            with_reducible apply From.eq
            · intro w' hx; have b0x := hx.cell b0; have b2x := hx.cell b2; have cax := hx.cell ca; (try dsimp only [List.nil_append, List.cons_append]); dsimp only [DepsV, fat, eqF]; rintro _ rfl; go_wp2; exact OpPost.some _ rfl rfl (Ext.refl _) rfl
            with_reducible apply From.eq
            · intro w' hx; have b0x := hx.cell b0; have b2x := hx.cell b2; have cax := hx.cell ca; (try dsimp only [List.nil_append, List.cons_append]); dsimp only [DepsV, fat, eqF]; rintro _ rfl _ rfl; go_wp2; exact OpPost.some _ rfl rfl (Ext.refl _) rfl
            with_reducible apply From.eq
            · intro w' hx; have b0x := hx.cell b0; have b2x := hx.cell b2; have cax := hx.cell ca; (try dsimp only [List.nil_append, List.cons_append]); dsimp only [DepsV, fat, eqF]; rintro _ rfl _ rfl; go_wp2; exact OpPost.some _ rfl rfl (Ext.refl _) rfl
            with_reducible apply From.eq
            · intro w' hx; have b0x := hx.cell b0; have b2x := hx.cell b2; have cax := hx.cell ca; (try dsimp only [List.nil_append, List.cons_append]); dsimp only [DepsV, fat, eqF]; rintro _ rfl _ rfl _ rfl; go_wp2; exact OpPost.some _ rfl rfl (Ext.refl _) rfl
            with_reducible apply From.eq
            · intro w' hx; have b0x := hx.cell b0; have b2x := hx.cell b2; have cax := hx.cell ca; (try dsimp only [List.nil_append, List.cons_append]); dsimp only [DepsV, fat, eqF]; rintro _ rfl _ rfl; go_wp2; exact OpPost.some _ rfl rfl (Ext.refl _) rfl
            with_reducible refine From.fin ?_
            intro w' hx
            (try dsimp only [List.nil_append, List.cons_append]); dsimp only [EndV, eqF]; rintro _ rfl _ rfl _ rfl _ rfl _ rfl _ rfl _ rfl _ rfl _ rfl _ rfl _ rfl _ rfl _ rfl _ rfl; simp only [Act.put, List.setIfInBounds_toArray, List.set_cons_zero, List.set_cons_succ]
            replace ca := hx.cell ca
            have fz2 : w'.frozen? ⟨w2.heap.size, j, none⟩ = false := (HARR2.out.ext hx).frozen j
            have S1 := Lib.hid ((HARR2.out.ext hx).set j 0 (by rw [tab_len]; exact hjK))
            have XS := Lib.hid ((HX2.out.trans hx).setNew (p := ⟨w2.heap.size, j, none⟩) (Nat.le_refl _) (.int .u64 ((0 : Nat) : Int)))
            clear hx fz b0 b2
            go_wp2_with fail
            go_roundw
            case rel => exact ⟨j + 1, by go_num, by omega, LS.out, by rw [← S2.out]; exact S1.out, XS.out⟩
            case measure => simp [intOf]; omega
          · have tE : ((x : Int) == (p : Int) - 1) = false := beq_eq_false_iff_ne.2 (by omega)
            have tK : ((j : Int) == (K' : Int)) = false := beq_eq_false_iff_ne.2 (by omega)
            have hx1 : x + 1 < p := by omega
            have S2 : Hid ((tab K' (fun q => if q < j then 0 else t / p ^ q % p)).set j (x + 1) = digs p K' (t + 1)) := Lib.hid (tab_upd fun q _ => by
              rw [succ_dig hp0 HLOW.out (by rw [← hx]; exact hxe) q]
              by_cases h1 : q = j
              · rw [if_neg (by omega), if_pos h1, if_pos h1, hx]
              · rw [if_neg h1, if_neg h1])
            have LT : Hid (t + 1 < p ^ K') := Lib.hid (last_dig hp2 hjK HT.out HLOW.out (by rw [← hx]; exact hxe))
            clear hxe hx
            go_wp2_with fail
            refine region_facts [[], [], [(1, 29)], [(0, 28), (2, 30)], [(3, 31)], [(4, 32)], [(4, 32)], [(5, 33), (6, 34), (4, 32)], [(7, 35), (4, 32)], [(4, 32)], [(9, 37), (4, 32)], [(10, 38), (4, 32)], [(8, 36), (11, 39), (4, 32)], [(4, 32), (12, 40)]] [some 28, some 29, some 30, some 31, some 32, some 33, some 34, some 35, some 36, some 37, some 38, some 39, some 40, some 41] (by kernel_rfl) (by kernel_rfl) ?_
            with_reducible apply From.eq
            · intro w' hx; have b0x := hx.cell b0; have b2x := hx.cell b2; have cax := hx.cell ca; (try dsimp only [List.nil_append, List.cons_append]); dsimp only [DepsV, fat, eqF]; go_wp2; exact OpPost.some _ rfl rfl (Ext.refl _) rfl
            with_reducible apply From.eq
            · intro w' hx; have b0x := hx.cell b0; have b2x := hx.cell b2; have cax := hx.cell ca; (try dsimp only [List.nil_append, List.cons_append]); dsimp only [DepsV, fat, eqF]; go_wp2; exact OpPost.some _ rfl rfl (Ext.refl _) rfl
            with_reducible apply From.eq
            · intro w' hx; have b0x := hx.cell b0; have b2x := hx.cell b2; have cax := hx.cell ca; (try dsimp only [List.nil_append, List.cons_append]); dsimp only [DepsV, fat, eqF]; rintro _ rfl; go_wp2; exact OpPost.some _ rfl rfl (Ext.refl _) rfl
            with_reducible apply From.eq
            · intro w' hx; have b0x := hx.cell b0; have b2x := hx.cell b2; have cax := hx.cell ca; (try dsimp only [List.nil_append, List.cons_append]); dsimp only [DepsV, fat, eqF]; rintro _ rfl _ rfl; go_wp2; exact OpPost.some _ rfl rfl (Ext.refl _) rfl
            with_reducible apply From.eq
            · intro w' hx; have b0x := hx.cell b0; have b2x := hx.cell b2; have cax := hx.cell ca; (try dsimp only [List.nil_append, List.cons_append]); dsimp only [DepsV, fat, eqF]; rintro _ rfl; go_wp2; exact OpPost.some _ rfl rfl (Ext.refl _) rfl
            with_reducible apply From.eq
            · intro w' hx; have b0x := hx.cell b0; have b2x := hx.cell b2; have cax := hx.cell ca; (try dsimp only [List.nil_append, List.cons_append]); dsimp only [DepsV, fat, eqF]; rintro _ rfl; go_wp2; exact OpPost.some _ rfl rfl (Ext.refl _) rfl
            with_reducible apply From.eq
            · intro w' hx; have b0x := hx.cell b0; have b2x := hx.cell b2; have cax := hx.cell ca; (try dsimp only [List.nil_append, List.cons_append]); dsimp only [DepsV, fat, eqF]; rintro _ rfl; go_wp2; exact OpPost.some _ rfl rfl (Ext.refl _) rfl
            with_reducible apply From.eq
            · intro w' hx; have b0x := hx.cell b0; have b2x := hx.cell b2; have cax := hx.cell ca; (try dsimp only [List.nil_append, List.cons_append]); dsimp only [DepsV, fat, eqF]; rintro _ rfl _ rfl _ rfl; go_wp2; exact OpPost.some _ rfl rfl (Ext.refl _) rfl
            with_reducible apply From.eq
            · intro w' hx; have b0x := hx.cell b0; have b2x := hx.cell b2; have cax := hx.cell ca; (try dsimp only [List.nil_append, List.cons_append]); dsimp only [DepsV, fat, eqF]; rintro _ rfl _ rfl; go_wp2; exact OpPost.some _ rfl rfl (Ext.refl _) rfl
            with_reducible apply From.eq
            · intro w' hx; have b0x := hx.cell b0; have b2x := hx.cell b2; have cax := hx.cell ca; (try dsimp only [List.nil_append, List.cons_append]); dsimp only [DepsV, fat, eqF]; rintro _ rfl; go_wp2; exact OpPost.some _ rfl rfl (Ext.refl _) rfl
            with_reducible apply From.eq
            · intro w' hx; have b0x := hx.cell b0; have b2x := hx.cell b2; have cax := hx.cell ca; (try dsimp only [List.nil_append, List.cons_append]); dsimp only [DepsV, fat, eqF]; rintro _ rfl _ rfl; go_wp2; exact OpPost.some _ rfl rfl (Ext.refl _) rfl
            with_reducible apply From.eq
            · intro w' hx; have b0x := hx.cell b0; have b2x := hx.cell b2; have cax := hx.cell ca; (try dsimp only [List.nil_append, List.cons_append]); dsimp only [DepsV, fat, eqF]; rintro _ rfl _ rfl; go_wp2; exact OpPost.some _ rfl rfl (Ext.refl _) rfl
            with_reducible apply From.eq
            · intro w' hx; have b0x := hx.cell b0; have b2x := hx.cell b2; have cax := hx.cell ca; (try dsimp only [List.nil_append, List.cons_append]); dsimp only [DepsV, fat, eqF]; rintro _ rfl _ rfl _ rfl; go_wp2; exact OpPost.some _ rfl rfl (Ext.refl _) rfl
            with_reducible apply From.eq
            · intro w' hx; have b0x := hx.cell b0; have b2x := hx.cell b2; have cax := hx.cell ca; (try dsimp only [List.nil_append, List.cons_append]); dsimp only [DepsV, fat, eqF]; rintro _ rfl _ rfl; go_wp2; exact OpPost.some _ rfl rfl (Ext.refl _) rfl
            with_reducible refine From.fin ?_
            intro w' hx
            (try dsimp only [List.nil_append, List.cons_append]); dsimp only [EndV, eqF]; rintro _ rfl _ rfl _ rfl _ rfl _ rfl _ rfl _ rfl _ rfl _ rfl _ rfl _ rfl _ rfl _ rfl _ rfl; simp only [Act.put, List.setIfInBounds_toArray, List.set_cons_zero, List.set_cons_succ]
            replace ca := hx.cell ca
            replace b2 := hx.cell b2
            have fz2 : w'.frozen? ⟨w2.heap.size, j, none⟩ = false := (HARR2.out.ext hx).frozen j
            have S1 := (HARR2.out.ext hx).set j (x + 1) (by rw [tab_len]; exact hjK)
            rw [S2.out] at S1
            have S1 := Lib.hid S1
            have XS := Lib.hid ((HX2.out.trans hx).setNew (p := ⟨w2.heap.size, j, none⟩) (Nat.le_refl _) (.int .u64 ((x + 1 : Nat) : Int)))
            have CST : Hid (((x + 1 : Nat) : Int) = (x : Int) + 1) := Lib.hid (by omega)
            rw [CST.out] at S1 XS
            clear hx fz b0
            go_wp2_with fail
            go_roundw
            case rel => exact ⟨t + 1, LT.out, ES.out, S1.out, XS.out⟩
            case measure =>
              have := S1.out.num hp0 LT.out
              have := NUM.out
              have := LT.out
              simp only [*]; omega
        · obtain rfl : j = K' := by omega
          have tK : ((j : Int) == (j : Int)) = true := by simp
          clear harr2 hext2 hjK hj
          go_wp2_with fail
          refine region_facts [[], [], [(1, 29)], [(0, 28), (2, 30)], [(3, 31)], [(4, 32)], [(4, 32)], [(5, 33), (6, 34), (4, 32)], [(7, 35), (4, 32)], [(4, 32)], [(9, 37), (4, 32)], [(10, 38), (4, 32)], [(8, 36), (11, 39), (4, 32)], [(4, 32), (12, 40)]] [some 28, some 29, some 30, some 31, some 32, some 33, some 34, some 35, some 36, some 37, some 38, some 39, some 40, some 41] (by kernel_rfl) (by kernel_rfl) ?_
          with_reducible apply From.eq
          · intro w' hx; have b0x := hx.cell b0; have b2x := hx.cell b2; (try dsimp only [List.nil_append, List.cons_append]); dsimp only [DepsV, fat, eqF]; go_wp2; exact OpPost.some _ rfl rfl (Ext.refl _) rfl
          with_reducible apply From.eq
          · intro w' hx; have b0x := hx.cell b0; have b2x := hx.cell b2; (try dsimp only [List.nil_append, List.cons_append]); dsimp only [DepsV, fat, eqF]; go_wp2; exact OpPost.some _ rfl rfl (Ext.refl _) rfl
          with_reducible apply From.eq
          · intro w' hx; have b0x := hx.cell b0; have b2x := hx.cell b2; (try dsimp only [List.nil_append, List.cons_append]); dsimp only [DepsV, fat, eqF]; rintro _ rfl; go_wp2; exact OpPost.some _ rfl rfl (Ext.refl _) rfl
          with_reducible apply From.eq
          · intro w' hx; have b0x := hx.cell b0; have b2x := hx.cell b2; (try dsimp only [List.nil_append, List.cons_append]); dsimp only [DepsV, fat, eqF]; rintro _ rfl _ rfl; go_wp2; exact OpPost.some _ rfl rfl (Ext.refl _) rfl
          with_reducible apply From.eq
          · intro w' hx; have b0x := hx.cell b0; have b2x := hx.cell b2; (try dsimp only [List.nil_append, List.cons_append]); dsimp only [DepsV, fat, eqF]; rintro _ rfl; go_wp2; exact OpPost.some _ rfl rfl (Ext.refl _) rfl
          with_reducible apply From.eq
          · intro w' hx; have b0x := hx.cell b0; have b2x := hx.cell b2; (try dsimp only [List.nil_append, List.cons_append]); dsimp only [DepsV, fat, eqF]; rintro _ rfl; go_wp2; exact OpPost.some _ rfl rfl (Ext.refl _) rfl
          with_reducible apply From.eq
          · intro w' hx; have b0x := hx.cell b0; have b2x := hx.cell b2; (try dsimp only [List.nil_append, List.cons_append]); dsimp only [DepsV, fat, eqF]; rintro _ rfl; go_wp2; exact OpPost.some _ rfl rfl (Ext.refl _) rfl
          with_reducible apply From.eq
          · intro w' hx; have b0x := hx.cell b0; have b2x := hx.cell b2; (try dsimp only [List.nil_append, List.cons_append]); dsimp only [DepsV, fat, eqF]; rintro _ rfl _ rfl _ rfl; go_wp2; exact OpPost.some _ rfl rfl (Ext.refl _) rfl
          with_reducible apply From.eq
          · intro w' hx; have b0x := hx.cell b0; have b2x := hx.cell b2; (try dsimp only [List.nil_append, List.cons_append]); dsimp only [DepsV, fat, eqF]; rintro _ rfl _ rfl; go_wp2; exact OpPost.some _ rfl rfl (Ext.refl _) rfl
          with_reducible apply From.eq
          · intro w' hx; have b0x := hx.cell b0; have b2x := hx.cell b2; (try dsimp only [List.nil_append, List.cons_append]); dsimp only [DepsV, fat, eqF]; rintro _ rfl; go_wp2; exact OpPost.some _ rfl rfl (Ext.refl _) rfl
          with_reducible apply From.eq
          · intro w' hx; have b0x := hx.cell b0; have b2x := hx.cell b2; (try dsimp only [List.nil_append, List.cons_append]); dsimp only [DepsV, fat, eqF]; rintro _ rfl _ rfl; go_wp2; exact OpPost.some _ rfl rfl (Ext.refl _) rfl
          with_reducible apply From.eq
          · intro w' hx; have b0x := hx.cell b0; have b2x := hx.cell b2; (try dsimp only [List.nil_append, List.cons_append]); dsimp only [DepsV, fat, eqF]; rintro _ rfl _ rfl; go_wp2; exact OpPost.some _ rfl rfl (Ext.refl _) rfl
          with_reducible apply From.eq
          · intro w' hx; have b0x := hx.cell b0; have b2x := hx.cell b2; (try dsimp only [List.nil_append, List.cons_append]); dsimp only [DepsV, fat, eqF]; rintro _ rfl _ rfl _ rfl; go_wp2; exact OpPost.some _ rfl rfl (Ext.refl _) rfl
          with_reducible apply From.eq
          · intro w' hx; have b0x := hx.cell b0; have b2x := hx.cell b2; (try dsimp only [List.nil_append, List.cons_append]); dsimp only [DepsV, fat, eqF]; rintro _ rfl _ rfl; go_wp2; exact OpPost.some _ rfl rfl (Ext.refl _) rfl
          with_reducible refine From.fin ?_
          intro w' hx
          (try dsimp only [List.nil_append, List.cons_append]); dsimp only [EndV, eqF]; rintro _ rfl _ rfl _ rfl _ rfl _ rfl _ rfl _ rfl _ rfl _ rfl _ rfl _ rfl _ rfl _ rfl _ rfl; simp only [Act.put, List.setIfInBounds_toArray, List.set_cons_zero, List.set_cons_succ]
          replace b2 := hx.cell b2
          have XF := Lib.hid (X.out.trans (HX2.out.trans hx))
          have E0 := E.out HLOW.out
          clear hx b0
          go_wp2_with fail
          go_ret2
          exact ⟨_, by rw [E0]; rfl, by rw [E0]; exact Own.nil _ _, XF.out⟩
end Go.Proofs.Ytgnngifnoaagjaa
