/- Contracts: Prime, awake05, powers05. -/
import Derived.Test.YtcnbinjoeilfgaaTp1
import Derived.Test.YtcnbinjoeilfgaaTA
import Derived.Test.YtcnbinjoeilfgaaPoly6
namespace Go.Proofs.Ytcnbinjoeilfgaa
open Go.RowKit
/-- One of the primes, by any number. -/
def prm (n : Nat) : Nat := [17, 97, 193, 257, 12289, 65537, 18446744069414584321].getD (n % 7) 0
theorem prm_vld (n : Nat) : vld (prm n) = true := by
  have h : n % 7 < 7 := Nat.mod_lt _ (by omega)
  unfold prm
  obtain ⟨k, hk⟩ : ∃ k, k = n % 7 := ⟨_, rfl⟩
  rw [← hk] at h ⊢
  have : k = 0 ∨ k = 1 ∨ k = 2 ∨ k = 3 ∨ k = 4 ∨ k = 5 ∨ k = 6 := by omega
  rcases this with rfl | rfl | rfl | rfl | rfl | rfl | rfl <;> decide
theorem Known_c (w : World) : Calls Try.prog 49 #[] w fun e w' => e = .returned (.slice (some ⟨w.heap.size, 0, none⟩) 7 7) ∧ (∀ i, i < 7 → w'.cell? ⟨w.heap.size, i, none⟩ = some (.int .u64 (([17, 97, 193, 257, 12289, 65537, 18446744069414584321].getD i 0 : Nat) : Int))) ∧ Ext w w' := by
  go_enter Try.func49, Try.ntmps49
  go_wp2
  go_ret
  refine ⟨rfl, fun i hi => ?_, (Ext.refl _).alloc _⟩
  rw [cnew _ _ _ _ _ rfl]
  have : i = 0 ∨ i = 1 ∨ i = 2 ∨ i = 3 ∨ i = 4 ∨ i = 5 ∨ i = 6 := by omega
  rcases this with rfl | rfl | rfl | rfl | rfl | rfl | rfl <;> rfl
set_option maxHeartbeats 1000000 in
theorem Prime_c (n : Nat) (hn : n < 256) (w : World) : Calls Try.prog 22 #[.int .u8 n] w fun e w' => e = .returned (.int .u64 (prm n : Int)) ∧ Ext w w' := by
  obtain ⟨k, hk⟩ : ∃ k, k = n % 7 := ⟨_, rfl⟩
  have hk7 : k < 7 := by omega
  have hm : (n : Int).tmod 7 = (k : Int) := by rw [Int.tmod_eq_emod_of_nonneg (by omega)]; omega
  have hm2 : (n : Int) % 7 = (k : Int) := by omega
  have HP : Hid (prm n = [17, 97, 193, 257, 12289, 65537, 18446744069414584321].getD k 0) := Lib.hid (by unfold prm; rw [hk])
  clear hk
  go_enter Try.func22, Try.ntmps22
  go_wp2_with fail
  refine (Known_c _).mono ?_; rintro e w1 ⟨rfl, hc, x1⟩
  have hck := hc k hk7
  obtain ⟨q, hq⟩ : ∃ q, q = [17, 97, 193, 257, 12289, 65537, 18446744069414584321].getD k 0 := ⟨_, rfl⟩
  rw [← hq] at hck
  have HQ := Lib.hid hq
  clear hc hq
  go_wp2_with fail
  go_ret
  exact ⟨by rw [HP.out, ← HQ.out]; rfl, x1⟩
theorem same1n (l : List Nat) (n : Nat) (a b : Option Addr) (c d : Nat) (w : World) (hn : l.length = n) (ha : Rd w a l) (hb : Rd w b l) (hl : n ≤ 2000000000) :
    Calls Try.prog 26 #[.slice a n c, .slice b n d] w fun e w' => e = .returned (.bool true) ∧ Ext w w' := by
  subst hn; exact Same_c l a b c d w ha hb hl
theorem aw5Ec (W : World) (a : Option Addr) (h : Rd W a [1, 2]) : Calls Try.prog 50 #[.agg #[.int .u64 17], .slice a 2 2, .int .u64 13] W fun e w' => e = .returned (.int .u64 10) ∧ Ext W w' := by
  have := EvalP_c 17 [1, 2] a 2 13 W h (by decide)
  rw [show horner 17 13 [1, 2] = 10 from by decide +kernel] at this
  exact this
theorem aw5Dc (W : World) (a : Option Addr) (h : RdR W a [[2, 4], [1, 3]]) : Calls Try.prog 51 #[.agg #[.int .u64 17], .slice a 2 2] W fun e w' => e = .returned (.int .u64 2) ∧ Ext W w' := by
  have := Det_c 17 [[2, 4], [1, 3]] (by decide) ⟨by decide, by decide, by decide, fun i hi => by
    have : i = 0 ∨ i = 1 := by simp at hi; omega
    rcases this with rfl | rfl <;> rfl⟩ (by decide +kernel) a 2 W h
  rw [show (elimE 17 (redM 17 [[2, 4], [1, 3]]) [[2, 4], [1, 3]].length).2.2 = 2 from by decide +kernel] at this
  exact this
theorem aw5Nc (W : World) : Calls Try.prog 52 #[.agg #[.int .u64 17], .agg #[.int .u64 1, .int .u64 1]] W fun e w' => e = .returned (.int .u64 15) ∧ Ext W w' := by
  have := Norm_c 17 1 1 W
  rw [show fsub 17 (fmul 17 1 1) (fmul 17 (gent 17) (fmul 17 1 1)) = 15 from by decide +kernel] at this
  exact this
set_option maxRecDepth 100000 in
set_option maxHeartbeats 2000000 in
theorem awake05_c (w : World) : Calls Try.prog 23 #[] w fun e w' => e = .returned (.bool true) ∧ Ext w w' := by
  go_enter Try.func23, Try.ntmps23
  go_wp2_with fail
  refine (aw4Fc _ _ ?_).mono ?_
  · exact Rd.four (by simp [cnew]) (by simp [cnew]) (by simp [cnew]) (by simp [cnew])
  rintro e w1 ⟨v, rfl, o1, x1⟩
  obtain ⟨a1, c1, rfl, k1, r1⟩ := o1.formN 4 rfl
  have hc : w1.cell? ⟨w.heap.size, 0, none⟩ = some (.int .u64 17) := x1.cell (by simp)
  have X : Ext w w1 := by
    refine Ext.trans ?_ x1
    first
      | exact ((Ext.refl _).alloc _).alloc _
      | exact (((Ext.refl _).alloc _).setNew (Nat.le_refl _) _).alloc _
  clear o1 x1
  go_wp2_with fail
  refine (same1n [3, 10, 16, 9] 4 _ _ _ _ _ rfl (r1.ext ((Ext.refl _).alloc _)) ?_ (by decide)).mono ?_
  · exact Rd.four (by simp [cnew]) (by simp [cnew]) (by simp [cnew]) (by simp [cnew])
  rintro e w2 ⟨rfl, x2⟩
  replace hc := x2.box.cell hc
  replace X := X.trans x2.box
  clear x2 r1
  go_wp2_with fail
  refine (aw5Ec _ _ ?_).mono ?_
  · exact Rd.two (by simp [cnew]) (by simp [cnew])
  rintro e w3 ⟨rfl, x3⟩
  replace hc := x3.box.cell hc
  replace X := X.trans x3.box
  clear x3
  go_wp2_with fail
  refine (aw5Dc _ _ ?_).mono ?_
  · refine Rows2.rdR (Rows2.two (A := some ⟨w3.heap.size, 0, none⟩) (B := some ⟨w3.heap.size + 1, 0, none⟩) (c := 2) (d := 2) (Rd.two ?_ ?_) (Rd.two ?_ ?_)) (RdV.two ?_ ?_)
    · exact (((Ext.refl _).alloc _).alloc _).cell (by rw [cnew _ _ _ _ _ rfl]; rfl)
    · exact (((Ext.refl _).alloc _).alloc _).cell (by rw [cnew _ _ _ _ _ rfl]; rfl)
    · exact ((Ext.refl _).alloc _).cell (by rw [cnew _ _ _ _ _ (by simp)]; rfl)
    · exact ((Ext.refl _).alloc _).cell (by rw [cnew _ _ _ _ _ (by simp)]; rfl)
    · rw [cnew _ _ _ _ _ (by simp)]; rfl
    · rw [cnew _ _ _ _ _ (by simp)]; rfl
  rintro e w4 ⟨rfl, x4⟩
  replace hc := x4.box.box.box.cell hc
  replace X := X.trans x4.box.box.box
  clear x4
  go_wp2_with fail
  refine (aw5Nc _).mono ?_
  rintro e w5 ⟨rfl, x5⟩
  replace X := X.trans x5
  clear x5 hc
  go_wp2_with fail
  go_ret
  exact ⟨rfl, X⟩
def PwsRel (p : Nat) (l : List Nat) (w1 : World) (v i : Value) (wr : World) : Prop :=
  ∃ (j : Nat) (L : List SlC), i = .int .i64 j ∧ j ≤ l.length ∧ OwnV wr w1.heap.size v L ∧ Rows2 wr L ((powM p l).take j) ∧ (∀ i, i < L.length → Off v wr.heap.size (L.getD i (none, 0, 0)).1) ∧ Ext w1 wr
def RsPost (w : World) (rows : List (List Nat)) (e : Ending) (w' : World) : Prop := ∃ a c, e = .returned (.slice a rows.length c) ∧ RdR w' a rows ∧ Ext w w'
set_option maxRecDepth 100000 in
set_option maxHeartbeats 4000000 in
theorem powers05_c (p n : Nat) (l : List Nat) (a : Option Addr) (c : Nat) (w : World) (hv : vld p = true) (hln : l.length = n) (hn0 : 0 < n) (hn : n ≤ 64) (ha : Rd w a l) :
    Calls Try.prog 38 #[.agg #[.int .u64 p], .slice a n c] w (RsPost w (powM p l)) := by
  have HA := Lib.hid ha
  have HLN := Lib.hid hln
  have PC := Lib.hid (fun x w' => Powers_c p x n w' hv hn)
  have h0 : (w.alloc (.cells #[.int .u64 p] 29)).cell? ⟨w.heap.size, 0, none⟩ = some (.int .u64 p) := by simp
  clear ha hv hln
  go_enter Try.func38, Try.ntmps38
  go_wp2_with fail
  obtain ⟨w3, hw3⟩ : ∃ q, q = w.alloc (.cells #[.int .u64 p] 29) := ⟨_, rfl⟩
  rw [← hw3] at h0
  rw [← hw3]
  have X : Ext w w3 := by rw [hw3]; exact (Ext.refl _).alloc _
  clear hw3
  go_loopw [5, 10] (PwsRel p l w3) (fun _ i _ => n - (intOf i).toNat)
  case atStart => exact ⟨0, [], rfl, Nat.zero_le _, OwnV.nil _ _, by simpa using Rows2.nil _, fun i hi => absurd hi (by simp), Ext.refl _⟩
  case round =>
    obtain ⟨j, L, rfl, hj, ho, hr2, hoff, hext⟩ := hrel
    rw [HLN.out] at hj
    replace h0 := hext.cell h0
    replace X := X.trans hext
    have HO := Lib.hid ho
    have HR2 := Lib.hid hr2
    have HOFF := Lib.hid hoff
    have HXX := Lib.hid hext
    clear hext ho hr2 hoff
    by_cases hlt : j < n
    · obtain ⟨g, off, rfl, hcell⟩ := HA.out.at (by rw [HLN.out]; omega)
      have cx := X.cell (hcell j (by rw [HLN.out]; exact hlt))
      have E1 : Hid ((powM p l).take (j + 1) = (powM p l).take j ++ [(List.range n).map (gsK p (l.getD j 0))]) := Lib.hid (by
        have hjl : j < (powM p l).length := by rw [powM_len, HLN.out]; exact hlt
        have := powM_get (p := p) (pts := l) (i := j) (by rw [HLN.out]; exact hlt)
        rw [List.getD_eq_getElem?_getD, List.getElem?_eq_getElem hjl, Option.getD_some] at this
        rw [List.take_add_one, List.getElem?_eq_getElem hjl, this, HLN.out]; rfl)
      obtain ⟨x, hx0⟩ : ∃ q, q = l.getD j 0 := ⟨_, rfl⟩
      rw [← hx0] at cx E1
      obtain ⟨a8, c8, h8, _, _⟩ := HO.out.form
      obtain ⟨len8, hlen8⟩ : ∃ q, q = L.length := ⟨_, rfl⟩
      rw [← hlen8] at h8
      have HL8 := Lib.hid hlen8
      have hl8 : len8 ≤ 64 := by rw [hlen8, HR2.out.1]; simp; omega
      subst h8
      have RLN : Hid (((List.range n).map (gsK p x)).length = n) := Lib.hid (by simp)
      clear hcell hx0 hlen8
      go_wp2_with fail
      refine (PC.out _ _).mono ?_; rintro e w5 ⟨v5, rfl, o5, x5⟩
      obtain ⟨a5, c5, h5, _, _, r5⟩ := o5.form
      rw [RLN.out] at h5
      subst h5
      have HO5 := Lib.hid (fun o => HO.out.grow (x5.trans ((Ext.refl _).alloc o)))
      have O5 := Lib.hid o5
      have R5 := Lib.hid r5
      have X5 := Lib.hid x5
      have HS5 : Hid (w3.heap.size ≤ w5.heap.size) := Lib.hid (by have := HXX.out.size; have := x5.size; omega)
      clear o5 r5 x5 cx
      go_wp2_with (at_builtin; refine wpList_appV1 rfl (.tmp 14) (.tmp 20) rfl w3.heap.size _ _ rfl (HO5.out _) w5.heap.size a5 n c5 1 rfl (by simp) (by rw [← HL8.out]; omega) (by have := HS5.out; simp; omega) ?_; intro v6 w6 o6 x6 k6 s6 b6)
      have X6 := Lib.hid (x6 _ ((HXX.out.trans X5.out).trans ((Ext.refl _).alloc _)) (Nat.le_refl _))
      have ST := Rows2.step (c5 := c5) HR2.out HOFF.out (X5.out.trans ((Ext.refl _).alloc _)) (R5.out.ext ((Ext.refl _).alloc _)) (fun q hq => by
        have := O5.out.place q (by rw [hq])
        refine ⟨by simp; omega, fun h => ?_⟩
        have := (World.ownsRow.lt HO.out q.block h).2
        omega) k6 s6 b6
      rw [RLN.out] at ST
      have ST := Lib.hid ST
      have O6 := Lib.hid o6
      clear x6 k6 s6 b6 o6
      go_roundw
      case rel => exact ⟨j + 1, _, by go_num, by rw [HLN.out]; omega, O6.out, by rw [E1.out]; exact ST.out.1, ST.out.2, X6.out⟩
      case measure => simp [intOf]; omega
    · obtain rfl : j = n := by omega
      have ej : (powM p l).take j = powM p l := List.take_of_length_le (by rw [powM_len, HLN.out]; exact Nat.le_refl _)
      rw [ej] at HR2
      obtain ⟨a7, c7, hv7, _, r7⟩ := HO.out.form
      rw [HR2.out.1] at hv7
      subst hv7
      have RM := Lib.hid (HR2.out.rdR r7)
      clear ej r7 HO HOFF HR2
      go_wp2_with fail
      go_ret
      exact ⟨_, _, rfl, RM.out, X⟩
end Go.Proofs.Ytcnbinjoeilfgaa
