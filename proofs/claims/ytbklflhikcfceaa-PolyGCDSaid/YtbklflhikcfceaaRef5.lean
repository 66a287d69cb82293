/- Contracts of moidoreref03, third part: DivMod, Monic, GCD. -/
import Derived.Test.YtbklflhikcfceaaRef4
namespace Go.Proofs.Ytbklflhikcfceaa
open Go.RowKit

theorem trimPP (p : Nat) (l : List Nat) : trimP p (trimP p l) = trimP p l := by
  cases hv : vld p
  · rw [Q.inv_zero hv, Q.inv_zero hv]
  · exact (Q.Nf.trim hv l).id hv
def DM2 (w : World) (q r : List Nat) (e : Ending) (w' : World) : Prop :=
  ∃ v u, e = .returned (.tuple #[v, u]) ∧ Own w' w.heap.size v q ∧ Own w' w.heap.size u r ∧ Ext w w'
def DvRel (p : Nat) (A B : List Nat) (w w3 : World) (u v : Value) (wr : World) : Prop :=
  ∃ q r : List Nat, Q.DvI p A B q r ∧ Own wr w.heap.size v q ∧ Own wr w.heap.size u r ∧ Ext w3 wr
def lenOf : Value → Nat
  | .slice _ n _ => n
  | _ => 0

set_option maxRecDepth 100000 in
set_option maxHeartbeats 4000000 in
theorem RDivMod_c (p : Nat) (l m : List Nat) (a b : Option Addr) (c d : Nat) (w : World) (hv : vld p = true) (ha : Rd w a l) (hb : Rd w b m) (hl : l.length ≤ 10000) (hm : m.length ≤ 10000) (h0 : 0 < (trimP p m).length) :
    Calls Try.prog 17 #[.int .u64 p, .slice a l.length c, .slice b m.length d] w (DM2 w (pquo p l m) (prem p l m)) := by
  have S := Lib.hid (fun q r => Q.DvI.same (q := q) (r := r) hv (a := l) h0)
  have hB := Q.Nf.trim hv m
  have hA := Q.Nf.trim hv l
  have hAl := trimP_le p l
  have hBl := trimP_le p m
  have T1 := RTrim_c p l a c w ha (by omega)
  have T2 := fun W (h : Ext w W) => RTrim_c p m b d W (hb.ext h) (by omega)
  obtain ⟨A, hA0⟩ : ∃ A, A = trimP p l := ⟨_, rfl⟩
  obtain ⟨B, hB0⟩ : ∃ B, B = trimP p m := ⟨_, rfl⟩
  rw [← hA0] at S hA hAl T1
  rw [← hB0] at S hB hBl T2 h0
  have HT1 := Lib.hid T1
  have HT2 := Lib.hid T2
  have HS := Lib.hid (fun q r h k => Q.DvI.step (q := q) (r := r) (A := A) hv hB h0 h k _ rfl)
  have HI := Lib.hid (Q.DvI.start hv B hA)
  clear hA hB hA0 hB0 T1 T2 ha hb hv
  go_enter Try.func17, Try.ntmps17
  go_wp2_with fail
  refine HT1.out.mono ?_; rintro e w1 ⟨v, rfl, o1, x1⟩
  obtain ⟨a1, c1, rfl, _, _, r1⟩ := o1.form
  have HO1 := Lib.hid o1
  have HR1 := Lib.hid r1
  clear o1 r1
  go_wp2_with fail
  refine (HT2.out _ x1).mono ?_; rintro e w2 ⟨v, rfl, o2, x2⟩
  obtain ⟨a2, c2, rfl, _, _, r2⟩ := o2.form
  obtain ⟨g, off, rfl, hcell⟩ := r2.at h0
  obtain ⟨nb, hnb⟩ : ∃ nb, B.length = nb + 1 := ⟨B.length - 1, by omega⟩
  have cB := hcell nb (by omega)
  have z1 : ((nb + 1 : Nat) : Int) - 1 = (nb : Int) := by omega
  obtain ⟨lead, hlead⟩ : ∃ x, x = B.getD nb 0 := ⟨_, rfl⟩
  rw [← hlead] at cB
  have HL := Lib.hid hlead
  have HR2 := Lib.hid r2
  have HNB := Lib.hid hnb
  rw [hnb]
  have hnl : nb + 1 ≤ 10000 := by omega
  clear o2 r2 hcell hlead hnb hBl h0
  go_wp2_with fail
  refine (RInv_c _ _ _).mono ?_; rintro e w3 ⟨rfl, x3⟩
  clear z1 cB
  go_wp2_with fail
  have x03 : Ext w w3 := (x1.trans x2).trans x3
  have SH : Hid (∀ W a' z k, Rd W a' [z] → k ≤ 1000000 → Calls Try.prog 50 #[.slice a' 1 1, .int .i64 (k : Nat)] W (SlPost W (shift [z] k))) := Lib.hid fun W a' z k h hk => RShift_c [z] a' 1 k W h (by show 1 ≤ 1000000; omega) hk
  have M1 : Hid (∀ W aT cT T, Rd W aT T → T.length ≤ 100000 → Ext w2 W → Calls Try.prog 20 #[.int .u64 p, .slice aT T.length cT, .slice (some ⟨g, off, none⟩) (nb + 1 : Nat) c2] W (SlPost W (rmul p T B))) := Lib.hid fun W aT cT T h hT hW => by
    rw [← HNB.out]; exact RMulP_c p T B aT _ cT c2 W h (HR2.out.ext hW) hT (by rw [HNB.out]; omega)
  go_loopw [1, 8] (DvRel p A B w w3) (fun u _ _ => lenOf u)
  case atStart => exact ⟨[], A, HI.out, Own.nil _ _, HO1.out.grow (x2.trans x3), Ext.refl _⟩
  case round =>
    clear HO1 HR1 HI HT1 HT2
    obtain ⟨q, r, hdv, ho1, ho2, hext⟩ := hrel
    obtain ⟨aq, cq, rfl, _, _, hrq⟩ := ho1.form
    obtain ⟨ar, cr, rfl, hrc, _, hrr⟩ := ho2.form
    have hql : q.length ≤ A.length := hdv.2.2.1
    have hrl : r.length ≤ A.length := hdv.2.2.2.1
    have HDV := Lib.hid hdv
    have HQ := Lib.hid ho1
    have HR := Lib.hid ho2
    have HRQ := Lib.hid hrq
    clear hdv ho1 ho2 hrq
    by_cases hlt : nb + 1 ≤ r.length
    · obtain ⟨k, hk⟩ : ∃ k, r.length = nb + 1 + k := ⟨r.length - (nb + 1), by omega⟩
      obtain ⟨gr, offr, rfl, hcell⟩ := hrr.at (by omega)
      have cR := hcell (nb + k) (by omega)
      have HK := Lib.hid hk
      have HRR := Lib.hid hrr
      have ST := HS.out q r HDV.out (by rw [HNB.out]; exact hlt)
      rw [HNB.out, hk] at ST
      have n1 : nb + 1 + k - 1 = nb + k := by omega
      have n2 : nb + 1 + k - (nb + 1) = k := by omega
      rw [n1, n2, Nat.add_sub_cancel, ← HL.out] at ST
      obtain ⟨x, hx0⟩ : ∃ x, x = r.getD (nb + k) 0 := ⟨_, rfl⟩
      rw [← hx0] at cR ST
      have HST := Lib.hid ST
      have SB : Hid (∀ W aT cT T, Rd W aT T → T.length ≤ 100000 → Ext wr W → Calls Try.prog 40 #[.int .u64 p, .slice (some ⟨gr, offr, none⟩) (nb + 1 + k : Nat) cr, .slice aT T.length cT] W (SlPost W (rsub p r T))) := Lib.hid fun W aT cT T h hT hW => by
        rw [← HK.out]; exact RSubP_c p r T _ aT cr cT W (HRR.out.ext hW) h (by omega) (by omega)
      have kb : nb + 1 + k ≤ 10000 := by omega
      rw [hk]
      have z2 : Hid ((nb : Int) + 1 + (k : Int) - ((nb : Int) + 1) = (k : Int)) := Lib.hid (by omega)
      have z3 : ((nb + 1 + k : Nat) : Int) - 1 = ((nb + k : Nat) : Int) := by omega
      have t1 : decide (nb + 1 ≤ nb + 1 + k) = true := by simp
      clear hcell hx0 ST hrr hlt n1 n2 hk hrc hrl
      go_wp2_with fail
      rw [z2.out]
      refine (RMul_c _ _ _ _).mono ?_; rintro e w4 ⟨rfl, x4⟩
      go_wp2_with fail
      refine (SH.out _ _ (fmul p x (finv p lead)) k ?_ (by omega)).mono ?_
      · exact Rd.one (by simp [cnew])
      rintro e w5 ⟨v, rfl, o5, x5⟩
      obtain ⟨T, hT0⟩ : ∃ T, T = shift [fmul p x (finv p lead)] k := ⟨_, rfl⟩
      have hTl : T.length = k + 1 := by rw [hT0]; simp [shift]
      rw [← hT0] at o5 HST
      obtain ⟨aT, cT, rfl, _, _, rT⟩ := o5.form
      have HRT := Lib.hid rT
      have X5 : Ext wr w5 := x4.trans x5.box
      have HTL := Lib.hid hTl
      clear o5 hT0 rT hTl
      go_wp2_with fail
      refine (RAddP_c p q T _ _ _ _ _ (HRQ.out.ext X5) HRT.out (by omega) (by rw [HTL.out]; omega)).mono ?_; rintro e w6 ⟨v, rfl, o6, x6⟩
      have HO6 := Lib.hid o6
      clear o6
      go_wp2_with fail
      refine (M1.out _ _ _ T (HRT.out.ext x6) (by rw [HTL.out]; omega) (((x3.trans hext).trans X5).trans x6)).mono ?_; rintro e w7 ⟨v, rfl, o7, x7⟩
      obtain ⟨aM, cM, rfl, _, _, rM⟩ := o7.form
      have hMl := rmul_le p T B
      have HRM := Lib.hid rM
      obtain ⟨M, hM0⟩ : ∃ M, M = rmul p T B := ⟨_, rfl⟩
      rw [← hM0] at HRM hMl HST
      rw [← hM0]
      have HML : Hid (M.length ≤ 100000) := Lib.hid (by have := HNB.out; have := HTL.out; omega)
      clear o7 rM hM0 hMl
      go_wp2_with fail
      refine (SB.out _ _ _ M HRM.out HML.out ((X5.trans x6).trans x7)).mono ?_; rintro e w8 ⟨v8, rfl, o8, x8⟩
      have HO8 := Lib.hid o8
      clear o8
      go_wp2_with fail
      go_roundw
      case rel =>
        have X7 := (hext.trans X5).trans (x6.trans x7)
        have s0 := x03.size
        exact ⟨_, _, HST.out.1, (HO6.out.base (Nat.le_trans s0 (hext.trans X5).size)).grow (x7.trans x8), HO8.out.base (Nat.le_trans s0 X7.size), X7.trans x8⟩
      case measure =>
        obtain ⟨a8, c8, rfl, _, _, _⟩ := HO8.out.form
        have := HST.out.2
        simp only [lenOf]; omega
    · have t1 : decide (nb + 1 ≤ r.length) = false := by simp; omega
      have hz := S.out q r HDV.out (by rw [HNB.out]; omega)
      have HZ := Lib.hid hz
      clear hz hrr
      go_wp2_with fail
      go_ret2
      refine ⟨_, _, rfl, ?_, ?_, x03.trans hext⟩
      · rw [← HZ.out.1]; exact HQ.out
      · rw [← HZ.out.2]; exact HR.out

set_option maxRecDepth 100000 in
set_option maxHeartbeats 2000000 in
theorem RMonic_c (p : Nat) (l : List Nat) (a : Option Addr) (c : Nat) (w : World) (ha : Rd w a l) (hl : l.length ≤ 10000) (ht : trimP p l = l) :
    Calls Try.prog 63 #[.int .u64 p, .slice a l.length c] w (SlPost w (Q.monic p l)) := by
  have T1 := RTrim_c p l a c w ha (by omega)
  rw [ht] at T1
  have HT1 := Lib.hid T1
  clear T1 ht ha
  by_cases h0 : l.length = 0
  · have E : Hid (Q.monic p l = []) := Lib.hid (by unfold Q.monic; rw [if_pos h0])
    rw [h0] at HT1 ⊢
    go_enter Try.func63, Try.ntmps63
    go_wp2_with fail
    refine HT1.out.mono ?_; rintro e w1 ⟨v, rfl, o1, x1⟩
    obtain ⟨a1, c1, rfl, _, _, r1⟩ := o1.form
    rw [h0]
    go_wp2_with fail
    go_ret
    refine ⟨_, rfl, ?_, x1⟩
    rw [E.out]; exact Own.nil _ _
  · obtain ⟨n, hn⟩ : ∃ n, l.length = n + 1 := ⟨l.length - 1, by omega⟩
    have E : Hid (Q.monic p l = rscale p l (finv p (l.getD n 0))) := Lib.hid (by unfold Q.monic; rw [if_neg h0, hn, Nat.add_sub_cancel])
    have t1 : (((n : Int) + 1) == 0) = false := beq_eq_false_iff_ne.2 (by omega)
    have z1 : ((n + 1 : Nat) : Int) - 1 = (n : Int) := by omega
    have HN := Lib.hid hn
    rw [hn] at HT1 ⊢
    have hl2 : n + 1 ≤ 10000 := by omega
    clear h0 hn hl
    go_enter Try.func63, Try.ntmps63
    go_wp2_with fail
    refine HT1.out.mono ?_; rintro e w1 ⟨v, rfl, o1, x1⟩
    obtain ⟨a1, c1, rfl, _, r1⟩ := o1.formN (n + 1) HN.out
    obtain ⟨g, off, rfl, hcell⟩ := r1.at (by rw [HN.out]; omega)
    have cR := hcell n (by rw [HN.out]; omega)
    obtain ⟨x, hx0⟩ : ∃ x, x = l.getD n 0 := ⟨_, rfl⟩
    rw [← hx0] at cR E
    have SC : Hid (∀ W y, Ext w1 W → Calls Try.prog 42 #[.int .u64 p, .slice (some ⟨g, off, none⟩) (n + 1 : Nat) c1, .int .u64 (y : Nat)] W (SlPost W (rscale p l y))) := Lib.hid fun W y h => by
      rw [← HN.out]; exact RScale_c p l _ c1 y W (r1.ext h) (by rw [HN.out]; omega)
    clear o1 hcell hx0
    go_wp2_with fail
    refine (RInv_c _ _ _).mono ?_; rintro e w2 ⟨rfl, x2⟩
    go_wp2_with fail
    refine (SC.out _ _ x2).mono ?_; rintro e w3 ⟨v, rfl, o3, x3⟩
    go_wp2_with fail
    go_ret
    refine ⟨_, rfl, ?_, (x1.trans x2).trans x3⟩
    rw [E.out]; exact o3.base (x1.trans x2).size

def GRel (p : Nat) (G : List Nat) (w : World) (u v : Value) (wr : World) : Prop :=
  ∃ (k : Nat) (a b : List Nat), Q.eg p k a b = G ∧ b.length ≤ k ∧ a.length ≤ 10000 ∧ b.length ≤ 10000 ∧ (trimP p a = a ∧ trimP p b = b) ∧ Own wr w.heap.size u a ∧ Own wr w.heap.size v b ∧ Ext w wr
theorem trimP_vld {p : Nat} {b : List Nat} (h : trimP p b = b) (h0 : b.length ≠ 0) : vld p = true := by
  cases hv : vld p
  · rw [Q.inv_zero hv] at h; rw [← h] at h0; simp at h0
  · rfl
/-- One step of Euclid's algorithm. -/
theorem g_step {p k : Nat} {a b G : List Nat} (hE : Q.eg p k a b = G) (hk : b.length ≤ k) (ht : trimP p a = a ∧ trimP p b = b) (h0 : b.length ≠ 0) :
    vld p = true ∧ 0 < (trimP p b).length ∧ (Q.eg p (k - 1) b (prem p a b) = G) ∧ (prem p a b).length < b.length ∧ trimP p (prem p a b) = prem p a b := by
  have hv := trimP_vld ht.2 h0
  have hB : Q.Nf p b := by rw [← ht.2]; exact Q.Nf.trim hv b
  refine ⟨hv, by rw [ht.2]; omega, ?_, Q.prem_lt hv hB a h0, (Q.prem_nf hv hB a h0).id hv⟩
  obtain ⟨j, rfl⟩ : ∃ j, k = j + 1 := ⟨k - 1, by omega⟩
  rw [Q.eg, if_neg h0] at hE
  exact hE

set_option maxRecDepth 100000 in
set_option maxHeartbeats 2000000 in
theorem RGCD_c (p : Nat) (l m : List Nat) (a b : Option Addr) (c d : Nat) (w : World) (ha : Rd w a l) (hb : Rd w b m) (hl : l.length ≤ 10000) (hm : m.length ≤ 10000) :
    Calls Try.prog 38 #[.int .u64 p, .slice a l.length c, .slice b m.length d] w (SlPost w (Q.monic p (Q.pgcd p l m))) := by
  have HT1 := Lib.hid (RTrim_c p l a c w ha (by omega))
  have HT2 := Lib.hid (fun W (h : Ext w W) => RTrim_c p m b d W (hb.ext h) (by omega))
  have hAl := trimP_le p l
  have hBl := trimP_le p m
  have hE : Hid (Q.eg p (trimP p m).length (trimP p l) (trimP p m) = Q.pgcd p l m) := Lib.hid rfl
  have HTT : Hid (trimP p (trimP p l) = trimP p l ∧ trimP p (trimP p m) = trimP p m) := Lib.hid ⟨trimPP p l, trimPP p m⟩
  obtain ⟨A, hA0⟩ : ∃ A, A = trimP p l := ⟨_, rfl⟩
  obtain ⟨B, hB0⟩ : ∃ B, B = trimP p m := ⟨_, rfl⟩
  obtain ⟨G, hG0⟩ : ∃ G, G = Q.pgcd p l m := ⟨_, rfl⟩
  rw [← hA0] at HT1 hAl hE HTT
  rw [← hB0] at HT2 hBl hE HTT
  rw [← hG0] at hE
  rw [← hG0]
  clear hA0 hB0 hG0 ha hb
  go_enter Try.func38, Try.ntmps38
  go_wp2_with fail
  refine HT1.out.mono ?_; rintro e w1 ⟨v, rfl, o1, x1⟩
  have HO1 := Lib.hid o1
  clear o1
  go_wp2_with fail
  refine (HT2.out _ x1).mono ?_; rintro e w2 ⟨v, rfl, o2, x2⟩
  have HO2 := Lib.hid o2
  clear o2
  go_wp2_with fail
  go_loopw [1, 2] (GRel p G w) (fun _ v _ => lenOf v)
  case atStart => exact ⟨_, A, B, hE.out, Nat.le_refl _, by omega, by omega, HTT.out, HO1.out.grow x2, HO2.out.base x1.size, x1.trans x2⟩
  case round =>
    clear HO1 HO2 HT1 HT2 hE HTT
    obtain ⟨k, a, b, hE, hk, ha, hb, ht, o1, o2, hext⟩ := hrel
    obtain ⟨a1, c1, rfl, _, _, r1⟩ := o1.form
    obtain ⟨a2, c2, rfl, _, _, r2⟩ := o2.form
    by_cases h0 : b.length = 0
    · obtain rfl : b = [] := List.eq_nil_of_length_eq_zero h0
      rw [Q.eg_nil] at hE
      subst hE
      have MC := Lib.hid (RMonic_c p a a1 c1 wr r1 ha ht.1)
      clear o1 o2 r1 r2 ht
      go_wp2_with fail
      refine MC.out.mono ?_; rintro e w3 ⟨v, rfl, o3, x3⟩
      go_wp2_with fail
      go_ret
      exact ⟨_, rfl, o3.base hext.size, hext.trans x3⟩
    · obtain ⟨hv, hz, hE2, hlt, ht2⟩ := g_step hE hk ht h0
      have t1 : decide (0 < b.length) = true := by simp; omega
      have DM := Lib.hid (RDivMod_c p a b a1 a2 c1 c2 wr hv r1 r2 ha hb hz)
      have HH := Lib.hid (And.intro hE2 (And.intro hlt (And.intro ht2 ht.2)))
      have HO2 := Lib.hid o2
      have h1 : 0 < b.length := by omega
      clear hE ht hv hz hE2 hlt ht2 r1 r2 o1 o2 h0
      go_wp2_with fail
      refine DM.out.mono ?_; rintro e w3 ⟨v, u, rfl, o3, o4, x3⟩
      have HO4 := Lib.hid o4
      clear o3 o4
      go_wp2_with fail
      go_roundw
      case rel => exact ⟨k - 1, b, _, HH.out.1, by have := HH.out.2.1; omega, hb, by have := HH.out.2.1; omega, ⟨HH.out.2.2.2, HH.out.2.2.1⟩, HO2.out.grow x3, HO4.out.base hext.size, hext.trans x3⟩
      case measure =>
        obtain ⟨a8, c8, rfl, _, _, _⟩ := HO4.out.form
        exact HH.out.2.1
end Go.Proofs.Ytbklflhikcfceaa
