/- The search of package coins: from whole; Select. -/
import Derived.Test.YtndiaamoapidoaaCo6
namespace Go.Proofs.Ytndiaamoapidoaa
open Go.RowKit

theorem from_c (vs : List Nat) (t : Nat) (A : Option Addr) (C : Nat) (w0 : World) (ps : Nat) (h0 : w0.heap.size ≤ ps) (hr : Rd w0 A vs) (hlen : vs.length ≤ 24) (hsm : smallL vs = true) (m : Nat) (hm : m ≤ 24) :
    ∀ (i sum : Nat) (now : List Int) (B : Bst) (w : World) (ii mm ss : Int), SS w0 ps A vs.length C t now B w → ii = i → mm = m → ss = sum → i ≤ vs.length → sum ≤ 4294967295 * i → now.length ≤ i →
      Calls Try.prog 24 #[.pointer (some ⟨ps, 0, none⟩), .int .i64 ii, .int .i64 mm, .int .u64 ss] w fun e w' => e = .returned (.tuple #[]) ∧ SS w0 ps A vs.length C t now (fromM vs t m i sum now B) w' := by
  induction m with
  | zero =>
    intro i sum now B w ii mm ss h e1 e2 e3 hi _ hl
    subst e1 e2 e3
    by_cases hd : B.isSome = true ∧ lst B = t
    · exact from_done vs t A C w0 ps 0 i sum now B w h hd
    · have := from_zero vs.length t A C w0 ps h0 i sum now B w h hd (by omega)
      rw [show fromM vs t 0 i sum now B = updB t B now sum from by simp only [fromM, if_neg hd]]
      exact this
  | succ m ih =>
    intro i sum now B w ii mm ss h e1 e2 e3 hi hs hl
    subst e1 e3
    by_cases hd : B.isSome = true ∧ lst B = t
    · subst e2; exact from_done vs t A C w0 ps (m + 1) i sum now B w h hd
    · rw [show mm = (m : Int) + 1 from by omega]
      have := from_step vs t A C w0 ps h0 hr hlen hsm m hm (ih (by omega)) i sum now B w h hd hi hs hl
      rw [show fromM vs t (m + 1) i sum now B = lo (fun j B => fromM vs t m (j + 1) (sum + vs.getD j 0) (now ++ [(j : Int)]) B) (vs.length - (i + m)) i B from by simp only [fromM, if_neg hd]]
      exact this

def SelPost (w : World) (l : List Int) (n : Int) (e : Ending) (w' : World) : Prop := ∃ v, e = .returned (.tuple #[v, .int .i64 n]) ∧ OwnI w' w.heap.size v l ∧ Ext w w'
def selL (vs : List Nat) (t : Nat) (most : Int) : List Int := if exE vs ≠ 0 ∨ most < 0 ∨ fewM vs t < 0 ∨ most < fewM vs t then [] else bl (fromM vs t (fewM vs t).toNat 0 0 [] none)
def selE (vs : List Nat) (t : Nat) (most : Int) : Int := if exE vs ≠ 0 then exE vs else if most < 0 then 1 else if fewM vs t < 0 ∨ most < fewM vs t then 15 else 0
theorem exE_zero {vs : List Nat} (h : exE vs = 0) : vs.length ≤ 24 ∧ smallL vs = true := by
  unfold exE at h
  split at h
  · cases h
  · split at h
    · rename_i h1 h2; exact ⟨by omega, h2⟩
    · cases h
theorem fw_le (d : List Nat) (t s n : Nat) : fw d t s n ≤ n + d.length ∧ -1 ≤ fw d t s n := by
  induction d generalizing s n with
  | nil => unfold fw; split <;> simp <;> omega
  | cons x r ih =>
    unfold fw
    split
    · simp; omega
    · have := ih (s + x) (n + 1)
      simp only [List.length_cons]; omega
theorem fewM_le (vs : List Nat) (t : Nat) : fewM vs t ≤ vs.length ∧ -1 ≤ fewM vs t := by
  have := fw_le (dsc vs) t 0 0
  rw [dsc_len] at this
  unfold fewM; omega

set_option maxRecDepth 100000 in
set_option maxHeartbeats 4000000 in
theorem Select_c (vs : List Nat) (t : Nat) (most : Int) (a : Option Addr) (c : Nat) (w : World) (ha : Rd w a vs) (hl : vs.length ≤ 9223372036854775807) :
    Calls Try.prog 11 #[.slice a vs.length c, .int .u64 (t : Int), .int .i64 most] w (SelPost w (selL vs t most) (selE vs t most)) := by
  have HA := Lib.hid ha
  have EC := Lib.hid (fun w' (h : Rd w' a vs) => examine_c vs a c w' h hl)
  clear ha
  by_cases hex : exE vs = 0
  case neg =>
    have E1 : Hid (selL vs t most = []) := Lib.hid (by unfold selL; rw [if_pos (.inl hex)])
    have E2 : Hid (selE vs t most = exE vs) := Lib.hid (by unfold selE; rw [if_pos hex])
    obtain ⟨ee, he⟩ : ∃ ee, ee = exE vs := ⟨_, rfl⟩
    rw [← he] at hex E2 EC
    have t1 : (ee == 0) = false := beq_eq_false_iff_ne.2 hex
    clear he
    go_enter Try.func11, Try.ntmps11
    go_wp2_with fail
    refine (EC.out _ HA.out).mono ?_; rintro e w1 ⟨rfl, x1⟩
    have X1 := Lib.hid x1
    clear x1
    go_wp2_with fail
    go_ret2
    exact ⟨_, by rw [E2.out]; rfl, by rw [E1.out]; exact OwnI.nil _ _, X1.out⟩
  obtain ⟨h24, hsm⟩ := exE_zero hex
  rw [hex] at EC
  by_cases hmo : most < 0
  case pos =>
    have E1 : Hid (selL vs t most = []) := Lib.hid (by unfold selL; rw [if_pos (.inr (.inl hmo))])
    have E2 : Hid (selE vs t most = 1) := Lib.hid (by unfold selE; rw [if_neg (fun h => h hex), if_pos hmo])
    clear hex
    go_enter Try.func11, Try.ntmps11
    go_wp2_with fail
    refine (EC.out _ HA.out).mono ?_; rintro e w1 ⟨rfl, x1⟩
    have X1 := Lib.hid x1
    clear x1
    go_wp2_with fail
    go_ret2
    exact ⟨_, by rw [E2.out]; rfl, by rw [E1.out]; exact OwnI.nil _ _, X1.out⟩
  have FC := Lib.hid (fun w' (h : Rd w' a vs) => fewest_c vs t a c w' h h24 hsm)
  have hfl := fewM_le vs t
  have E0 : Hid (exE vs = 0) := Lib.hid hex
  by_cases hfu : fewM vs t < 0 ∨ most < fewM vs t
  case pos =>
    have E1 : Hid (selL vs t most = []) := Lib.hid (by unfold selL; rw [if_pos (.inr (.inr hfu))])
    have E2 : Hid (selE vs t most = 15) := Lib.hid (by unfold selE; rw [if_neg (fun h => h hex), if_neg hmo, if_pos hfu])
    obtain ⟨n, hn⟩ : ∃ n, n = fewM vs t := ⟨_, rfl⟩
    rw [← hn] at hfu hfl FC
    clear hex hn
    by_cases hn0 : n < 0
    · clear hfu
      go_enter Try.func11, Try.ntmps11
      go_wp2_with fail
      refine (EC.out _ HA.out).mono ?_; rintro e w1 ⟨rfl, x1⟩
      have X1 := Lib.hid x1
      clear x1
      go_wp2_with fail
      refine (FC.out _ (HA.out.ext X1.out)).mono ?_; rintro e w2 ⟨rfl, x2⟩
      have X2 := Lib.hid x2
      clear x2
      go_wp2_with fail
      go_ret2
      exact ⟨_, by rw [E2.out]; rfl, by rw [E1.out]; exact OwnI.nil _ _, X1.out.trans X2.out⟩
    · have hn1 : most < n := by rcases hfu with h | h; omega; exact h
      clear hfu
      go_enter Try.func11, Try.ntmps11
      go_wp2_with fail
      refine (EC.out _ HA.out).mono ?_; rintro e w1 ⟨rfl, x1⟩
      have X1 := Lib.hid x1
      clear x1
      go_wp2_with fail
      refine (FC.out _ (HA.out.ext X1.out)).mono ?_; rintro e w2 ⟨rfl, x2⟩
      have X2 := Lib.hid x2
      clear x2
      go_wp2_with fail
      go_ret2
      exact ⟨_, by rw [E2.out]; rfl, by rw [E1.out]; exact OwnI.nil _ _, X1.out.trans X2.out⟩
  have E1 : Hid (selL vs t most = bl (fromM vs t (fewM vs t).toNat 0 0 [] none)) := Lib.hid (by unfold selL; rw [if_neg (fun h => by rcases h with h | h | h; exact h hex; exact hmo h; exact hfu h)])
  have E2 : Hid (selE vs t most = 0) := Lib.hid (by unfold selE; rw [if_neg (fun h => h hex), if_neg hmo, if_neg hfu])
  obtain ⟨k, hk⟩ : ∃ k, k = (fewM vs t).toNat := ⟨_, rfl⟩
  have hk2 : fewM vs t = (k : Int) := by omega
  rw [← hk] at E1
  rw [hk2] at hfu hfl FC
  have hkm : (k : Int) ≤ most := by omega
  have hk24 : k ≤ 24 := by omega
  have GC := Lib.hid (fun (w' w0 : World) (ps : Nat) (h0 : w0.heap.size ≤ ps) (hr : Rd w0 a vs) (h : SS w0 ps a vs.length c t [] none w') => from_c vs t a c w0 ps h0 hr h24 hsm k hk24 0 0 [] none w' 0 k 0 h rfl rfl rfl (Nat.zero_le _) (Nat.zero_le _) (Nat.le_refl _))
  have HK := Lib.hid hk2
  clear hex hk hk2 hfu hsm hfl
  go_enter Try.func11, Try.ntmps11
  go_wp2_with fail
  refine (EC.out _ HA.out).mono ?_; rintro e w1 ⟨rfl, x1⟩
  have X1 := Lib.hid x1
  clear x1
  go_wp2_with fail
  refine (FC.out _ (HA.out.ext X1.out)).mono ?_; rintro e w2 ⟨rfl, x2⟩
  have X2 := Lib.hid (X1.out.trans x2)
  clear x2
  go_wp2_with fail
  have hS : SS w2 w2.heap.size a vs.length c t [] none (w2.alloc (.cells #[.slice a vs.length c, .int .u64 (t : Int), .slice none 0 0, .bool false, .slice none 0 0, .int .u64 0] 46)) :=
    ⟨.slice none 0 0, .slice none 0 0, heap_alloc_new w2 _, OwnI.nil _ _, OwnI.nil _ _, (fun k e => by cases e), (Ext.refl _).alloc _⟩
  refine (GC.out _ w2 w2.heap.size (Nat.le_refl _) (HA.out.ext X2.out) hS).mono ?_
  rintro e w3 ⟨rfl, nv, bv, hb, _, ho, _, hx⟩
  obtain ⟨ba, bc, hbv, _, _, _⟩ := ho.form
  obtain ⟨q, hq⟩ : ∃ q, q = fromM vs t k 0 0 [] none := ⟨_, rfl⟩
  rw [← hq] at hb ho hbv E1
  have c4 : w3.cell? ⟨w2.heap.size, 4, none⟩ = some (.slice ba (bl q).length bc) := by rw [← hbv]; exact SB.cell hb 4
  have O3 := Lib.hid (ho.base (base' := w.heap.size) (by have := X2.out.size; omega))
  have X3 := Lib.hid (X2.out.trans hx)
  rw [hbv] at O3
  clear hb ho hbv hq hx hS
  go_wp2_with fail
  go_ret2
  exact ⟨_, by rw [E2.out]; rfl, by rw [E1.out]; exact O3.out, X3.out⟩
end Go.Proofs.Ytndiaamoapidoaa
