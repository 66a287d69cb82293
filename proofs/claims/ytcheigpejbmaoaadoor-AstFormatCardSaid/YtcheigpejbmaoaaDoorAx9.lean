/- The document's Weight and weights: what they say of a program's size. Printed by gen/ast7.py. -/
import Derived.Test.YtcheigpejbmaoaaDoorAx1
namespace Go.Proofs.YtcheigpejbmaoaaDoor
open Go.RowKit
mutual
/-- Nodes and bytes of names. -/
def wtE : E → Nat
  | .mk _ _ n _ _ l => 1 + n.size + wtEs l
def wtEs : List E → Nat
  | [] => 0
  | e :: l => wtE e + wtEs l
end
theorem wtEs_snoc : ∀ (l : List E) (e : E), wtEs (l ++ [e]) = wtEs l + wtE e
  | [], e => by show wtE e + 0 = 0 + wtE e; omega
  | x :: l, e => by show wtE x + wtEs (l ++ [e]) = wtE x + wtEs l + wtE e; rw [wtEs_snoc l e]; omega
theorem wtE_eq (e : E) : wtE e = 1 + e.name.size + wtEs e.args := by obtain ⟨o, v, n, a, c, l⟩ := e; rfl
mutual
theorem sz_wtE : ∀ e, E.sz e ≤ wtE e
  | .mk _ _ _ _ _ l => by have := sz_wtEs l; show E.szs l + 1 ≤ 1 + _ + wtEs l; omega
theorem sz_wtEs : ∀ l, E.szs l ≤ wtEs l
  | [] => Nat.le_refl _
  | e :: l => by have := sz_wtE e; have := sz_wtEs l; show E.sz e + E.szs l ≤ wtE e + wtEs l; omega
end
def WtRel (s : Nat) (l : List E) (z : Int) (w1 : World) (s5 s6 : Value) (wr : World) : Prop := ∃ j N : Nat, s6 = .int .i64 j ∧ s5 = .int .i64 N ∧ j ≤ l.length ∧ (N : Int) ≤ z + 140737488355329 ∧ ((N : Int) ≤ z → 1 + s + wtEs (l.take j) ≤ N) ∧ Ext w1 wr
set_option maxRecDepth 100000 in
set_option maxHeartbeats 4000000 in
theorem Weight_n : ∀ (m : Nat) (e : E), E.sz e < m → ∀ (z : Int), 0 ≤ z → z ≤ 600 → ∀ w, InE w e → Calls Tryd.prog 23 #[e.v, .int .i64 z] w fun r w' => ∃ n : Nat, r = .returned (.int .i64 n) ∧ (n : Int) ≤ z + 140737488355329 ∧ ((n : Int) ≤ z → wtE e ≤ n) ∧ Ext w w' := by
  intro m
  induction m with
  | zero => intro e h; exact absurd h (by omega)
  | succ m ih =>
    intro e hm z hz0 hz1 w he
    have IH := Lib.hid (fun (i : Nat) x (hx : e.args[i]? = some x) => ih x (by have := E.sz_arg hx; omega))
    have HL := Lib.hid he.l
    have hcap := he.l.2
    have hnm := he.bd.name
    have EQ := wtE_eq e
    obtain ⟨T, hT⟩ : ∃ T, T = wtE e := ⟨_, rfl⟩
    rw [← hT] at EQ ⊢
    unfold E.v
    obtain ⟨op, hop⟩ : ∃ q, q = e.op := ⟨_, rfl⟩
    obtain ⟨v, hv⟩ : ∃ q, q = e.val := ⟨_, rfl⟩
    obtain ⟨s, hs⟩ : ∃ q, q = e.name := ⟨_, rfl⟩
    obtain ⟨a, ha⟩ : ∃ q, q = e.a := ⟨_, rfl⟩
    obtain ⟨c, hc⟩ : ∃ q, q = e.cap := ⟨_, rfl⟩
    obtain ⟨l, hl⟩ : ∃ q, q = e.args := ⟨_, rfl⟩
    obtain ⟨n, hn⟩ : ∃ q, q = l.length := ⟨_, rfl⟩
    rw [← hop, ← hv, ← hs, ← ha, ← hc, ← hl, ← hn]
    rw [← hs, ← hl] at EQ
    rw [← hs] at hnm
    rw [← hl] at IH hcap
    rw [← ha, ← hl] at HL
    rw [← hn] at hcap
    have HN := Lib.hid hn
    replace EQ := Lib.hid EQ
    clear ih hop hv hs ha hc hl hn he hm hT
    go_enter Tryd.func23, Tryd.ntmps23
    go_wp2_with fail
    obtain ⟨w1, hw1⟩ : ∃ q, q = w.alloc (.cells #[.int .i64 op, .int .u64 (v : Int), .string s, .slice a n c] 44) := ⟨_, rfl⟩
    have X1 : Ext w w1 := by rw [hw1]; exact (Ext.refl _).alloc _
    have c3 : w1.cell? ⟨w.heap.size, 3, none⟩ = some (.slice a n c) := by rw [hw1]; simp
    rw [← hw1]
    have HX1 := Lib.hid X1
    clear hw1 X1
    go_loopw [5, 6] (WtRel s.size l z w1) (fun _ s _ => n - (intOf s).toNat)
    case atStart => exact ⟨0, 1 + s.size, rfl, by push_cast; rfl, Nat.zero_le _, by push_cast; omega, fun _ => Nat.le_refl _, Ext.refl _⟩
    case round =>
      obtain ⟨j, N, rfl, rfl, hj, hN, hI, hext⟩ := hrel
      rw [← HN.out] at hj
      replace c3 := hext.cell c3
      have HX := Lib.hid hext
      replace hI := Lib.hid hI
      clear hext
      by_cases hlt : j < n
      · by_cases hle : (N : Int) ≤ z
        · obtain ⟨x, hxj⟩ := getE (l := l) (i := j) (by rw [← HN.out]; exact hlt)
          obtain ⟨⟨b, o, rfl, k0, k1, k2, k3⟩, hin⟩ := (HL.out.to (HX1.out.trans HX.out)).at hxj
          have PC := IH.out j x hxj (z - N) (by omega) (by omega)
          unfold E.v at PC
          have ES : Hid (wtEs (l.take (j + 1)) = wtEs (l.take j) + wtE x) := Lib.hid (by rw [take_snoc hxj, wtEs_snoc])
          obtain ⟨d, hd⟩ : ∃ q, q = wtE x := ⟨_, rfl⟩
          rw [← hd] at ES PC
          have HIN := Lib.hid hin
          clear hd hxj hin
          obtain ⟨xq0, hxq0⟩ : ∃ q, q = x.op := ⟨_, rfl⟩
          obtain ⟨xq1, hxq1⟩ : ∃ q, q = x.val := ⟨_, rfl⟩
          obtain ⟨xq2, hxq2⟩ : ∃ q, q = x.name := ⟨_, rfl⟩
          obtain ⟨xq3, hxq3⟩ : ∃ q, q = x.a := ⟨_, rfl⟩
          obtain ⟨xq4, hxq4⟩ : ∃ q, q = x.args.length := ⟨_, rfl⟩
          obtain ⟨xq5, hxq5⟩ : ∃ q, q = x.cap := ⟨_, rfl⟩
          simp only [← hxq0, ← hxq1, ← hxq2, ← hxq3, ← hxq4, ← hxq5] at k0 k1 k2 k3 PC
          clear hxq0 hxq1 hxq2 hxq3 hxq4 hxq5
          replace PC := Lib.hid PC
          go_wp2_with fail
          refine (PC.out _ HIN.out).mono ?_; rintro e w2 ⟨r, rfl, hr1, hr2, x2⟩
          have X2 := Lib.hid (HX.out.trans x2)
          clear x2 k0 k1 k2 k3 c3
          go_wp2_with fail
          go_roundw
          case rel => exact ⟨j + 1, N + r, by go_num, by go_num, by rw [← HN.out]; omega, by push_cast; omega, fun h => by rw [ES.out]; have := hI.out hle; have := hr2 (by push_cast at h; omega); push_cast at h; omega, X2.out⟩
          case measure => simp [intOf]; omega
        · have X := HX1.out.trans HX.out
          go_wp2_with fail
          go_ret
          exact ⟨N, rfl, hN, fun h => by omega, X⟩
      · obtain rfl : j = n := by omega
        have X := HX1.out.trans HX.out
        have hR : ((N : Int) ≤ z → T ≤ N) := fun h => by have := hI.out h; rw [HN.out, List.take_length] at this; rw [EQ.out]; exact this
        replace hR := Lib.hid hR
        by_cases hle : (N : Int) ≤ z
        · go_wp2_with fail
          go_ret
          exact ⟨N, rfl, hN, hR.out, X⟩
        · go_wp2_with fail
          go_ret
          exact ⟨N, rfl, hN, hR.out, X⟩
theorem Weight_c (e : E) (z : Int) (h0 : 0 ≤ z) (h1 : z ≤ 600) (w : World) (he : InE w e) : Calls Tryd.prog 23 #[e.v, .int .i64 z] w fun r w' => ∃ n : Nat, r = .returned (.int .i64 n) ∧ (n : Int) ≤ z + 140737488355329 ∧ ((n : Int) ≤ z → wtE e ≤ n) ∧ Ext w w' := Weight_n _ e (Nat.lt_succ_self _) z h0 h1 w he
end Go.Proofs.YtcheigpejbmaoaaDoor
