/- Walks of laws of layer 6. -/
import Derived.Test.YtgnngifnoaagjaaCd5
namespace Go.Proofs.Ytgnngifnoaagjaa
open Go.RowKit

set_option maxRecDepth 100000 in
set_option maxHeartbeats 4000000 in
theorem CodeDistance_w (l m n : List Nat) (a b e : Option Addr) (c d f : Nat) (w : World) (ha : Rd w a l) (hb : Rd w b m) (he : Rd w e n) (hl : l.length ≤ 1000000000000000000) (hm : m.length ≤ 1000000000000000000) (hn : n.length ≤ 1000000000000000000) :
    Calls Try.prog 4 #[.slice a l.length c, .slice b m.length d, .slice e n.length f] w fun e w' => e = .returned (.bool true) ∧ Ext w w' := by
  have HA := Lib.hid ha
  have HB := Lib.hid hb
  have HC := Lib.hid he
  clear ha hb he
  by_cases hf : l.length + m.length + n.length ≤ 500
  case neg =>
    have hd0 : decide ((500 : Int) < (l.length : Int) + (m.length : Int) + (n.length : Int)) = true := decide_eq_true (by omega)
    clear hf
    go_enter Try.func4, Try.ntmps4
    go_wp2_with fail
    refine (awake6_c _).mono ?_; rintro e w1 ⟨rfl, x2⟩
    have X := x2
    clear x2
    go_wp2_with fail
    go_ret
    exact ⟨rfl, X⟩
  have hd0 : decide ((500 : Int) < (l.length : Int) + (m.length : Int) + (n.length : Int)) = false := decide_eq_false (by omega)
  have D1 := Lib.hid (fun w' (h1 : Rd w' a l) (h2 : Rd w' b m) => Distance_c l m a b c d w' h1 h2 (by omega) (by omega))
  have D2 := Lib.hid (fun w' (h1 : Rd w' a l) (h2 : Rd w' b m) => RDistance_c l m a b c d w' h1 h2 (by omega) (by omega))
  have D3 := fun w' (h1 : Rd w' b m) (h2 : Rd w' a l) => Distance_c m l b a d c w' h1 h2 (by omega) (by omega)
  have D4 := fun w' (h1 : Rd w' a l) => Distance_c l l a a c c w' h1 h1 (by omega) (by omega)
  have D5 := Lib.hid (fun w' (h1 : Rd w' a l) (h2 : Rd w' e n) => Distance_c l n a e c f w' h1 h2 (by omega) (by omega))
  have D6 := Lib.hid (fun w' (h1 : Rd w' b m) (h2 : Rd w' e n) => Distance_c m n b e d f w' h1 h2 (by omega) (by omega))
  rw [dist_comm m l] at D3
  rw [dist_self] at D4
  have k1 := dist_tri l m n
  have kk : ∀ x y : List Nat, dist x y ≤ max x.length y.length := fun x y => od_le x y _
  have k2 := kk l m
  have k3 := kk m n
  have k4 := kk l n
  obtain ⟨d1, hd1⟩ : ∃ d1, d1 = dist l m := ⟨_, rfl⟩
  obtain ⟨d2, hd2⟩ : ∃ d2, d2 = dist l n := ⟨_, rfl⟩
  obtain ⟨d3, hd3⟩ : ∃ d3, d3 = dist m n := ⟨_, rfl⟩
  rw [← hd1] at D1 D2 D3 k1 k2
  rw [← hd2] at D5 k1 k4
  rw [← hd3] at D6 k1 k3
  have H3 := Lib.hid D3
  have H4 : Hid (∀ w', Rd w' a l → Calls Try.prog 24 #[.slice a l.length c, .slice a l.length c] w' fun e w'' => e = .returned (.int .i64 0) ∧ Ext w' w'') := Lib.hid D4
  have t1 : ((d1 : Int) == (d1 : Int)) = true := by simp
  have b1 : d1 ≤ 500 := by omega
  have b2 : d2 ≤ 500 := by omega
  have b3 : d3 ≤ 500 := by omega
  have t9 : decide ((d2 : Int) ≤ (d1 : Int) + (d3 : Int)) = true := decide_eq_true (by omega)
  clear D3 D4 hd1 hd2 hd3 kk k2 k3 k4
  go_enter Try.func4, Try.ntmps4
  go_wp2_with fail
  refine (awake6_c _).mono ?_; rintro e w1 ⟨rfl, x2⟩
  have X := x2
  clear x2
  have ha := HA.out.ext X
  have hb := HB.out.ext X
  have he := HC.out.ext X
  go_wp2_with fail
  refine (D1.out _ ha hb).mono ?_; rintro e w3 ⟨rfl, x4⟩
  replace ha := ha.ext x4
  replace hb := hb.ext x4
  replace he := he.ext x4
  replace X := X.trans x4
  clear x4
  go_wp2_with fail
  refine (D2.out _ ha hb).mono ?_; rintro e w5 ⟨rfl, x6⟩
  replace ha := ha.ext x6
  replace hb := hb.ext x6
  replace he := he.ext x6
  replace X := X.trans x6
  clear x6
  go_wp2_with fail
  refine (H3.out _ hb ha).mono ?_; rintro e w7 ⟨rfl, x8⟩
  replace ha := ha.ext x8
  replace hb := hb.ext x8
  replace he := he.ext x8
  replace X := X.trans x8
  clear x8
  go_wp2_with fail
  refine (H4.out _ ha).mono ?_; rintro e w9 ⟨rfl, x10⟩
  replace ha := ha.ext x10
  replace hb := hb.ext x10
  replace he := he.ext x10
  replace X := X.trans x10
  clear x10
  go_wp2_with fail
  refine (D5.out _ ha he).mono ?_; rintro e w11 ⟨rfl, x12⟩
  replace ha := ha.ext x12
  replace hb := hb.ext x12
  replace he := he.ext x12
  replace X := X.trans x12
  clear x12
  go_wp2_with fail
  refine (D6.out _ hb he).mono ?_; rintro e w13 ⟨rfl, x14⟩
  replace ha := ha.ext x14
  replace hb := hb.ext x14
  replace he := he.ext x14
  replace X := X.trans x14
  clear x14
  go_wp2_with fail
  go_ret
  exact ⟨rfl, X⟩
end Go.Proofs.Ytgnngifnoaagjaa
