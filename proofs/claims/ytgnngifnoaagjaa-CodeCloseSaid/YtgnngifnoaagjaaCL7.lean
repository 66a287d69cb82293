/- Walk of CodeDecodes. -/
import Derived.Test.YtgnngifnoaagjaaCL6
import Derived.Test.YtgnngifnoaagjaaCL3
import Derived.Test.YtgnngifnoaagjaaCd8
import Derived.Test.YtgnngifnoaagjaaOpu
import Derived.Test.YtgnngifnoaagjaaRegM
namespace Go.Proofs.Ytgnngifnoaagjaa
open Go.RowKit
/-- The word, changed at the first j places. -/
def spK (W P B : List Nat) (N : Nat) : Nat → List Nat
  | 0 => W
  | j + 1 => (spK W P B N j).set (P.getD j 0 % N) (B.getD j 0)
theorem spK_len (W P B : List Nat) (N : Nat) : ∀ j, (spK W P B N j).length = W.length
  | 0 => rfl
  | j + 1 => by show ((spK W P B N j).set _ _).length = _; rw [List.length_set, spK_len W P B N j]
def SpK (W P B : List Nat) (N g c : Nat) (w1 : World) (i : Value) (wr : World) : Prop :=
  ∃ j : Nat, i = .int .i64 j ∧ j ≤ P.length ∧ Arr wr g (spK W P B N j) c ∧ Ext w1 wr
theorem word_con {p : Nat} {n k : Int} (hc : cval p n k = true) {f : List Nat} (hf : (f.length : Int) ≤ k) : rCon p n k (cword p n.toNat f) = true := by
  rw [← con_same]
  obtain ⟨hv, e, K, N, he, hN, rfl, rfl, hK1, hK2, hNp, hd, ho⟩ := cval_spec hc
  unfold cCon
  rw [hc, Bool.true_and, Int.toNat_natCast, cword_len, decide_eq_true rfl, Bool.true_and, decide_eq_true_iff]
  subst hN
  rw [cpoly_word hv hd _ (by omega)]
  have := trimP_le p f
  omega

set_option maxRecDepth 100000 in
set_option maxHeartbeats 8000000 in
theorem CodeDecodes_w (p : Nat) (n k e : Int) (l m P : List Nat) (a b pa : Option Addr) (c f pc : Nat) (w : World) (ha : Rd w a l) (hb : Rd w b m) (hP : RdB w pa P) (hPb : ∀ i, i < P.length → P.getD i 0 < 256) (hn : n ≤ 9223372036854775807) (hn2 : -9223372036854775808 ≤ n) (he : e ≤ 9223372036854775807) (he2 : -9223372036854775808 ≤ e) (hl : l.length ≤ 9223372036854775807) (hm : m.length ≤ 9223372036854775807) (hPl : P.length ≤ 9223372036854775807) :
    Calls Try.prog 6 #[.agg #[.int .u64 p, .int .i64 n, .int .i64 k, .slice a l.length c, .slice b m.length f, .int .i64 e], .slice pa P.length pc] w fun e w' => e = .returned (.bool true) ∧ Ext w w' := by
  have HA := Lib.hid ha
  have HB := Lib.hid hb
  have HP := Lib.hid hP
  have HPB := Lib.hid hPb
  clear ha hb hP hPb
  have h0 : (w.alloc (.cells #[.int .u64 p, .int .i64 n, .int .i64 k, .slice a l.length c, .slice b m.length f, .int .i64 e] 45)).cell? ⟨w.heap.size, 0, none⟩ = some (.int .u64 p) := by simp
  have h1 : (w.alloc (.cells #[.int .u64 p, .int .i64 n, .int .i64 k, .slice a l.length c, .slice b m.length f, .int .i64 e] 45)).cell? ⟨w.heap.size, 1, none⟩ = some (.int .i64 n) := by simp
  have h2 : (w.alloc (.cells #[.int .u64 p, .int .i64 n, .int .i64 k, .slice a l.length c, .slice b m.length f, .int .i64 e] 45)).cell? ⟨w.heap.size, 2, none⟩ = some (.int .i64 k) := by simp
  have h3 : (w.alloc (.cells #[.int .u64 p, .int .i64 n, .int .i64 k, .slice a l.length c, .slice b m.length f, .int .i64 e] 45)).cell? ⟨w.heap.size, 3, none⟩ = some (.slice a l.length c) := by simp
  have h4 : (w.alloc (.cells #[.int .u64 p, .int .i64 n, .int .i64 k, .slice a l.length c, .slice b m.length f, .int .i64 e] 45)).cell? ⟨w.heap.size, 4, none⟩ = some (.slice b m.length f) := by simp
  have h5 : (w.alloc (.cells #[.int .u64 p, .int .i64 n, .int .i64 k, .slice a l.length c, .slice b m.length f, .int .i64 e] 45)).cell? ⟨w.heap.size, 5, none⟩ = some (.int .i64 e) := by simp
  have RVC := fun w' => RCValid_c p n k w' hn hn2
  cases hc : cval p n k
  case false =>
    rw [hc] at RVC
    have HRVC := Lib.hid RVC
    clear RVC hc
    go_enter Try.func6, Try.ntmps6
    go_wp2_with fail
    refine (awake6_c _).mono ?_; rintro e w1 ⟨rfl, x0⟩
    replace h0 := x0.cell h0
    replace h1 := x0.cell h1
    replace h2 := x0.cell h2
    replace h3 := x0.cell h3
    replace h4 := x0.cell h4
    replace h5 := x0.cell h5
    have X := x0.box
    clear x0
    go_wp2_with fail
    refine (HRVC.out _).mono ?_; rintro e wv ⟨rfl, xv⟩
    have d0 : wv.cell? ⟨w1.heap.size, 0, none⟩ = some (.int .u64 p) := xv.cell (by simp)
    have d1 : wv.cell? ⟨w1.heap.size, 1, none⟩ = some (.int .i64 n) := xv.cell (by simp)
    have d2 : wv.cell? ⟨w1.heap.size, 2, none⟩ = some (.int .i64 k) := xv.cell (by simp)
    replace h0 := xv.box.cell h0
    replace h1 := xv.box.cell h1
    replace h2 := xv.box.cell h2
    replace h3 := xv.box.cell h3
    replace h4 := xv.box.cell h4
    replace h5 := xv.box.cell h5
    replace X := X.trans xv.box
    clear xv
    go_wp2_with fail
    go_ret
    exact ⟨rfl, X⟩
  rw [hc] at RVC
  have HRVC := Lib.hid RVC
  clear RVC
  cases hs : shB p n k [(a, l.length, c), (b, m.length, f)]
  case false =>
    have SC := Lib.hid (short2 p n k a b l.length c m.length f false hs hn hn2)
    clear hs hc
    go_enter Try.func6, Try.ntmps6
    go_wp2_with fail
    refine (awake6_c _).mono ?_; rintro e w1 ⟨rfl, x0⟩
    replace h0 := x0.cell h0
    replace h1 := x0.cell h1
    replace h2 := x0.cell h2
    replace h3 := x0.cell h3
    replace h4 := x0.cell h4
    replace h5 := x0.cell h5
    have X := x0.box
    clear x0
    go_wp2_with fail
    refine (HRVC.out _).mono ?_; rintro e wv ⟨rfl, xv⟩
    have d0 : wv.cell? ⟨w1.heap.size, 0, none⟩ = some (.int .u64 p) := xv.cell (by simp)
    have d1 : wv.cell? ⟨w1.heap.size, 1, none⟩ = some (.int .i64 n) := xv.cell (by simp)
    have d2 : wv.cell? ⟨w1.heap.size, 2, none⟩ = some (.int .i64 k) := xv.cell (by simp)
    replace h0 := xv.box.cell h0
    replace h1 := xv.box.cell h1
    replace h2 := xv.box.cell h2
    replace h3 := xv.box.cell h3
    replace h4 := xv.box.cell h4
    replace h5 := xv.box.cell h5
    replace X := X.trans xv.box
    clear xv
    go_wp2_with fail
    refine (SC.out _ _ (by simp) (by simp)).mono ?_; rintro e w3 ⟨rfl, x⟩
    replace h0 := x.box.cell h0
    replace h1 := x.box.cell h1
    replace h2 := x.box.cell h2
    replace h3 := x.box.cell h3
    replace h4 := x.box.cell h4
    replace h5 := x.box.cell h5
    replace d0 := x.box.cell d0
    replace d1 := x.box.cell d1
    replace d2 := x.box.cell d2
    replace X := X.trans x.box
    clear x
    go_wp2_with fail
    go_ret
    exact ⟨rfl, X⟩
  have SC := Lib.hid (short2 p n k a b l.length c m.length f true hs hn hn2)
  have hlen := sh2_len hs
  obtain ⟨hb1, hb2, hb3, hb4, hb5, hb6, hb7⟩ := (cval_iff p n k).1 hc
  have HC := Lib.hid hc
  have HV := Lib.hid hb1
  clear hs hc hb1 hb4
  have hdiv : (n - k).tdiv 2 = (n - k) / 2 := Int.tdiv_eq_ediv_of_nonneg (by omega)
  by_cases hlk : (l.length : Int) ≤ k
  case neg =>
    go_enter Try.func6, Try.ntmps6
    go_wp2_with fail
    refine (awake6_c _).mono ?_; rintro e w1 ⟨rfl, x0⟩
    replace h0 := x0.cell h0
    replace h1 := x0.cell h1
    replace h2 := x0.cell h2
    replace h3 := x0.cell h3
    replace h4 := x0.cell h4
    replace h5 := x0.cell h5
    have X := x0.box
    clear x0
    go_wp2_with fail
    refine (HRVC.out _).mono ?_; rintro e wv ⟨rfl, xv⟩
    have d0 : wv.cell? ⟨w1.heap.size, 0, none⟩ = some (.int .u64 p) := xv.cell (by simp)
    have d1 : wv.cell? ⟨w1.heap.size, 1, none⟩ = some (.int .i64 n) := xv.cell (by simp)
    have d2 : wv.cell? ⟨w1.heap.size, 2, none⟩ = some (.int .i64 k) := xv.cell (by simp)
    replace h0 := xv.box.cell h0
    replace h1 := xv.box.cell h1
    replace h2 := xv.box.cell h2
    replace h3 := xv.box.cell h3
    replace h4 := xv.box.cell h4
    replace h5 := xv.box.cell h5
    replace X := X.trans xv.box
    clear xv
    go_wp2_with fail
    refine (SC.out _ _ (by simp) (by simp)).mono ?_; rintro e w3 ⟨rfl, x⟩
    replace h0 := x.box.cell h0
    replace h1 := x.box.cell h1
    replace h2 := x.box.cell h2
    replace h3 := x.box.cell h3
    replace h4 := x.box.cell h4
    replace h5 := x.box.cell h5
    replace d0 := x.box.cell d0
    replace d1 := x.box.cell d1
    replace d2 := x.box.cell d2
    replace X := X.trans x.box
    clear x
    go_wp2_with fail
    go_ret
    exact ⟨rfl, X⟩
  by_cases he0 : 0 ≤ e
  case neg =>
    go_enter Try.func6, Try.ntmps6
    go_wp2_with fail
    refine (awake6_c _).mono ?_; rintro e w1 ⟨rfl, x0⟩
    replace h0 := x0.cell h0
    replace h1 := x0.cell h1
    replace h2 := x0.cell h2
    replace h3 := x0.cell h3
    replace h4 := x0.cell h4
    replace h5 := x0.cell h5
    have X := x0.box
    clear x0
    go_wp2_with fail
    refine (HRVC.out _).mono ?_; rintro e wv ⟨rfl, xv⟩
    have d0 : wv.cell? ⟨w1.heap.size, 0, none⟩ = some (.int .u64 p) := xv.cell (by simp)
    have d1 : wv.cell? ⟨w1.heap.size, 1, none⟩ = some (.int .i64 n) := xv.cell (by simp)
    have d2 : wv.cell? ⟨w1.heap.size, 2, none⟩ = some (.int .i64 k) := xv.cell (by simp)
    replace h0 := xv.box.cell h0
    replace h1 := xv.box.cell h1
    replace h2 := xv.box.cell h2
    replace h3 := xv.box.cell h3
    replace h4 := xv.box.cell h4
    replace h5 := xv.box.cell h5
    replace X := X.trans xv.box
    clear xv
    go_wp2_with fail
    refine (SC.out _ _ (by simp) (by simp)).mono ?_; rintro e w3 ⟨rfl, x⟩
    replace h0 := x.box.cell h0
    replace h1 := x.box.cell h1
    replace h2 := x.box.cell h2
    replace h3 := x.box.cell h3
    replace h4 := x.box.cell h4
    replace h5 := x.box.cell h5
    replace d0 := x.box.cell d0
    replace d1 := x.box.cell d1
    replace d2 := x.box.cell d2
    replace X := X.trans x.box
    clear x
    go_wp2_with fail
    go_ret
    exact ⟨rfl, X⟩
  by_cases he1 : e ≤ (n - k) / 2
  case neg =>
    go_enter Try.func6, Try.ntmps6
    go_wp2_with fail
    refine (awake6_c _).mono ?_; rintro e w1 ⟨rfl, x0⟩
    replace h0 := x0.cell h0
    replace h1 := x0.cell h1
    replace h2 := x0.cell h2
    replace h3 := x0.cell h3
    replace h4 := x0.cell h4
    replace h5 := x0.cell h5
    have X := x0.box
    clear x0
    go_wp2_with fail
    refine (HRVC.out _).mono ?_; rintro e wv ⟨rfl, xv⟩
    have d0 : wv.cell? ⟨w1.heap.size, 0, none⟩ = some (.int .u64 p) := xv.cell (by simp)
    have d1 : wv.cell? ⟨w1.heap.size, 1, none⟩ = some (.int .i64 n) := xv.cell (by simp)
    have d2 : wv.cell? ⟨w1.heap.size, 2, none⟩ = some (.int .i64 k) := xv.cell (by simp)
    replace h0 := xv.box.cell h0
    replace h1 := xv.box.cell h1
    replace h2 := xv.box.cell h2
    replace h3 := xv.box.cell h3
    replace h4 := xv.box.cell h4
    replace h5 := xv.box.cell h5
    replace X := X.trans xv.box
    clear xv
    go_wp2_with fail
    refine (SC.out _ _ (by simp) (by simp)).mono ?_; rintro e w3 ⟨rfl, x⟩
    replace h0 := x.box.cell h0
    replace h1 := x.box.cell h1
    replace h2 := x.box.cell h2
    replace h3 := x.box.cell h3
    replace h4 := x.box.cell h4
    replace h5 := x.box.cell h5
    replace d0 := x.box.cell d0
    replace d1 := x.box.cell d1
    replace d2 := x.box.cell d2
    replace X := X.trans x.box
    clear x
    go_wp2_with fail
    go_ret
    exact ⟨rfl, X⟩
  by_cases hPm : P.length ≤ m.length
  case neg =>
    go_enter Try.func6, Try.ntmps6
    go_wp2_with fail
    refine (awake6_c _).mono ?_; rintro e w1 ⟨rfl, x0⟩
    replace h0 := x0.cell h0
    replace h1 := x0.cell h1
    replace h2 := x0.cell h2
    replace h3 := x0.cell h3
    replace h4 := x0.cell h4
    replace h5 := x0.cell h5
    have X := x0.box
    clear x0
    go_wp2_with fail
    refine (HRVC.out _).mono ?_; rintro e wv ⟨rfl, xv⟩
    have d0 : wv.cell? ⟨w1.heap.size, 0, none⟩ = some (.int .u64 p) := xv.cell (by simp)
    have d1 : wv.cell? ⟨w1.heap.size, 1, none⟩ = some (.int .i64 n) := xv.cell (by simp)
    have d2 : wv.cell? ⟨w1.heap.size, 2, none⟩ = some (.int .i64 k) := xv.cell (by simp)
    replace h0 := xv.box.cell h0
    replace h1 := xv.box.cell h1
    replace h2 := xv.box.cell h2
    replace h3 := xv.box.cell h3
    replace h4 := xv.box.cell h4
    replace h5 := xv.box.cell h5
    replace X := X.trans xv.box
    clear xv
    go_wp2_with fail
    refine (SC.out _ _ (by simp) (by simp)).mono ?_; rintro e w3 ⟨rfl, x⟩
    replace h0 := x.box.cell h0
    replace h1 := x.box.cell h1
    replace h2 := x.box.cell h2
    replace h3 := x.box.cell h3
    replace h4 := x.box.cell h4
    replace h5 := x.box.cell h5
    replace d0 := x.box.cell d0
    replace d1 := x.box.cell d1
    replace d2 := x.box.cell d2
    replace X := X.trans x.box
    clear x
    go_wp2_with fail
    go_ret
    exact ⟨rfl, X⟩
  by_cases hP2 : P.length ≤ 200
  case neg =>
    go_enter Try.func6, Try.ntmps6
    go_wp2_with fail
    refine (awake6_c _).mono ?_; rintro e w1 ⟨rfl, x0⟩
    replace h0 := x0.cell h0
    replace h1 := x0.cell h1
    replace h2 := x0.cell h2
    replace h3 := x0.cell h3
    replace h4 := x0.cell h4
    replace h5 := x0.cell h5
    have X := x0.box
    clear x0
    go_wp2_with fail
    refine (HRVC.out _).mono ?_; rintro e wv ⟨rfl, xv⟩
    have d0 : wv.cell? ⟨w1.heap.size, 0, none⟩ = some (.int .u64 p) := xv.cell (by simp)
    have d1 : wv.cell? ⟨w1.heap.size, 1, none⟩ = some (.int .i64 n) := xv.cell (by simp)
    have d2 : wv.cell? ⟨w1.heap.size, 2, none⟩ = some (.int .i64 k) := xv.cell (by simp)
    replace h0 := xv.box.cell h0
    replace h1 := xv.box.cell h1
    replace h2 := xv.box.cell h2
    replace h3 := xv.box.cell h3
    replace h4 := xv.box.cell h4
    replace h5 := xv.box.cell h5
    replace X := X.trans xv.box
    clear xv
    go_wp2_with fail
    refine (SC.out _ _ (by simp) (by simp)).mono ?_; rintro e w3 ⟨rfl, x⟩
    replace h0 := x.box.cell h0
    replace h1 := x.box.cell h1
    replace h2 := x.box.cell h2
    replace h3 := x.box.cell h3
    replace h4 := x.box.cell h4
    replace h5 := x.box.cell h5
    replace d0 := x.box.cell d0
    replace d1 := x.box.cell d1
    replace d2 := x.box.cell d2
    replace X := X.trans x.box
    clear x
    go_wp2_with fail
    go_ret
    exact ⟨rfl, X⟩
  obtain ⟨N, hN⟩ : ∃ N : Nat, N = n.toNat := ⟨_, rfl⟩
  obtain ⟨K, hK⟩ : ∃ K : Nat, K = k.toNat := ⟨_, rfl⟩
  have hnN : n = (N : Int) := by omega
  have hkK : k = (K : Int) := by omega
  have HNN := Lib.hid hnN
  have HKK := Lib.hid hkK
  have EC := fun w' (h : Rd w' a l) => REncode_c p n k l a c w' h (by omega) hn hn2
  rw [rEnc_val HC.out, ← hN] at EC
  have WL : (cword p N l).length = N := cword_len _ _ _
  have NF := fun (sp : List Nat) (hsp : sp.length = N) => show (dist (cword p N l) (sp.map (fred p)) : Int) ≤ e → nearM p N K sp e = some (cword p N l) from by
    obtain ⟨_, e1, K1, N1, _, q2, q3, q4, _, q6, _, q8, _⟩ := cval_spec HC.out
    obtain rfl : N1 = N := by omega
    obtain rfl : K1 = K := by omega
    subst q2
    exact fun h => near_found HV.out q8 q6 sp hsp e (by omega) l (by omega) h
  have NS := fun (sp x : List Nat) (h : nearM p N K sp e = some x) => show rCon p n k x = true ∧ x.length = N ∧ (dist x (sp.map (fred p)) : Int) ≤ e from by
    obtain ⟨f, q1, q2, q3⟩ := near_sound h
    refine ⟨?_, by rw [q2, cword_len], q3⟩
    rw [q2, hN]; exact word_con HC.out (by omega)
  have NC := fun (sp : List Nat) (hsp : sp.length = N) w' (a : Option Addr) (c : Nat) (h : Rd w' a sp) => Nearest_c p n k sp e a c w' h (by omega) hn hn2
  have NG := fun (sp : List Nat) (hsp : sp.length = N) => show cNear p n k sp e = (nearM p N K sp e, 0) from by
    unfold cNear
    rw [if_neg (by rw [HV.out]; simp), if_pos ⟨HC.out, by omega, he0, he1⟩, ← hN, ← hK]
  obtain ⟨WD, hWD⟩ : ∃ WD, WD = cword p N l := ⟨_, rfl⟩
  rw [← hWD] at EC WL NF
  have HEC := Lib.hid EC
  have HNF := Lib.hid NF
  have HNS := Lib.hid NS
  have HNCC := Lib.hid NC
  have HNG := Lib.hid NG
  have HWL := Lib.hid WL
  have OCW : Hid (∀ w' (a : Option Addr) (c : Nat), Rd w' a WD → Calls Try.prog 16 #[.slice a N c] w' (SlPost w' WD)) := Lib.hid (fun w' a c h => by have q := own_c WD a c w' h (by omega); rw [WL] at q; exact q)
  have hN1 : 1 ≤ N := by omega
  have hN256 : N ≤ 256 := by omega
  have g1 : (n != 0) = true := bne_iff_ne.2 (by omega)
  clear EC NF NS NC NG WL hWD hnN hkK hN hK
  go_enter Try.func6, Try.ntmps6
  go_wp2_with fail
  refine (awake6_c _).mono ?_; rintro e w1 ⟨rfl, x0⟩
  replace h0 := x0.cell h0
  replace h1 := x0.cell h1
  replace h2 := x0.cell h2
  replace h3 := x0.cell h3
  replace h4 := x0.cell h4
  replace h5 := x0.cell h5
  have X := x0.box
  clear x0
  go_wp2_with fail
  refine (HRVC.out _).mono ?_; rintro e wv ⟨rfl, xv⟩
  have d0 : wv.cell? ⟨w1.heap.size, 0, none⟩ = some (.int .u64 p) := xv.cell (by simp)
  have d1 : wv.cell? ⟨w1.heap.size, 1, none⟩ = some (.int .i64 n) := xv.cell (by simp)
  have d2 : wv.cell? ⟨w1.heap.size, 2, none⟩ = some (.int .i64 k) := xv.cell (by simp)
  replace h0 := xv.box.cell h0
  replace h1 := xv.box.cell h1
  replace h2 := xv.box.cell h2
  replace h3 := xv.box.cell h3
  replace h4 := xv.box.cell h4
  replace h5 := xv.box.cell h5
  replace X := X.trans xv.box
  clear xv
  go_wp2_with fail
  refine (SC.out _ _ (by simp) (by simp)).mono ?_; rintro e w3 ⟨rfl, x⟩
  replace h0 := x.box.cell h0
  replace h1 := x.box.cell h1
  replace h2 := x.box.cell h2
  replace h3 := x.box.cell h3
  replace h4 := x.box.cell h4
  replace h5 := x.box.cell h5
  replace d0 := x.box.cell d0
  replace d1 := x.box.cell d1
  replace d2 := x.box.cell d2
  replace X := X.trans x.box
  clear x
  go_wp2_with fail
  refine (HEC.out _ (HA.out.ext X)).mono ?_; rintro e w5 ⟨v5, rfl, o5, x5⟩
  obtain ⟨a5, c5, rfl, _, r5⟩ := o5.formN6 N HWL.out
  have RWD := Lib.hid r5
  replace h0 := x5.cell h0
  replace h1 := x5.cell h1
  replace h2 := x5.cell h2
  replace h3 := x5.cell h3
  replace h4 := x5.cell h4
  replace h5 := x5.cell h5
  replace d0 := x5.cell d0
  replace d1 := x5.cell d1
  replace d2 := x5.cell d2
  replace X := X.trans x5
  clear o5 r5 x5
  go_wp2_with fail
  refine (OCW.out _ _ _ RWD.out).mono ?_; rintro e w6 ⟨v6, rfl, o6, x6⟩
  obtain ⟨g, cg, hv6, hg, hcg, harr⟩ := o6.arr (by rw [HWL.out]; omega)
  rw [HWL.out] at hv6
  subst hv6
  have HARR := Lib.hid harr
  have HG := Lib.hid hg
  have X6 := Lib.hid x6
  have hcg2 : N ≤ cg := by rw [HWL.out] at hcg; exact hcg
  clear o6 hg hcg harr x6
  go_wp2_with fail
  go_loopw [76] (SpK WD P m N g cg w5) (fun i _ => P.length - (intOf i).toNat)
  case atStart => exact ⟨0, rfl, Nat.zero_le _, HARR.out, X6.out⟩
  case round =>
    obtain ⟨j, rfl, hj, harr2, hext⟩ := hrel
    replace h0 := hext.cell h0
    replace h1 := hext.cell h1
    replace h2 := hext.cell h2
    replace h3 := hext.cell h3
    replace h4 := hext.cell h4
    replace h5 := hext.cell h5
    replace d0 := hext.cell d0
    replace d1 := hext.cell d1
    replace d2 := hext.cell d2
    replace X := X.trans hext
    have RWD := Lib.hid (RWD.out.ext hext)
    have HX2 := Lib.hid hext
    have HARR2 := Lib.hid harr2
    clear hext harr2
    by_cases hlt : j < P.length
    · obtain ⟨gp, op, hpa, hcp⟩ := HP.out.at (by omega)
      subst hpa
      have cp := X.cell (hcp j hlt)
      obtain ⟨gb, ob, hbb, hcb⟩ := HB.out.at (by omega)
      subst hbb
      have cb := X.cell (hcb j (by omega))
      have E1 : Hid (spK WD P m N (j + 1) = (spK WD P m N j).set (P.getD j 0 % N) (m.getD j 0)) := Lib.hid rfl
      have hy256 := HPB.out j hlt
      obtain ⟨y, hy⟩ : ∃ y, y = P.getD j 0 := ⟨_, rfl⟩
      rw [← hy] at hy256
      obtain ⟨z, hz⟩ : ∃ z, z = m.getD j 0 := ⟨_, rfl⟩
      rw [← hy] at cp E1
      rw [← hz] at cb E1
      have hyN : y % N < N := Nat.mod_lt _ (by omega)
      have hsl : (spK WD P m N j).length = N := by rw [spK_len, HWL.out]
      have fz := HARR2.out.frozen (y % N)
      have ct := HARR2.out.at (i := y % N) (by rw [hsl]; exact hyN)
      obtain ⟨q, hq⟩ : ∃ q, q = y % N := ⟨_, rfl⟩
      have er : (y : Int).tmod n = (q : Int) := by rw [HNN.out, hq]; rfl
      have er2 : (wrap64 (y : Int)).tmod n = (q : Int) := by rw [show wrap64 (y : Int) = (y : Int) from by unfold wrap64; omega]; exact er
      rw [← hq] at fz ct hyN E1
      clear hcp hcb hy hz hq
      go_wp2_with fail
      refine region_factsL [[], [], [(1, 82)], [], [(3, 84)], [(2, 83), (4, 85)], [], [(6, 87)], [], [(7, 88), (8, 89)], [(9, 90)], [(0, 81), (5, 86)]] [some 81, some 82, some 83, some 84, some 85, some 86, some 87, some 88, some 89, some 90, some 91, some 92] [false, false, true, false, false, true, false, true, true, true, false, false, false, false, false, false, false, false, false, false, false, false, false, false, false, false, false, false, false, false, false, false, false, false, false, false, false, false, false, false, false, false, false, false, false, false, false, false, false, false, false, false, false, false, false, false, false, false, false, false, false, false, false, false, false, false, false, false, false, false, false, false, false, false, false, false, false, false, false, false, false, false, false, false, false, false, false, false, false, false, false, false, false, false, false, false, false, false, false, false, false, false, false, false, false, false, false, false, false, false, false, false, false, false, false, false, false, false, false, false, false, false, false, false, false, false, false, false, false, false, false, false, false, false, false, false, false, false, false, false, false, false, false, false, false, false, false, false, false] (by kernel_rfl) (by kernel_rfl) (by kernel_rfl) ?_
      dsimp only [maskL]
      with_reducible apply FromM.eq
      · intro w' hx; (try dsimp only [List.nil_append, List.cons_append, DepsL, DepsL1, setO, setN, favs, opsOf]); go_wp2; exact OpPostE.some _ rfl rfl (Ext.refl _) rfl
      with_reducible apply FromM.eq
      · intro w' hx; (try dsimp only [List.nil_append, List.cons_append, DepsL, DepsL1, setO, setN, favs, opsOf]); go_wp2; exact OpPostE.some _ rfl rfl (Ext.refl _) rfl
      with_reducible apply FromM.eq
      · intro w' hx; have d1x := hx.cell d1; have h4x := hx.cell h4; have cbx := hx.cell cb; (try dsimp only [List.nil_append, List.cons_append, DepsL, DepsL1, setO, setN, favs, opsOf]); go_wp2; exact OpPostE.some _ rfl rfl (Ext.refl _) rfl
      with_reducible apply FromM.eq
      · intro w' hx; (try dsimp only [List.nil_append, List.cons_append, DepsL, DepsL1, setO, setN, favs, opsOf]); go_wp2; exact OpPostE.some _ rfl rfl (Ext.refl _) rfl
      with_reducible apply FromM.eq
      · intro w' hx; have d1x := hx.cell d1; have h4x := hx.cell h4; have cbx := hx.cell cb; (try dsimp only [List.nil_append, List.cons_append, DepsL, DepsL1, setO, setN, favs, opsOf]); go_wp2; exact OpPostE.some _ rfl rfl (Ext.refl _) rfl
      with_reducible apply FromM.eq
      · intro w' hx; (try dsimp only [List.nil_append, List.cons_append, DepsL, DepsL1, setO, setN, favs, opsOf]); go_wp2; exact OpPostE.some _ rfl rfl (Ext.refl _) rfl
      with_reducible apply FromM.eq
      · intro w' hx; (try dsimp only [List.nil_append, List.cons_append, DepsL, DepsL1, setO, setN, favs, opsOf]); go_wp2; exact OpPostE.some _ rfl rfl (Ext.refl _) rfl
      with_reducible apply FromM.eq
      · intro w' hx; have d1x := hx.cell d1; have h4x := hx.cell h4; have cbx := hx.cell cb; (try dsimp only [List.nil_append, List.cons_append, DepsL, DepsL1, setO, setN, favs, opsOf]); go_wp2; exact OpPostE.some _ rfl rfl (Ext.refl _) rfl
      with_reducible apply FromM.eq
      · intro w' hx; (try dsimp only [List.nil_append, List.cons_append, DepsL, DepsL1, setO, setN, favs, opsOf]); go_wp2; exact OpPostE.some _ rfl rfl (Ext.refl _) rfl
      with_reducible apply FromM.eq
      · intro w' hx; (try dsimp only [List.nil_append, List.cons_append, DepsL, DepsL1, setO, setN, favs, opsOf]); go_wp2; exact OpPostE.some _ rfl rfl (Ext.refl _) rfl
      with_reducible apply FromM.eq
      · intro w' hx; have d1x := hx.cell d1; have h4x := hx.cell h4; have cbx := hx.cell cb; (try dsimp only [List.nil_append, List.cons_append, DepsL, DepsL1, setO, setN, favs, opsOf]); go_wp2; exact OpPostE.some _ rfl rfl (Ext.refl _) rfl
      with_reducible apply FromM.eq
      · intro w' hx; (try dsimp only [List.nil_append, List.cons_append, DepsL, DepsL1, setO, setN, favs, opsOf]); go_wp2; exact OpPostE.some _ rfl rfl (Ext.refl _) rfl
      with_reducible refine FromM.fin ?_
      intro w' hx
      (try dsimp only [List.nil_append, List.cons_append, EndL, DepsL1, setO, setN])
      have fz2 : w'.frozen? ⟨g, q, none⟩ = false := (HARR2.out.ext hx).frozen q
      have ct2 := hx.cell ct
      have S1 := (HARR2.out.ext hx).set q z (by rw [hsl]; exact hyN)
      rw [← E1.out] at S1
      have S1 := Lib.hid S1
      have XS := Lib.hid ((HX2.out.trans hx).setNew (p := ⟨g, q, none⟩) HG.out (.int .u64 (z : Int)))
      clear hx fz ct
      go_wp2_with fail
      go_roundw
      case rel => exact ⟨j + 1, by go_num, by omega, S1.out, XS.out⟩
      case measure => simp [intOf]; omega
    · obtain rfl : j = P.length := by omega
      obtain ⟨SP, hSP⟩ : ∃ SP, SP = spK WD P m N P.length := ⟨_, rfl⟩
      have hsl : SP.length = N := by rw [hSP, spK_len, HWL.out]
      rw [← hSP] at HARR2
      have HSPL := Lib.hid hsl
      have RSP := Lib.hid HARR2.out.rd
      have OCS : Hid (∀ w' (a : Option Addr) (c : Nat), Rd w' a SP → Calls Try.prog 16 #[.slice a N c] w' (SlPost w' SP)) := Lib.hid (fun w' a c h => by have q := own_c SP a c w' h (by omega); rw [hsl] at q; exact q)
      have RDC : Hid (∀ w' (a : Option Addr) (c : Nat), Rd w' a SP → Calls Try.prog 29 #[.int .u64 p, .slice a N c] w' (SlPost w' (SP.map (fred p)))) := Lib.hid (fun w' a c h => by have q := RReduced6_c p SP a c w' h (by omega); rw [hsl] at q; exact q)
      have NC2 := HNCC.out SP hsl
      rw [HNG.out SP hsl, hsl] at NC2
      have NF2 := HNF.out SP hsl
      have NS2 := HNS.out SP
      obtain ⟨RS, hRS⟩ : ∃ RS, RS = SP.map (fred p) := ⟨_, rfl⟩
      have hrl : RS.length = N := by rw [hRS, List.length_map, hsl]
      rw [← hRS] at RDC NF2 NS2
      have HRL := Lib.hid hrl
      have DCC : Hid (∀ (x : List Nat) (_ : x.length = N) w' (a b : Option Addr) (c d : Nat), Rd w' a x → Rd w' b RS → Calls Try.prog 25 #[.slice a N c, .slice b N d] w' fun e w'' => e = .returned (.int .i64 ((dist x RS : Nat) : Int)) ∧ Ext w' w'') := Lib.hid (fun x hx w' a b c d h1 h2 => by have q := RDistance_c x RS a b c d w' h1 h2 (by omega) (by omega); rw [hx, hrl] at q; exact q)
      clear hSP hRS HNCC HNG HNF HNS HARR2 hsl hrl
      obtain ⟨D, hD⟩ : ∃ D, D = dist WD RS := ⟨_, rfl⟩
      have DC0 : Hid (∀ w' (a b : Option Addr) (c d : Nat), Rd w' a WD → Rd w' b RS → Calls Try.prog 25 #[.slice a N c, .slice b N d] w' fun e w'' => e = .returned (.int .i64 (D : Int)) ∧ Ext w' w'') := Lib.hid (fun w' a b c d h1 h2 => by rw [hD]; exact DCC.out WD HWL.out w' a b c d h1 h2)
      rw [← hD] at NF2
      clear hD
      go_wp2_with fail
      refine region_factsL [[], [], [(1, 95)], [], [(2, 96), (3, 97)], [(0, 94), (4, 98)], [], [(6, 100)], [(5, 99), (7, 101)], [(8, 102)]] [some 94, some 95, some 96, some 97, some 98, some 99, some 100, some 101, some 102, some 10] [false, false, true, false, false, true, true, true, false, false, false, false, false, false, false, false, false, false, false, false, false, false, false, false, false, false, false, false, false, false, false, false, false, false, false, false, false, false, false, false, false, false, false, false, false, false, false, false, false, false, false, false, false, false, false, false, false, false, false, false, false, false, false, false, false, false, false, false, false, false, false, false, false, false, false, false, false, false, false, false, false, false, false, false, false, false, false, false, false, false, false, false, false, false, false, false, false, false, false, false, false, false, false, false, false, false, false, false, false, false, false, false, false, false, false, false, false, false, false, false, false, false, false, false, false, false, false, false, false, false, false, false, false, false, false, false, false, false, false, false, false, false, false, false, false, false, false, false, false] (by kernel_rfl) (by kernel_rfl) (by kernel_rfl) ?_
      dsimp only [maskL]
      with_reducible apply FromM.eq
      · intro w' hx; (try dsimp only [List.nil_append, List.cons_append, DepsL, DepsL1, setO, setN, favs, opsOf]); go_wp2; exact OpPostE.some _ rfl rfl (Ext.refl _) rfl
      with_reducible apply FromM.eq
      · intro w' hx; (try dsimp only [List.nil_append, List.cons_append, DepsL, DepsL1, setO, setN, favs, opsOf]); go_wp2; exact OpPostE.some _ rfl rfl (Ext.refl _) rfl
      with_reducible apply FromM.eq
      · intro w' hx; have d0x := hx.cell d0; have h5x := hx.cell h5; (try dsimp only [List.nil_append, List.cons_append, DepsL, DepsL1, setO, setN, favs, opsOf]); go_wp2; exact OpPostE.some _ rfl rfl (Ext.refl _) rfl
      with_reducible apply FromM.eq
      · intro w' hx; (try dsimp only [List.nil_append, List.cons_append, DepsL, DepsL1, setO, setN, favs, opsOf]); go_wp2; exact OpPostE.some _ rfl rfl (Ext.refl _) rfl
      refine FromM.step (OwnF w.heap.size RS) (OwnF.mono) ?_ ?_
      · intro w' hx; (try dsimp only [List.nil_append, List.cons_append, DepsL, DepsL1, setO, setN, favs, opsOf]); skip;
        refine op_call 29 [.tmp 96, .tmp 97] _ _ _ rfl rfl rfl rfl rfl rfl (fun _ _ => Try.call29 _ _) (RDC.out _ _ _ (RSP.out.ext hx)) (fun e w2 h_ => ?_); obtain ⟨v, rfl, ho, hn'⟩ := h_; exact ⟨_, rfl, hn', (ho.base (X.trans hx).size)⟩
      -- 5: t99
      with_reducible apply FromM.eq
      · intro w' hx; (try dsimp only [List.nil_append, List.cons_append, DepsL, DepsL1, setO, setN, favs, opsOf]); rintro v4 k4; obtain ⟨a4, c4, rfl, _, r4⟩ := Own.formN6 k4 N HRL.out; go_wp2_with (go_at_call 25; refine (DC0.out _ _ _ _ _ (RWD.out.ext hx) r4).mono ?_; rintro e w2 ⟨rfl, hb2⟩); exact OpPostE.some _ rfl rfl hb2 rfl
      with_reducible apply FromM.eq
      · intro w' hx; (try dsimp only [List.nil_append, List.cons_append, DepsL, DepsL1, setO, setN, favs, opsOf]); go_wp2; exact OpPostE.some _ rfl rfl (Ext.refl _) rfl
      with_reducible apply FromM.eq
      · intro w' hx; have d0x := hx.cell d0; have h5x := hx.cell h5; (try dsimp only [List.nil_append, List.cons_append, DepsL, DepsL1, setO, setN, favs, opsOf]); go_wp2; exact OpPostE.some _ rfl rfl (Ext.refl _) rfl
      with_reducible apply FromM.eq
      · intro w' hx; (try dsimp only [List.nil_append, List.cons_append, DepsL, DepsL1, setO, setN, favs, opsOf]); go_wp2; exact OpPostE.some _ rfl rfl (Ext.refl _) rfl
      with_reducible apply FromM.eq
      · intro w' hx; (try dsimp only [List.nil_append, List.cons_append, DepsL, DepsL1, setO, setN, favs, opsOf]); go_wp2; exact OpPostE.some _ rfl rfl (Ext.refl _) rfl
      with_reducible refine FromM.fin ?_
      intro w' hx
      (try dsimp only [List.nil_append, List.cons_append, EndL, DepsL1, setO, setN]); rintro v4 k4
      replace h0 := hx.cell h0
      replace h1 := hx.cell h1
      replace h2 := hx.cell h2
      replace h3 := hx.cell h3
      replace h4 := hx.cell h4
      replace h5 := hx.cell h5
      replace d0 := hx.cell d0
      replace d1 := hx.cell d1
      replace d2 := hx.cell d2
      replace X := X.trans hx
      have RWD := Lib.hid (RWD.out.ext hx)
      have RSP := Lib.hid (RSP.out.ext hx)
      clear hx k4
      obtain ⟨wq, hwq⟩ : ∃ q : World, q = w' := ⟨_, rfl⟩
      subst hwq
      by_cases hDe : (D : Int) ≤ e
      · rw [NF2 hDe] at NC2
        have HNC := Lib.hid NC2
        clear NC2 NF2 NS2
        go_wp2_with fail
        refine region_factsL [[], [(0, 104)], [], [(2, 106)], [], [(4, 108)], [(1, 105), (3, 107), (5, 109)], [(6, 110)], [(7, 103)], [(7, 103)], [(7, 103)], [(8, 111)], [(9, 112)], [(10, 113)]] [some 104, some 105, some 106, some 107, some 108, some 109, some 110, some 103, some 111, some 112, some 113, some 11, some 12, some 13] [false, false, true, false, false, true, false, true, false, false, false, false, false, false, false, false, false, false, false, false, false, false, false, false, false, false, false, false, false, false, false, false, false, false, false, false, false, false, false, false, false, false, false, false, false, false, false, false, false, false, false, false, false, false, false, false, false, false, false, false, false, false, false, false, false, false, false, false, false, false, false, false, false, false, false, false, false, false, false, false, false, false, false, false, false, false, false, false, false, false, false, false, false, false, false, false, false, false, false, false, false, false, false, false, false, false, false, false, false, false, false, false, false, false, false, false, false, false, false, false, false, false, false, false, false, false, false, false, false, false, false, false, false, false, false, false, false, false, false, false, false, false, false, false, false, false, false, false, false] (by kernel_rfl) (by kernel_rfl) (by kernel_rfl) ?_
        dsimp only [maskL]
        with_reducible apply FromM.eq
        · intro w' hx; have d0x := hx.cell d0; have d1x := hx.cell d1; have d2x := hx.cell d2; have h5x := hx.cell h5; (try dsimp only [List.nil_append, List.cons_append, DepsL, DepsL1, setO, setN, favs, opsOf]); go_wp2; exact OpPostE.some _ rfl rfl (Ext.refl _) rfl
        with_reducible apply FromM.eq
        · intro w' hx; (try dsimp only [List.nil_append, List.cons_append, DepsL, DepsL1, setO, setN, favs, opsOf]); refine op_call 15 [.tmp 104] _ _ _ rfl rfl rfl rfl rfl rfl (fun _ _ => Try.call15 _ _) (of_c p n k _) (fun e w2 h_ => ?_); obtain ⟨rfl, hb2⟩ := h_; exact ⟨_, rfl, hb2, rfl⟩
        with_reducible apply FromM.eq
        · intro w' hx; (try dsimp only [List.nil_append, List.cons_append, DepsL, DepsL1, setO, setN, favs, opsOf]); go_wp2; exact OpPostE.some _ rfl rfl (Ext.refl _) rfl
        refine FromM.step (OwnF w.heap.size SP) (OwnF.mono) ?_ ?_
        · intro w' hx; (try dsimp only [List.nil_append, List.cons_append, DepsL, DepsL1, setO, setN, favs, opsOf]); skip;
          refine op_call 16 [.tmp 106] _ _ _ rfl rfl rfl rfl rfl rfl (fun _ _ => Try.call16 _ _) (OCS.out _ _ _ (RSP.out.ext hx)) (fun e w2 h_ => ?_); obtain ⟨v, rfl, ho, hn'⟩ := h_; exact ⟨_, rfl, hn', (ho.base (X.trans hx).size)⟩
        with_reducible apply FromM.eq
        · intro w' hx; (try dsimp only [List.nil_append, List.cons_append, DepsL, DepsL1, setO, setN, favs, opsOf]); go_wp2; exact OpPostE.some _ rfl rfl (Ext.refl _) rfl
        with_reducible apply FromM.eq
        · intro w' hx; have d0x := hx.cell d0; have d1x := hx.cell d1; have d2x := hx.cell d2; have h5x := hx.cell h5; (try dsimp only [List.nil_append, List.cons_append, DepsL, DepsL1, setO, setN, favs, opsOf]); go_wp2; exact OpPostE.some _ rfl rfl (Ext.refl _) rfl
        refine FromM.step (N3F w.heap.size WD true 0) (N3F.mono) ?_ ?_
        · intro w' hx; (try dsimp only [List.nil_append, List.cons_append, DepsL, DepsL1, setO, setN, favs, opsOf]); rintro v3 k3; obtain ⟨a3, c3, rfl, _, r3⟩ := Own.formN6 k3 N HSPL.out;
          refine op_call 27 [.tmp 105, .tmp 107, .tmp 109] _ _ _ rfl rfl rfl rfl rfl rfl (fun _ _ => Try.call27 _ _) (HNC.out _ _ _ r3) (fun e w2 h_ => ?_); obtain ⟨v, rfl, ho, hn'⟩ := h_; exact ⟨_, rfl, hn', ⟨v, rfl, ho.base (X.trans hx).size⟩⟩
        refine FromM.step (N3F w.heap.size WD true 0) (N3F.mono) ?_ ?_
        · intro w' hx; (try dsimp only [List.nil_append, List.cons_append, DepsL, DepsL1, setO, setN, favs, opsOf]); rintro v6 k6; go_wp2; exact OpPostE.some _ rfl rfl (Ext.refl _) k6
        -- 8: t111
        refine FromM.step (OwnF w.heap.size WD) OwnF.mono ?_ ?_
        · intro w' hx; (try dsimp only [List.nil_append, List.cons_append, DepsL, DepsL1, setO, setN, favs, opsOf]); rintro v7_ h7_; obtain ⟨u, rfl, hu⟩ := h7_; go_wp2; exact OpPostE.some _ rfl rfl (Ext.refl _) hu
        -- 9: t112
        with_reducible apply FromM.eq
        · intro w' hx; (try dsimp only [List.nil_append, List.cons_append, DepsL, DepsL1, setO, setN, favs, opsOf]); rintro v7_ h7_; obtain ⟨u, rfl, hu⟩ := h7_; go_wp2; exact OpPostE.some _ rfl rfl (Ext.refl _) rfl
        -- 10: t113
        with_reducible apply FromM.eq
        · intro w' hx; (try dsimp only [List.nil_append, List.cons_append, DepsL, DepsL1, setO, setN, favs, opsOf]); rintro v7_ h7_; obtain ⟨u, rfl, hu⟩ := h7_; go_wp2; exact OpPostE.some _ rfl rfl (Ext.refl _) rfl
        -- 11: t11
        refine FromM.step (OwnF w.heap.size WD) OwnF.mono ?_ ?_
        · intro w' hx; (try dsimp only [List.nil_append, List.cons_append, DepsL, DepsL1, setO, setN, favs, opsOf]); rintro v8 k8; go_wp2; exact OpPostE.some _ rfl rfl (Ext.refl _) k8
        with_reducible apply FromM.eq
        · intro w' hx; (try dsimp only [List.nil_append, List.cons_append, DepsL, DepsL1, setO, setN, favs, opsOf]); go_wp2; exact OpPostE.some _ rfl rfl (Ext.refl _) rfl
        with_reducible apply FromM.eq
        · intro w' hx; (try dsimp only [List.nil_append, List.cons_append, DepsL, DepsL1, setO, setN, favs, opsOf]); go_wp2; exact OpPostE.some _ rfl rfl (Ext.refl _) rfl
        with_reducible refine FromM.fin ?_
        intro w' hx
        (try dsimp only [List.nil_append, List.cons_append, EndL, DepsL1, setO, setN]); rintro v3 k3 v6 k6 v7_ h7_ v8 k8 v11 k11
        obtain ⟨u5, rfl, _⟩ := k6
        obtain ⟨u6, rfl, _⟩ := h7_
        replace h0 := hx.cell h0
        replace h1 := hx.cell h1
        replace h2 := hx.cell h2
        replace h3 := hx.cell h3
        replace h4 := hx.cell h4
        replace h5 := hx.cell h5
        replace d0 := hx.cell d0
        replace d1 := hx.cell d1
        replace d2 := hx.cell d2
        replace X := X.trans hx
        have RWD := Lib.hid (RWD.out.ext hx)
        have RSP := Lib.hid (RSP.out.ext hx)
        clear hx k3 k8
        obtain ⟨u_a, u_c, hvv, _, r11⟩ := Own.formN6 k11 N HWL.out
        have R11 := Lib.hid r11
        subst hvv
        clear k11 r11
        go_wp2_with fail
        refine (same6 WD _ _ _ _ _ _ HWL.out R11.out RWD.out (by omega)).mono ?_; rintro e w8 ⟨rfl, x8⟩
        replace X := X.trans x8
        clear x8
        go_wp2_with fail
        go_ret
        exact ⟨rfl, X⟩
      · cases hnm : nearM p N K SP e with
        | none =>
          rw [hnm] at NC2
          have HNC := Lib.hid NC2
          clear NC2 NF2 NS2 hnm
          go_wp2_with fail
          refine region_factsL [[], [(0, 104)], [], [(2, 106)], [], [(4, 108)], [(1, 105), (3, 107), (5, 109)], [(6, 110)], [(7, 103)], [(7, 103)], [(7, 103)], [(8, 111)], [(9, 112)], [(10, 113)]] [some 104, some 105, some 106, some 107, some 108, some 109, some 110, some 103, some 111, some 112, some 113, some 11, some 12, some 13] [false, false, true, false, false, true, false, true, false, false, false, false, false, false, false, false, false, false, false, false, false, false, false, false, false, false, false, false, false, false, false, false, false, false, false, false, false, false, false, false, false, false, false, false, false, false, false, false, false, false, false, false, false, false, false, false, false, false, false, false, false, false, false, false, false, false, false, false, false, false, false, false, false, false, false, false, false, false, false, false, false, false, false, false, false, false, false, false, false, false, false, false, false, false, false, false, false, false, false, false, false, false, false, false, false, false, false, false, false, false, false, false, false, false, false, false, false, false, false, false, false, false, false, false, false, false, false, false, false, false, false, false, false, false, false, false, false, false, false, false, false, false, false, false, false, false, false, false, false] (by kernel_rfl) (by kernel_rfl) (by kernel_rfl) ?_
          dsimp only [maskL]
          with_reducible apply FromM.eq
          · intro w' hx; have d0x := hx.cell d0; have d1x := hx.cell d1; have d2x := hx.cell d2; have h5x := hx.cell h5; (try dsimp only [List.nil_append, List.cons_append, DepsL, DepsL1, setO, setN, favs, opsOf]); go_wp2; exact OpPostE.some _ rfl rfl (Ext.refl _) rfl
          with_reducible apply FromM.eq
          · intro w' hx; (try dsimp only [List.nil_append, List.cons_append, DepsL, DepsL1, setO, setN, favs, opsOf]); refine op_call 15 [.tmp 104] _ _ _ rfl rfl rfl rfl rfl rfl (fun _ _ => Try.call15 _ _) (of_c p n k _) (fun e w2 h_ => ?_); obtain ⟨rfl, hb2⟩ := h_; exact ⟨_, rfl, hb2, rfl⟩
          with_reducible apply FromM.eq
          · intro w' hx; (try dsimp only [List.nil_append, List.cons_append, DepsL, DepsL1, setO, setN, favs, opsOf]); go_wp2; exact OpPostE.some _ rfl rfl (Ext.refl _) rfl
          refine FromM.step (OwnF w.heap.size SP) (OwnF.mono) ?_ ?_
          · intro w' hx; (try dsimp only [List.nil_append, List.cons_append, DepsL, DepsL1, setO, setN, favs, opsOf]); skip;
            refine op_call 16 [.tmp 106] _ _ _ rfl rfl rfl rfl rfl rfl (fun _ _ => Try.call16 _ _) (OCS.out _ _ _ (RSP.out.ext hx)) (fun e w2 h_ => ?_); obtain ⟨v, rfl, ho, hn'⟩ := h_; exact ⟨_, rfl, hn', (ho.base (X.trans hx).size)⟩
          with_reducible apply FromM.eq
          · intro w' hx; (try dsimp only [List.nil_append, List.cons_append, DepsL, DepsL1, setO, setN, favs, opsOf]); go_wp2; exact OpPostE.some _ rfl rfl (Ext.refl _) rfl
          with_reducible apply FromM.eq
          · intro w' hx; have d0x := hx.cell d0; have d1x := hx.cell d1; have d2x := hx.cell d2; have h5x := hx.cell h5; (try dsimp only [List.nil_append, List.cons_append, DepsL, DepsL1, setO, setN, favs, opsOf]); go_wp2; exact OpPostE.some _ rfl rfl (Ext.refl _) rfl
          refine FromM.step (N3F w.heap.size [] false 0) (N3F.mono) ?_ ?_
          · intro w' hx; (try dsimp only [List.nil_append, List.cons_append, DepsL, DepsL1, setO, setN, favs, opsOf]); rintro v3 k3; obtain ⟨a3, c3, rfl, _, r3⟩ := Own.formN6 k3 N HSPL.out;
            refine op_call 27 [.tmp 105, .tmp 107, .tmp 109] _ _ _ rfl rfl rfl rfl rfl rfl (fun _ _ => Try.call27 _ _) (HNC.out _ _ _ r3) (fun e w2 h_ => ?_); obtain ⟨v, rfl, ho, hn'⟩ := h_; exact ⟨_, rfl, hn', ⟨v, rfl, ho.base (X.trans hx).size⟩⟩
          refine FromM.step (N3F w.heap.size [] false 0) (N3F.mono) ?_ ?_
          · intro w' hx; (try dsimp only [List.nil_append, List.cons_append, DepsL, DepsL1, setO, setN, favs, opsOf]); rintro v6 k6; go_wp2; exact OpPostE.some _ rfl rfl (Ext.refl _) k6
          -- 8: t111
          refine FromM.step (OwnF w.heap.size []) OwnF.mono ?_ ?_
          · intro w' hx; (try dsimp only [List.nil_append, List.cons_append, DepsL, DepsL1, setO, setN, favs, opsOf]); rintro v7_ h7_; obtain ⟨u, rfl, hu⟩ := h7_; go_wp2; exact OpPostE.some _ rfl rfl (Ext.refl _) hu
          -- 9: t112
          with_reducible apply FromM.eq
          · intro w' hx; (try dsimp only [List.nil_append, List.cons_append, DepsL, DepsL1, setO, setN, favs, opsOf]); rintro v7_ h7_; obtain ⟨u, rfl, hu⟩ := h7_; go_wp2; exact OpPostE.some _ rfl rfl (Ext.refl _) rfl
          -- 10: t113
          with_reducible apply FromM.eq
          · intro w' hx; (try dsimp only [List.nil_append, List.cons_append, DepsL, DepsL1, setO, setN, favs, opsOf]); rintro v7_ h7_; obtain ⟨u, rfl, hu⟩ := h7_; go_wp2; exact OpPostE.some _ rfl rfl (Ext.refl _) rfl
          -- 11: t11
          refine FromM.step (OwnF w.heap.size []) OwnF.mono ?_ ?_
          · intro w' hx; (try dsimp only [List.nil_append, List.cons_append, DepsL, DepsL1, setO, setN, favs, opsOf]); rintro v8 k8; go_wp2; exact OpPostE.some _ rfl rfl (Ext.refl _) k8
          with_reducible apply FromM.eq
          · intro w' hx; (try dsimp only [List.nil_append, List.cons_append, DepsL, DepsL1, setO, setN, favs, opsOf]); go_wp2; exact OpPostE.some _ rfl rfl (Ext.refl _) rfl
          with_reducible apply FromM.eq
          · intro w' hx; (try dsimp only [List.nil_append, List.cons_append, DepsL, DepsL1, setO, setN, favs, opsOf]); go_wp2; exact OpPostE.some _ rfl rfl (Ext.refl _) rfl
          with_reducible refine FromM.fin ?_
          intro w' hx
          (try dsimp only [List.nil_append, List.cons_append, EndL, DepsL1, setO, setN]); rintro v3 k3 v6 k6 v7_ h7_ v8 k8 v11 k11
          obtain ⟨u5, rfl, _⟩ := k6
          obtain ⟨u6, rfl, _⟩ := h7_
          replace h0 := hx.cell h0
          replace h1 := hx.cell h1
          replace h2 := hx.cell h2
          replace h3 := hx.cell h3
          replace h4 := hx.cell h4
          replace h5 := hx.cell h5
          replace d0 := hx.cell d0
          replace d1 := hx.cell d1
          replace d2 := hx.cell d2
          replace X := X.trans hx
          have RWD := Lib.hid (RWD.out.ext hx)
          have RSP := Lib.hid (RSP.out.ext hx)
          clear hx k3 k8
          obtain ⟨u_a, u_c, hvv, _, _⟩ := Own.formN6 k11 0 rfl
          subst hvv
          clear k11
          go_wp2_with fail
          refine region_factsL [[], [(0, 123)], [(1, 124)], [(2, 125)], [(3, 126), (2, 125)], [(4, 127), (2, 125)], [(2, 125), (5, 128)], [(6, 129)], [(7, 130)], [(8, 131), (7, 130)], [(9, 132)], [(9, 132)], [(10, 133), (11, 134), (9, 132)], [(9, 132), (12, 135), (7, 130)], [(13, 136), (7, 130)], [(14, 137)], [(14, 137)], [(16, 139), (14, 137)], [(14, 137)], [(17, 140), (18, 141), (14, 137)], [(15, 138), (19, 142), (14, 137)], [(14, 137)], [(21, 144), (14, 137)], [(20, 143), (22, 145), (14, 137)], [(14, 137), (23, 146), (7, 130)], [(7, 130), (24, 147)], [(25, 148)]] [some 123, some 124, some 125, some 126, some 127, some 128, some 129, some 130, some 131, some 132, some 133, some 134, some 135, some 136, some 137, some 138, some 139, some 140, some 141, some 142, some 143, some 144, some 145, some 146, some 147, some 148, some 4] [false, false, true, false, false, true, false, true, false, false, false, true, true, false, false, false, false, false, false, false, false, false, false, false, false, false, false, false, false, false, false, false, false, false, false, false, false, false, false, false, false, false, false, false, false, false, false, false, false, false, false, false, false, false, false, false, false, false, false, false, false, false, false, false, false, false, false, false, false, false, false, false, false, false, false, false, false, false, false, false, false, false, false, false, false, false, false, false, false, false, false, false, false, false, false, false, false, false, false, false, false, false, false, false, false, false, false, false, false, false, false, false, false, false, false, false, false, false, false, false, false, false, false, false, false, false, false, false, false, false, false, false, false, false, false, false, false, false, false, false, false, false, false, false, false, false, false, false, false] (by kernel_rfl) (by kernel_rfl) (by kernel_rfl) ?_
          dsimp only [maskL]
          with_reducible apply FromM.eq
          · intro w' hx; (try dsimp only [List.nil_append, List.cons_append, DepsL, DepsL1, setO, setN, favs, opsOf]); go_wp2; exact OpPostE.some _ rfl rfl (Ext.refl _) rfl
          with_reducible apply FromM.eq
          · intro w' hx; (try dsimp only [List.nil_append, List.cons_append, DepsL, DepsL1, setO, setN, favs, opsOf]); go_wp2; exact OpPostE.some _ rfl rfl (Ext.refl _) rfl
          with_reducible apply FromM.eq
          · intro w' hx; (try dsimp only [List.nil_append, List.cons_append, DepsL, DepsL1, setO, setN, favs, opsOf]); go_wp2; exact OpPostE.some _ rfl rfl (Ext.refl _) rfl
          with_reducible apply FromM.eq
          · intro w' hx; (try dsimp only [List.nil_append, List.cons_append, DepsL, DepsL1, setO, setN, favs, opsOf]); go_wp2; exact OpPostE.some _ rfl rfl (Ext.refl _) rfl
          with_reducible apply FromM.eq
          · intro w' hx; have d0x := hx.cell d0; have d1x := hx.cell d1; have d2x := hx.cell d2; have h5x := hx.cell h5; (try dsimp only [List.nil_append, List.cons_append, DepsL, DepsL1, setO, setN, favs, opsOf]); go_wp2; exact OpPostE.some _ rfl rfl (Ext.refl _) rfl
          with_reducible apply FromM.eq
          · intro w' hx; (try dsimp only [List.nil_append, List.cons_append, DepsL, DepsL1, setO, setN, favs, opsOf]); go_wp2; exact OpPostE.some _ rfl rfl (Ext.refl _) rfl
          with_reducible apply FromM.eq
          · intro w' hx; (try dsimp only [List.nil_append, List.cons_append, DepsL, DepsL1, setO, setN, favs, opsOf]); go_wp2; exact OpPostE.some _ rfl rfl (Ext.refl _) rfl
          with_reducible apply FromM.eq
          · intro w' hx; (try dsimp only [List.nil_append, List.cons_append, DepsL, DepsL1, setO, setN, favs, opsOf]); go_wp2; exact OpPostE.some _ rfl rfl (Ext.refl _) rfl
          with_reducible apply FromM.eq
          · intro w' hx; (try dsimp only [List.nil_append, List.cons_append, DepsL, DepsL1, setO, setN, favs, opsOf]); go_wp2; exact OpPostE.some _ rfl rfl (Ext.refl _) rfl
          with_reducible apply FromM.eq
          · intro w' hx; (try dsimp only [List.nil_append, List.cons_append, DepsL, DepsL1, setO, setN, favs, opsOf]); go_wp2; exact OpPostE.some _ rfl rfl (Ext.refl _) rfl
          with_reducible apply FromM.eq
          · intro w' hx; have d0x := hx.cell d0; have d1x := hx.cell d1; have d2x := hx.cell d2; have h5x := hx.cell h5; (try dsimp only [List.nil_append, List.cons_append, DepsL, DepsL1, setO, setN, favs, opsOf]); go_wp2; exact OpPostE.some _ rfl rfl (Ext.refl _) rfl
          with_reducible apply FromM.eq
          · intro w' hx; (try dsimp only [List.nil_append, List.cons_append, DepsL, DepsL1, setO, setN, favs, opsOf]); go_wp2; exact OpPostE.some _ rfl rfl (Ext.refl _) rfl
          -- 12: t135
          with_reducible apply FromM.eq
          · intro w' hx; (try dsimp only [List.nil_append, List.cons_append, DepsL, DepsL1, setO, setN, favs, opsOf]); go_wp2; exact OpPostE.some _ rfl rfl (Ext.refl _) rfl
          with_reducible apply FromM.eq
          · intro w' hx; (try dsimp only [List.nil_append, List.cons_append, DepsL, DepsL1, setO, setN, favs, opsOf]); go_wp2; exact OpPostE.some _ rfl rfl (Ext.refl _) rfl
          with_reducible apply FromM.eq
          · intro w' hx; (try dsimp only [List.nil_append, List.cons_append, DepsL, DepsL1, setO, setN, favs, opsOf]); go_wp2; exact OpPostE.some _ rfl rfl (Ext.refl _) rfl
          with_reducible apply FromM.eq
          · intro w' hx; (try dsimp only [List.nil_append, List.cons_append, DepsL, DepsL1, setO, setN, favs, opsOf]); go_wp2; exact OpPostE.some _ rfl rfl (Ext.refl _) rfl
          with_reducible apply FromM.eq
          · intro w' hx; (try dsimp only [List.nil_append, List.cons_append, DepsL, DepsL1, setO, setN, favs, opsOf]); go_wp2; exact OpPostE.some _ rfl rfl (Ext.refl _) rfl
          with_reducible apply FromM.eq
          · intro w' hx; have d0x := hx.cell d0; have d1x := hx.cell d1; have d2x := hx.cell d2; have h5x := hx.cell h5; (try dsimp only [List.nil_append, List.cons_append, DepsL, DepsL1, setO, setN, favs, opsOf]); go_wp2; exact OpPostE.some _ rfl rfl (Ext.refl _) rfl
          with_reducible apply FromM.eq
          · intro w' hx; (try dsimp only [List.nil_append, List.cons_append, DepsL, DepsL1, setO, setN, favs, opsOf]); go_wp2; exact OpPostE.some _ rfl rfl (Ext.refl _) rfl
          -- 19: t142
          with_reducible apply FromM.eq
          · intro w' hx; (try dsimp only [List.nil_append, List.cons_append, DepsL, DepsL1, setO, setN, favs, opsOf]); go_wp2; exact OpPostE.some _ rfl rfl (Ext.refl _) rfl
          -- 20: t143
          with_reducible apply FromM.eq
          · intro w' hx; (try dsimp only [List.nil_append, List.cons_append, DepsL, DepsL1, setO, setN, favs, opsOf]); go_wp2; exact OpPostE.some _ rfl rfl (Ext.refl _) rfl
          with_reducible apply FromM.eq
          · intro w' hx; (try dsimp only [List.nil_append, List.cons_append, DepsL, DepsL1, setO, setN, favs, opsOf]); go_wp2; exact OpPostE.some _ rfl rfl (Ext.refl _) rfl
          with_reducible apply FromM.eq
          · intro w' hx; have d0x := hx.cell d0; have d1x := hx.cell d1; have d2x := hx.cell d2; have h5x := hx.cell h5; (try dsimp only [List.nil_append, List.cons_append, DepsL, DepsL1, setO, setN, favs, opsOf]); go_wp2; exact OpPostE.some _ rfl rfl (Ext.refl _) rfl
          with_reducible apply FromM.eq
          · intro w' hx; (try dsimp only [List.nil_append, List.cons_append, DepsL, DepsL1, setO, setN, favs, opsOf]); go_wp2; exact OpPostE.some _ rfl rfl (Ext.refl _) rfl
          with_reducible apply FromM.eq
          · intro w' hx; (try dsimp only [List.nil_append, List.cons_append, DepsL, DepsL1, setO, setN, favs, opsOf]); go_wp2; exact OpPostE.some _ rfl rfl (Ext.refl _) rfl
          with_reducible apply FromM.eq
          · intro w' hx; (try dsimp only [List.nil_append, List.cons_append, DepsL, DepsL1, setO, setN, favs, opsOf]); go_wp2; exact OpPostE.some _ rfl rfl (Ext.refl _) rfl
          with_reducible apply FromM.eq
          · intro w' hx; (try dsimp only [List.nil_append, List.cons_append, DepsL, DepsL1, setO, setN, favs, opsOf]); go_wp2; exact OpPostE.some _ rfl rfl (Ext.refl _) rfl
          with_reducible refine FromM.fin ?_
          intro w' hx
          (try dsimp only [List.nil_append, List.cons_append, EndL, DepsL1, setO, setN])
          replace X := X.trans hx
          clear hx
          go_wp2_with fail
          go_ret
          exact ⟨rfl, X⟩
        | some Y =>
          rw [hnm] at NC2
          obtain ⟨ns1, ns2, ns3⟩ := NS2 Y hnm
          have HNC := Lib.hid NC2
          have HY := Lib.hid ns2
          have RCC : Hid (∀ w' (a : Option Addr) (c : Nat), Rd w' a Y → Calls Try.prog 30 #[.agg #[.int .u64 p, .int .i64 n, .int .i64 k], .slice a N c] w' fun e w'' => e = .returned (.bool true) ∧ Ext w' w'') := Lib.hid (fun w' a c h => by have q := RContains_c p n k Y a c w' h hn hn2; rw [ns1, ns2] at q; exact q)
          have DCY := Lib.hid (DCC.out Y ns2)
          obtain ⟨D2, hD2⟩ : ∃ D2, D2 = dist Y RS := ⟨_, rfl⟩
          rw [← hD2] at DCY ns3
          clear NC2 NF2 NS2 hnm ns1 ns2 hD2
          go_wp2_with fail
          refine region_factsL [[], [(0, 104)], [], [(2, 106)], [], [(4, 108)], [(1, 105), (3, 107), (5, 109)], [(6, 110)], [(7, 103)], [(7, 103)], [(7, 103)], [(8, 111)], [(9, 112)], [(10, 113)]] [some 104, some 105, some 106, some 107, some 108, some 109, some 110, some 103, some 111, some 112, some 113, some 11, some 12, some 13] [false, false, true, false, false, true, false, true, false, false, false, false, false, false, false, false, false, false, false, false, false, false, false, false, false, false, false, false, false, false, false, false, false, false, false, false, false, false, false, false, false, false, false, false, false, false, false, false, false, false, false, false, false, false, false, false, false, false, false, false, false, false, false, false, false, false, false, false, false, false, false, false, false, false, false, false, false, false, false, false, false, false, false, false, false, false, false, false, false, false, false, false, false, false, false, false, false, false, false, false, false, false, false, false, false, false, false, false, false, false, false, false, false, false, false, false, false, false, false, false, false, false, false, false, false, false, false, false, false, false, false, false, false, false, false, false, false, false, false, false, false, false, false, false, false, false, false, false, false] (by kernel_rfl) (by kernel_rfl) (by kernel_rfl) ?_
          dsimp only [maskL]
          with_reducible apply FromM.eq
          · intro w' hx; have d0x := hx.cell d0; have d1x := hx.cell d1; have d2x := hx.cell d2; have h5x := hx.cell h5; (try dsimp only [List.nil_append, List.cons_append, DepsL, DepsL1, setO, setN, favs, opsOf]); go_wp2; exact OpPostE.some _ rfl rfl (Ext.refl _) rfl
          with_reducible apply FromM.eq
          · intro w' hx; (try dsimp only [List.nil_append, List.cons_append, DepsL, DepsL1, setO, setN, favs, opsOf]); refine op_call 15 [.tmp 104] _ _ _ rfl rfl rfl rfl rfl rfl (fun _ _ => Try.call15 _ _) (of_c p n k _) (fun e w2 h_ => ?_); obtain ⟨rfl, hb2⟩ := h_; exact ⟨_, rfl, hb2, rfl⟩
          with_reducible apply FromM.eq
          · intro w' hx; (try dsimp only [List.nil_append, List.cons_append, DepsL, DepsL1, setO, setN, favs, opsOf]); go_wp2; exact OpPostE.some _ rfl rfl (Ext.refl _) rfl
          refine FromM.step (OwnF w.heap.size SP) (OwnF.mono) ?_ ?_
          · intro w' hx; (try dsimp only [List.nil_append, List.cons_append, DepsL, DepsL1, setO, setN, favs, opsOf]); skip;
            refine op_call 16 [.tmp 106] _ _ _ rfl rfl rfl rfl rfl rfl (fun _ _ => Try.call16 _ _) (OCS.out _ _ _ (RSP.out.ext hx)) (fun e w2 h_ => ?_); obtain ⟨v, rfl, ho, hn'⟩ := h_; exact ⟨_, rfl, hn', (ho.base (X.trans hx).size)⟩
          with_reducible apply FromM.eq
          · intro w' hx; (try dsimp only [List.nil_append, List.cons_append, DepsL, DepsL1, setO, setN, favs, opsOf]); go_wp2; exact OpPostE.some _ rfl rfl (Ext.refl _) rfl
          with_reducible apply FromM.eq
          · intro w' hx; have d0x := hx.cell d0; have d1x := hx.cell d1; have d2x := hx.cell d2; have h5x := hx.cell h5; (try dsimp only [List.nil_append, List.cons_append, DepsL, DepsL1, setO, setN, favs, opsOf]); go_wp2; exact OpPostE.some _ rfl rfl (Ext.refl _) rfl
          refine FromM.step (N3F w.heap.size Y true 0) (N3F.mono) ?_ ?_
          · intro w' hx; (try dsimp only [List.nil_append, List.cons_append, DepsL, DepsL1, setO, setN, favs, opsOf]); rintro v3 k3; obtain ⟨a3, c3, rfl, _, r3⟩ := Own.formN6 k3 N HSPL.out;
            refine op_call 27 [.tmp 105, .tmp 107, .tmp 109] _ _ _ rfl rfl rfl rfl rfl rfl (fun _ _ => Try.call27 _ _) (HNC.out _ _ _ r3) (fun e w2 h_ => ?_); obtain ⟨v, rfl, ho, hn'⟩ := h_; exact ⟨_, rfl, hn', ⟨v, rfl, ho.base (X.trans hx).size⟩⟩
          refine FromM.step (N3F w.heap.size Y true 0) (N3F.mono) ?_ ?_
          · intro w' hx; (try dsimp only [List.nil_append, List.cons_append, DepsL, DepsL1, setO, setN, favs, opsOf]); rintro v6 k6; go_wp2; exact OpPostE.some _ rfl rfl (Ext.refl _) k6
          -- 8: t111
          refine FromM.step (OwnF w.heap.size Y) OwnF.mono ?_ ?_
          · intro w' hx; (try dsimp only [List.nil_append, List.cons_append, DepsL, DepsL1, setO, setN, favs, opsOf]); rintro v7_ h7_; obtain ⟨u, rfl, hu⟩ := h7_; go_wp2; exact OpPostE.some _ rfl rfl (Ext.refl _) hu
          -- 9: t112
          with_reducible apply FromM.eq
          · intro w' hx; (try dsimp only [List.nil_append, List.cons_append, DepsL, DepsL1, setO, setN, favs, opsOf]); rintro v7_ h7_; obtain ⟨u, rfl, hu⟩ := h7_; go_wp2; exact OpPostE.some _ rfl rfl (Ext.refl _) rfl
          -- 10: t113
          with_reducible apply FromM.eq
          · intro w' hx; (try dsimp only [List.nil_append, List.cons_append, DepsL, DepsL1, setO, setN, favs, opsOf]); rintro v7_ h7_; obtain ⟨u, rfl, hu⟩ := h7_; go_wp2; exact OpPostE.some _ rfl rfl (Ext.refl _) rfl
          -- 11: t11
          refine FromM.step (OwnF w.heap.size Y) OwnF.mono ?_ ?_
          · intro w' hx; (try dsimp only [List.nil_append, List.cons_append, DepsL, DepsL1, setO, setN, favs, opsOf]); rintro v8 k8; go_wp2; exact OpPostE.some _ rfl rfl (Ext.refl _) k8
          with_reducible apply FromM.eq
          · intro w' hx; (try dsimp only [List.nil_append, List.cons_append, DepsL, DepsL1, setO, setN, favs, opsOf]); go_wp2; exact OpPostE.some _ rfl rfl (Ext.refl _) rfl
          with_reducible apply FromM.eq
          · intro w' hx; (try dsimp only [List.nil_append, List.cons_append, DepsL, DepsL1, setO, setN, favs, opsOf]); go_wp2; exact OpPostE.some _ rfl rfl (Ext.refl _) rfl
          with_reducible refine FromM.fin ?_
          intro w' hx
          (try dsimp only [List.nil_append, List.cons_append, EndL, DepsL1, setO, setN]); rintro v3 k3 v6 k6 v7_ h7_ v8 k8 v11 k11
          obtain ⟨u5, rfl, _⟩ := k6
          obtain ⟨u6, rfl, _⟩ := h7_
          replace h0 := hx.cell h0
          replace h1 := hx.cell h1
          replace h2 := hx.cell h2
          replace h3 := hx.cell h3
          replace h4 := hx.cell h4
          replace h5 := hx.cell h5
          replace d0 := hx.cell d0
          replace d1 := hx.cell d1
          replace d2 := hx.cell d2
          replace X := X.trans hx
          have RWD := Lib.hid (RWD.out.ext hx)
          have RSP := Lib.hid (RSP.out.ext hx)
          clear hx k3 k8
          obtain ⟨u_a, u_c, hvv, _, r11⟩ := Own.formN6 k11 N HY.out
          have R11 := Lib.hid r11
          subst hvv
          clear k11 r11
          go_wp2_with fail
          refine region_factsL [[], [(0, 123)], [(1, 124)], [(2, 125)], [(3, 126), (2, 125)], [(4, 127), (2, 125)], [(2, 125), (5, 128)], [(6, 129)], [(7, 130)], [(8, 131), (7, 130)], [(9, 132)], [(9, 132)], [(10, 133), (11, 134), (9, 132)], [(9, 132), (12, 135), (7, 130)], [(13, 136), (7, 130)], [(14, 137)], [(14, 137)], [(16, 139), (14, 137)], [(14, 137)], [(17, 140), (18, 141), (14, 137)], [(15, 138), (19, 142), (14, 137)], [(14, 137)], [(21, 144), (14, 137)], [(20, 143), (22, 145), (14, 137)], [(14, 137), (23, 146), (7, 130)], [(7, 130), (24, 147)], [(25, 148)]] [some 123, some 124, some 125, some 126, some 127, some 128, some 129, some 130, some 131, some 132, some 133, some 134, some 135, some 136, some 137, some 138, some 139, some 140, some 141, some 142, some 143, some 144, some 145, some 146, some 147, some 148, some 4] [false, false, true, false, false, true, false, true, false, false, false, true, true, false, false, false, false, false, false, false, false, false, false, false, false, false, false, false, false, false, false, false, false, false, false, false, false, false, false, false, false, false, false, false, false, false, false, false, false, false, false, false, false, false, false, false, false, false, false, false, false, false, false, false, false, false, false, false, false, false, false, false, false, false, false, false, false, false, false, false, false, false, false, false, false, false, false, false, false, false, false, false, false, false, false, false, false, false, false, false, false, false, false, false, false, false, false, false, false, false, false, false, false, false, false, false, false, false, false, false, false, false, false, false, false, false, false, false, false, false, false, false, false, false, false, false, false, false, false, false, false, false, false, false, false, false, false, false, false] (by kernel_rfl) (by kernel_rfl) (by kernel_rfl) ?_
          dsimp only [maskL]
          with_reducible apply FromM.eq
          · intro w' hx; (try dsimp only [List.nil_append, List.cons_append, DepsL, DepsL1, setO, setN, favs, opsOf]); go_wp2; exact OpPostE.some _ rfl rfl (Ext.refl _) rfl
          with_reducible apply FromM.eq
          · intro w' hx; (try dsimp only [List.nil_append, List.cons_append, DepsL, DepsL1, setO, setN, favs, opsOf]); go_wp2; exact OpPostE.some _ rfl rfl (Ext.refl _) rfl
          with_reducible apply FromM.eq
          · intro w' hx; (try dsimp only [List.nil_append, List.cons_append, DepsL, DepsL1, setO, setN, favs, opsOf]); go_wp2; exact OpPostE.some _ rfl rfl (Ext.refl _) rfl
          with_reducible apply FromM.eq
          · intro w' hx; (try dsimp only [List.nil_append, List.cons_append, DepsL, DepsL1, setO, setN, favs, opsOf]); go_wp2; exact OpPostE.some _ rfl rfl (Ext.refl _) rfl
          with_reducible apply FromM.eq
          · intro w' hx; have d0x := hx.cell d0; have d1x := hx.cell d1; have d2x := hx.cell d2; have h5x := hx.cell h5; (try dsimp only [List.nil_append, List.cons_append, DepsL, DepsL1, setO, setN, favs, opsOf]); go_wp2; exact OpPostE.some _ rfl rfl (Ext.refl _) rfl
          with_reducible apply FromM.eq
          · intro w' hx; (try dsimp only [List.nil_append, List.cons_append, DepsL, DepsL1, setO, setN, favs, opsOf]); go_wp2; exact OpPostE.some _ rfl rfl (Ext.refl _) rfl
          with_reducible apply FromM.eq
          · intro w' hx; (try dsimp only [List.nil_append, List.cons_append, DepsL, DepsL1, setO, setN, favs, opsOf]); go_wp2; exact OpPostE.some _ rfl rfl (Ext.refl _) rfl
          with_reducible apply FromM.eq
          · intro w' hx; (try dsimp only [List.nil_append, List.cons_append, DepsL, DepsL1, setO, setN, favs, opsOf]); go_wp2; exact OpPostE.some _ rfl rfl (Ext.refl _) rfl
          with_reducible apply FromM.eq
          · intro w' hx; (try dsimp only [List.nil_append, List.cons_append, DepsL, DepsL1, setO, setN, favs, opsOf]); go_wp2; exact OpPostE.some _ rfl rfl (Ext.refl _) rfl
          with_reducible apply FromM.eq
          · intro w' hx; (try dsimp only [List.nil_append, List.cons_append, DepsL, DepsL1, setO, setN, favs, opsOf]); go_wp2; exact OpPostE.some _ rfl rfl (Ext.refl _) rfl
          with_reducible apply FromM.eq
          · intro w' hx; have d0x := hx.cell d0; have d1x := hx.cell d1; have d2x := hx.cell d2; have h5x := hx.cell h5; (try dsimp only [List.nil_append, List.cons_append, DepsL, DepsL1, setO, setN, favs, opsOf]); go_wp2; exact OpPostE.some _ rfl rfl (Ext.refl _) rfl
          with_reducible apply FromM.eq
          · intro w' hx; (try dsimp only [List.nil_append, List.cons_append, DepsL, DepsL1, setO, setN, favs, opsOf]); go_wp2; exact OpPostE.some _ rfl rfl (Ext.refl _) rfl
          with_reducible apply FromM.eq
          · intro w' hx; (try dsimp only [List.nil_append, List.cons_append, DepsL, DepsL1, setO, setN, favs, opsOf]); go_wp2_with (go_at_call 30; refine (RCC.out _ _ _ (R11.out.ext hx)).mono ?_; rintro e w2 ⟨rfl, hb2⟩); exact OpPostE.some _ rfl rfl hb2 rfl
          with_reducible apply FromM.eq
          · intro w' hx; (try dsimp only [List.nil_append, List.cons_append, DepsL, DepsL1, setO, setN, favs, opsOf]); go_wp2; exact OpPostE.some _ rfl rfl (Ext.refl _) rfl
          with_reducible apply FromM.eq
          · intro w' hx; (try dsimp only [List.nil_append, List.cons_append, DepsL, DepsL1, setO, setN, favs, opsOf]); go_wp2; exact OpPostE.some _ rfl rfl (Ext.refl _) rfl
          with_reducible apply FromM.eq
          · intro w' hx; (try dsimp only [List.nil_append, List.cons_append, DepsL, DepsL1, setO, setN, favs, opsOf]); go_wp2; exact OpPostE.some _ rfl rfl (Ext.refl _) rfl
          with_reducible apply FromM.eq
          · intro w' hx; (try dsimp only [List.nil_append, List.cons_append, DepsL, DepsL1, setO, setN, favs, opsOf]); go_wp2; exact OpPostE.some _ rfl rfl (Ext.refl _) rfl
          with_reducible apply FromM.eq
          · intro w' hx; have d0x := hx.cell d0; have d1x := hx.cell d1; have d2x := hx.cell d2; have h5x := hx.cell h5; (try dsimp only [List.nil_append, List.cons_append, DepsL, DepsL1, setO, setN, favs, opsOf]); go_wp2; exact OpPostE.some _ rfl rfl (Ext.refl _) rfl
          with_reducible apply FromM.eq
          · intro w' hx; (try dsimp only [List.nil_append, List.cons_append, DepsL, DepsL1, setO, setN, favs, opsOf]); go_wp2; exact OpPostE.some _ rfl rfl (Ext.refl _) rfl
          refine FromM.step (OwnF w.heap.size RS) (OwnF.mono) ?_ ?_
          · intro w' hx; (try dsimp only [List.nil_append, List.cons_append, DepsL, DepsL1, setO, setN, favs, opsOf]); skip;
            go_wp2_with (go_at_call 29; refine (RDC.out _ _ _ (RSP.out.ext hx)).mono ?_; rintro e w2 ⟨v, rfl, ho, hn'⟩); exact OpPostE.some _ rfl rfl hn' (ho.base (X.trans hx).size)
          -- 20: t143
          with_reducible apply FromM.eq
          · intro w' hx; (try dsimp only [List.nil_append, List.cons_append, DepsL, DepsL1, setO, setN, favs, opsOf]); rintro v19 k19; obtain ⟨a4, c4, rfl, _, r4⟩ := Own.formN6 k19 N HRL.out; go_wp2_with (go_at_call 25; refine (DCY.out _ _ _ _ _ (R11.out.ext hx) r4).mono ?_; rintro e w2 ⟨rfl, hb2⟩); exact OpPostE.some _ rfl rfl hb2 rfl
          with_reducible apply FromM.eq
          · intro w' hx; (try dsimp only [List.nil_append, List.cons_append, DepsL, DepsL1, setO, setN, favs, opsOf]); go_wp2; exact OpPostE.some _ rfl rfl (Ext.refl _) rfl
          with_reducible apply FromM.eq
          · intro w' hx; have d0x := hx.cell d0; have d1x := hx.cell d1; have d2x := hx.cell d2; have h5x := hx.cell h5; (try dsimp only [List.nil_append, List.cons_append, DepsL, DepsL1, setO, setN, favs, opsOf]); go_wp2; exact OpPostE.some _ rfl rfl (Ext.refl _) rfl
          with_reducible apply FromM.eq
          · intro w' hx; (try dsimp only [List.nil_append, List.cons_append, DepsL, DepsL1, setO, setN, favs, opsOf]); go_wp2; exact OpPostE.some _ rfl rfl (Ext.refl _) rfl
          with_reducible apply FromM.eq
          · intro w' hx; (try dsimp only [List.nil_append, List.cons_append, DepsL, DepsL1, setO, setN, favs, opsOf]); go_wp2; exact OpPostE.some _ rfl rfl (Ext.refl _) rfl
          with_reducible apply FromM.eq
          · intro w' hx; (try dsimp only [List.nil_append, List.cons_append, DepsL, DepsL1, setO, setN, favs, opsOf]); go_wp2; exact OpPostE.some _ rfl rfl (Ext.refl _) rfl
          with_reducible apply FromM.eq
          · intro w' hx; (try dsimp only [List.nil_append, List.cons_append, DepsL, DepsL1, setO, setN, favs, opsOf]); go_wp2; exact OpPostE.some _ rfl rfl (Ext.refl _) rfl
          with_reducible refine FromM.fin ?_
          intro w' hx
          (try dsimp only [List.nil_append, List.cons_append, EndL, DepsL1, setO, setN]); rintro v19 k19
          replace X := X.trans hx
          clear hx k19
          go_wp2_with fail
          go_ret
          exact ⟨rfl, X⟩
end Go.Proofs.Ytgnngifnoaagjaa
