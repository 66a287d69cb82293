/- Walk of CodeTogether. -/
import Derived.Test.YtgnngifnoaagjaaCL3
import Derived.Test.YtgnngifnoaagjaaCd15
import Derived.Test.YtgnngifnoaagjaaOpu
import Derived.Test.YtgnngifnoaagjaaGX
namespace Go.Proofs.Ytgnngifnoaagjaa
open Go.RowKit
theorem short3 (p : Nat) (n k : Int) (a b v : Option Addr) (m c m2 c2 m3 c3 : Nat) (r : Bool) (hb : shB p n k [(a, m, c), (b, m2, c2), (v, m3, c3)] = r) (hn : n ≤ 9223372036854775807) (hn2 : -9223372036854775808 ≤ n) (w : World) (g : Nat) (hc : w.cell? ⟨g, 0, none⟩ = some (.slice a m c)) (hc2 : w.cell? ⟨g, 1, none⟩ = some (.slice b m2 c2)) (hc3 : w.cell? ⟨g, 2, none⟩ = some (.slice v m3 c3)) :
    Calls Try.prog 13 #[.agg #[.int .u64 p, .int .i64 n, .int .i64 k], .slice (some ⟨g, 0, none⟩) 3 3] w fun e w' => e = .returned (.bool r) ∧ Ext w w' := by
  subst hb
  exact short_c p n k [(a, m, c), (b, m2, c2), (v, m3, c3)] _ 3 w (.inr ⟨g, 0, rfl, fun i hi => by
    have : i = 0 ∨ i = 1 ∨ i = 2 := by simp at hi; omega
    rcases this with rfl | rfl | rfl
    · exact hc
    · exact hc2
    · exact hc3⟩) (by simp) hn hn2
theorem sh3_len {p : Nat} {n k : Int} {a b v : Option Addr} {m c m2 c2 m3 c3 : Nat} (h : shB p n k [(a, m, c), (b, m2, c2), (v, m3, c3)] = true) : m ≤ 300 ∧ m2 ≤ 300 ∧ m3 ≤ 300 := by
  unfold shB shL at h
  rw [Bool.and_eq_true] at h
  exact ⟨of_decide_eq_true h.1 0 (by simp), of_decide_eq_true h.1 1 (by simp), of_decide_eq_true h.1 2 (by simp)⟩
/-- The word, changed at the first j places; t: which of two values. -/
def spT (W P V : List Nat) (N t : Nat) : Nat → List Nat
  | 0 => W
  | j + 1 => (spT W P V N t j).set (P.getD j 0 % N) (V.getD (2 * j + t) 0)
theorem spT_len (W P V : List Nat) (N t : Nat) : ∀ j, (spT W P V N t j).length = W.length
  | 0 => rfl
  | j + 1 => by show ((spT W P V N t j).set _ _).length = _; rw [List.length_set, spT_len W P V N t j]
def bdK (P : List Nat) (N : Nat) : Nat → List Nat
  | 0 => []
  | j + 1 => ins (bdK P N j) (P.getD j 0 % N)
theorem bdK_len (P : List Nat) (N : Nat) : ∀ j, (bdK P N j).length ≤ j
  | 0 => Nat.le_refl _
  | j + 1 => by
    have := bdK_len P N j
    show (ins _ _).length ≤ _
    unfold ins
    split
    · omega
    · simp; omega
theorem bdK_mem {P : List Nat} {N x : Nat} {j : Nat} (h : x ∉ bdK P N (j + 1)) : x ∉ bdK P N j ∧ x ≠ P.getD j 0 % N := by
  have h2 : x ∉ ins (bdK P N j) (P.getD j 0 % N) := h
  unfold ins at h2
  split at h2
  · rename_i hm
    exact ⟨h2, fun e => h2 (e ▸ hm)⟩
  · simp at h2; exact h2
theorem spT_out {W P V : List Nat} {N t x : Nat} : ∀ {j : Nat}, x ∉ bdK P N j → (spT W P V N t j).getD x 0 = W.getD x 0
  | 0, _ => rfl
  | j + 1, h => by
    obtain ⟨h1, h2⟩ := bdK_mem h
    show ((spT W P V N t j).set _ _).getD x 0 = _
    rw [List.getD_eq_getElem?_getD, List.getElem?_set_ne (fun e => h2 e.symm), ← List.getD_eq_getElem?_getD]
    exact spT_out h1
def TgRel (WA WB P V : List Nat) (N ga ca gb cb gm : Nat) (w1 : World) (s : Value) (wr : World) : Prop :=
  ∃ j : Nat, s = .int .i64 j ∧ j ≤ P.length ∧ Arr wr ga (spT WA P V N 0 j) ca ∧ Arr wr gb (spT WB P V N 1 j) cb ∧ MapS wr gm (bdK P N j) ∧ Ext w1 wr

set_option maxRecDepth 100000 in
set_option maxHeartbeats 16000000 in
theorem CodeTogether_w (p : Nat) (n k e : Int) (l m P V : List Nat) (a b pa va : Option Addr) (c f pc vc : Nat) (w : World) (ha : Rd w a l) (hb : Rd w b m) (hP : RdB w pa P) (hPb : ∀ i, i < P.length → P.getD i 0 < 256) (hV : Rd w va V) (hn : n ≤ 9223372036854775807) (hn2 : -9223372036854775808 ≤ n) (he : e ≤ 9223372036854775807) (he2 : -9223372036854775808 ≤ e) (hl : l.length ≤ 9223372036854775807) (hm : m.length ≤ 9223372036854775807) (hPl : P.length ≤ 140737488355328) (hVl : V.length ≤ 9223372036854775807) :
    Calls Try.prog 11 #[.agg #[.int .u64 p, .int .i64 n, .int .i64 k, .slice a l.length c, .slice b m.length f, .int .i64 e], .slice pa P.length pc, .slice va V.length vc] w fun e w' => e = .returned (.bool true) ∧ Ext w w' := by
  have HA := Lib.hid ha
  have HB := Lib.hid hb
  have HP := Lib.hid hP
  have HPB := Lib.hid hPb
  have HVV := Lib.hid hV
  clear ha hb hP hPb hV
  have h0 : (w.alloc (.cells #[.int .u64 p, .int .i64 n, .int .i64 k, .slice a l.length c, .slice b m.length f, .int .i64 e] 45)).cell? ⟨w.heap.size, 0, none⟩ = some (.int .u64 p) := by simp
  have h1 : (w.alloc (.cells #[.int .u64 p, .int .i64 n, .int .i64 k, .slice a l.length c, .slice b m.length f, .int .i64 e] 45)).cell? ⟨w.heap.size, 1, none⟩ = some (.int .i64 n) := by simp
  have h2 : (w.alloc (.cells #[.int .u64 p, .int .i64 n, .int .i64 k, .slice a l.length c, .slice b m.length f, .int .i64 e] 45)).cell? ⟨w.heap.size, 2, none⟩ = some (.int .i64 k) := by simp
  have h3 : (w.alloc (.cells #[.int .u64 p, .int .i64 n, .int .i64 k, .slice a l.length c, .slice b m.length f, .int .i64 e] 45)).cell? ⟨w.heap.size, 3, none⟩ = some (.slice a l.length c) := by simp
  have h4 : (w.alloc (.cells #[.int .u64 p, .int .i64 n, .int .i64 k, .slice a l.length c, .slice b m.length f, .int .i64 e] 45)).cell? ⟨w.heap.size, 4, none⟩ = some (.slice b m.length f) := by simp
  have h5 : (w.alloc (.cells #[.int .u64 p, .int .i64 n, .int .i64 k, .slice a l.length c, .slice b m.length f, .int .i64 e] 45)).cell? ⟨w.heap.size, 5, none⟩ = some (.int .i64 e) := by simp
  have RVC := fun w' => RCValid_c p n k w' hn hn2
  cases hc : cval p n k
  case false =>
    rw [hc] at RVC
    have HRVC := Lib.hid RVC
    clear RVC hc
    go_enter Try.func11, Try.ntmps11
    go_wp2_with fail
    refine (awake6_c _).mono ?_; rintro e w1 ⟨rfl, x0⟩
    replace h0 := x0.cell h0
    replace h1 := x0.cell h1
    replace h2 := x0.cell h2
    replace h3 := x0.cell h3
    replace h4 := x0.cell h4
    replace h5 := x0.cell h5
    have X := x0.box
    clear x0
    go_wp2_with fail
    refine (HRVC.out _).mono ?_; rintro e w3 ⟨rfl, x⟩
    have d0 : w3.cell? ⟨w1.heap.size, 0, none⟩ = some (.int .u64 p) := x.cell (by simp)
    have d1 : w3.cell? ⟨w1.heap.size, 1, none⟩ = some (.int .i64 n) := x.cell (by simp)
    have d2 : w3.cell? ⟨w1.heap.size, 2, none⟩ = some (.int .i64 k) := x.cell (by simp)
    replace h0 := x.box.cell h0
    replace h1 := x.box.cell h1
    replace h2 := x.box.cell h2
    replace h3 := x.box.cell h3
    replace h4 := x.box.cell h4
    replace h5 := x.box.cell h5
    replace X := X.trans x.box
    clear x
    go_wp2_with fail
    go_ret
    exact ⟨rfl, X⟩
  rw [hc] at RVC
  have HRVC := Lib.hid RVC
  clear RVC
  obtain ⟨hb1, hb2, hb3, hb4, hb5, hb6, hb7⟩ := (cval_iff p n k).1 hc
  have HC := Lib.hid hc
  have HV := Lib.hid hb1
  clear hc hb1 hb4
  by_cases hp : p ≤ 257
  case neg =>
    have t0'' : decide (257 < p) = true := decide_eq_true (by omega)
    have t03 : decide ((257 : Int) < (p : Int)) = true := decide_eq_true (by omega)
    go_enter Try.func11, Try.ntmps11
    go_wp2_with fail
    refine (awake6_c _).mono ?_; rintro e w1 ⟨rfl, x0⟩
    replace h0 := x0.cell h0
    replace h1 := x0.cell h1
    replace h2 := x0.cell h2
    replace h3 := x0.cell h3
    replace h4 := x0.cell h4
    replace h5 := x0.cell h5
    have X := x0.box
    clear x0
    go_wp2_with fail
    refine (HRVC.out _).mono ?_; rintro e w3 ⟨rfl, x⟩
    have d0 : w3.cell? ⟨w1.heap.size, 0, none⟩ = some (.int .u64 p) := x.cell (by simp)
    have d1 : w3.cell? ⟨w1.heap.size, 1, none⟩ = some (.int .i64 n) := x.cell (by simp)
    have d2 : w3.cell? ⟨w1.heap.size, 2, none⟩ = some (.int .i64 k) := x.cell (by simp)
    replace h0 := x.box.cell h0
    replace h1 := x.box.cell h1
    replace h2 := x.box.cell h2
    replace h3 := x.box.cell h3
    replace h4 := x.box.cell h4
    replace h5 := x.box.cell h5
    replace X := X.trans x.box
    clear x
    go_wp2_with fail
    go_ret
    exact ⟨rfl, X⟩
  have t0'' : decide (257 < p) = false := decide_eq_false (by omega)
  have t03 : decide ((257 : Int) < (p : Int)) = false := decide_eq_false (by omega)
  by_cases hn32 : n ≤ 32
  case neg =>
    go_enter Try.func11, Try.ntmps11
    go_wp2_with fail
    refine (awake6_c _).mono ?_; rintro e w1 ⟨rfl, x0⟩
    replace h0 := x0.cell h0
    replace h1 := x0.cell h1
    replace h2 := x0.cell h2
    replace h3 := x0.cell h3
    replace h4 := x0.cell h4
    replace h5 := x0.cell h5
    have X := x0.box
    clear x0
    go_wp2_with fail
    refine (HRVC.out _).mono ?_; rintro e w3 ⟨rfl, x⟩
    have d0 : w3.cell? ⟨w1.heap.size, 0, none⟩ = some (.int .u64 p) := x.cell (by simp)
    have d1 : w3.cell? ⟨w1.heap.size, 1, none⟩ = some (.int .i64 n) := x.cell (by simp)
    have d2 : w3.cell? ⟨w1.heap.size, 2, none⟩ = some (.int .i64 k) := x.cell (by simp)
    replace h0 := x.box.cell h0
    replace h1 := x.box.cell h1
    replace h2 := x.box.cell h2
    replace h3 := x.box.cell h3
    replace h4 := x.box.cell h4
    replace h5 := x.box.cell h5
    replace X := X.trans x.box
    clear x
    go_wp2_with fail
    go_ret
    exact ⟨rfl, X⟩
  have t04 : decide (32 < n) = false := decide_eq_false (by omega)
  cases hs : shB p n k [(a, l.length, c), (b, m.length, f), (va, V.length, vc)]
  case false =>
    have SC := Lib.hid (short3 p n k a b va l.length c m.length f V.length vc false hs hn hn2)
    clear hs
    go_enter Try.func11, Try.ntmps11
    go_wp2_with fail
    refine (awake6_c _).mono ?_; rintro e w1 ⟨rfl, x0⟩
    replace h0 := x0.cell h0
    replace h1 := x0.cell h1
    replace h2 := x0.cell h2
    replace h3 := x0.cell h3
    replace h4 := x0.cell h4
    replace h5 := x0.cell h5
    have X := x0.box
    clear x0
    go_wp2_with fail
    refine (HRVC.out _).mono ?_; rintro e w3 ⟨rfl, x⟩
    have d0 : w3.cell? ⟨w1.heap.size, 0, none⟩ = some (.int .u64 p) := x.cell (by simp)
    have d1 : w3.cell? ⟨w1.heap.size, 1, none⟩ = some (.int .i64 n) := x.cell (by simp)
    have d2 : w3.cell? ⟨w1.heap.size, 2, none⟩ = some (.int .i64 k) := x.cell (by simp)
    replace h0 := x.box.cell h0
    replace h1 := x.box.cell h1
    replace h2 := x.box.cell h2
    replace h3 := x.box.cell h3
    replace h4 := x.box.cell h4
    replace h5 := x.box.cell h5
    replace X := X.trans x.box
    clear x
    go_wp2_with fail
    refine (SC.out _ _ (by simp) (by simp) (by simp)).mono ?_; rintro e w4 ⟨rfl, x⟩
    replace h0 := x.box.cell h0
    replace h1 := x.box.cell h1
    replace h2 := x.box.cell h2
    replace h3 := x.box.cell h3
    replace h4 := x.box.cell h4
    replace h5 := x.box.cell h5
    replace d0 := x.box.cell d0
    replace d1 := x.box.cell d1
    replace d2 := x.box.cell d2
    replace X := X.trans x.box
    clear x
    go_wp2_with fail
    go_ret
    exact ⟨rfl, X⟩
  have SC := Lib.hid (short3 p n k a b va l.length c m.length f V.length vc true hs hn hn2)
  have hlen := sh3_len hs
  clear hs
  have hdiv : (n - k).tdiv 3 = (n - k) / 3 := Int.tdiv_eq_ediv_of_nonneg (by omega)
  by_cases hlk : (l.length : Int) ≤ k
  case neg =>
    go_enter Try.func11, Try.ntmps11
    go_wp2_with fail
    refine (awake6_c _).mono ?_; rintro e w1 ⟨rfl, x0⟩
    replace h0 := x0.cell h0
    replace h1 := x0.cell h1
    replace h2 := x0.cell h2
    replace h3 := x0.cell h3
    replace h4 := x0.cell h4
    replace h5 := x0.cell h5
    have X := x0.box
    clear x0
    go_wp2_with fail
    refine (HRVC.out _).mono ?_; rintro e w3 ⟨rfl, x⟩
    have d0 : w3.cell? ⟨w1.heap.size, 0, none⟩ = some (.int .u64 p) := x.cell (by simp)
    have d1 : w3.cell? ⟨w1.heap.size, 1, none⟩ = some (.int .i64 n) := x.cell (by simp)
    have d2 : w3.cell? ⟨w1.heap.size, 2, none⟩ = some (.int .i64 k) := x.cell (by simp)
    replace h0 := x.box.cell h0
    replace h1 := x.box.cell h1
    replace h2 := x.box.cell h2
    replace h3 := x.box.cell h3
    replace h4 := x.box.cell h4
    replace h5 := x.box.cell h5
    replace X := X.trans x.box
    clear x
    go_wp2_with fail
    refine (SC.out _ _ (by simp) (by simp) (by simp)).mono ?_; rintro e w4 ⟨rfl, x⟩
    replace h0 := x.box.cell h0
    replace h1 := x.box.cell h1
    replace h2 := x.box.cell h2
    replace h3 := x.box.cell h3
    replace h4 := x.box.cell h4
    replace h5 := x.box.cell h5
    replace d0 := x.box.cell d0
    replace d1 := x.box.cell d1
    replace d2 := x.box.cell d2
    replace X := X.trans x.box
    clear x
    go_wp2_with fail
    go_ret
    exact ⟨rfl, X⟩
  by_cases hmk : (m.length : Int) ≤ k
  case neg =>
    go_enter Try.func11, Try.ntmps11
    go_wp2_with fail
    refine (awake6_c _).mono ?_; rintro e w1 ⟨rfl, x0⟩
    replace h0 := x0.cell h0
    replace h1 := x0.cell h1
    replace h2 := x0.cell h2
    replace h3 := x0.cell h3
    replace h4 := x0.cell h4
    replace h5 := x0.cell h5
    have X := x0.box
    clear x0
    go_wp2_with fail
    refine (HRVC.out _).mono ?_; rintro e w3 ⟨rfl, x⟩
    have d0 : w3.cell? ⟨w1.heap.size, 0, none⟩ = some (.int .u64 p) := x.cell (by simp)
    have d1 : w3.cell? ⟨w1.heap.size, 1, none⟩ = some (.int .i64 n) := x.cell (by simp)
    have d2 : w3.cell? ⟨w1.heap.size, 2, none⟩ = some (.int .i64 k) := x.cell (by simp)
    replace h0 := x.box.cell h0
    replace h1 := x.box.cell h1
    replace h2 := x.box.cell h2
    replace h3 := x.box.cell h3
    replace h4 := x.box.cell h4
    replace h5 := x.box.cell h5
    replace X := X.trans x.box
    clear x
    go_wp2_with fail
    refine (SC.out _ _ (by simp) (by simp) (by simp)).mono ?_; rintro e w4 ⟨rfl, x⟩
    replace h0 := x.box.cell h0
    replace h1 := x.box.cell h1
    replace h2 := x.box.cell h2
    replace h3 := x.box.cell h3
    replace h4 := x.box.cell h4
    replace h5 := x.box.cell h5
    replace d0 := x.box.cell d0
    replace d1 := x.box.cell d1
    replace d2 := x.box.cell d2
    replace X := X.trans x.box
    clear x
    go_wp2_with fail
    go_ret
    exact ⟨rfl, X⟩
  by_cases he0 : 0 ≤ e
  case neg =>
    go_enter Try.func11, Try.ntmps11
    go_wp2_with fail
    refine (awake6_c _).mono ?_; rintro e w1 ⟨rfl, x0⟩
    replace h0 := x0.cell h0
    replace h1 := x0.cell h1
    replace h2 := x0.cell h2
    replace h3 := x0.cell h3
    replace h4 := x0.cell h4
    replace h5 := x0.cell h5
    have X := x0.box
    clear x0
    go_wp2_with fail
    refine (HRVC.out _).mono ?_; rintro e w3 ⟨rfl, x⟩
    have d0 : w3.cell? ⟨w1.heap.size, 0, none⟩ = some (.int .u64 p) := x.cell (by simp)
    have d1 : w3.cell? ⟨w1.heap.size, 1, none⟩ = some (.int .i64 n) := x.cell (by simp)
    have d2 : w3.cell? ⟨w1.heap.size, 2, none⟩ = some (.int .i64 k) := x.cell (by simp)
    replace h0 := x.box.cell h0
    replace h1 := x.box.cell h1
    replace h2 := x.box.cell h2
    replace h3 := x.box.cell h3
    replace h4 := x.box.cell h4
    replace h5 := x.box.cell h5
    replace X := X.trans x.box
    clear x
    go_wp2_with fail
    refine (SC.out _ _ (by simp) (by simp) (by simp)).mono ?_; rintro e w4 ⟨rfl, x⟩
    replace h0 := x.box.cell h0
    replace h1 := x.box.cell h1
    replace h2 := x.box.cell h2
    replace h3 := x.box.cell h3
    replace h4 := x.box.cell h4
    replace h5 := x.box.cell h5
    replace d0 := x.box.cell d0
    replace d1 := x.box.cell d1
    replace d2 := x.box.cell d2
    replace X := X.trans x.box
    clear x
    go_wp2_with fail
    go_ret
    exact ⟨rfl, X⟩
  by_cases he1 : e ≤ (n - k) / 3
  case neg =>
    go_enter Try.func11, Try.ntmps11
    go_wp2_with fail
    refine (awake6_c _).mono ?_; rintro e w1 ⟨rfl, x0⟩
    replace h0 := x0.cell h0
    replace h1 := x0.cell h1
    replace h2 := x0.cell h2
    replace h3 := x0.cell h3
    replace h4 := x0.cell h4
    replace h5 := x0.cell h5
    have X := x0.box
    clear x0
    go_wp2_with fail
    refine (HRVC.out _).mono ?_; rintro e w3 ⟨rfl, x⟩
    have d0 : w3.cell? ⟨w1.heap.size, 0, none⟩ = some (.int .u64 p) := x.cell (by simp)
    have d1 : w3.cell? ⟨w1.heap.size, 1, none⟩ = some (.int .i64 n) := x.cell (by simp)
    have d2 : w3.cell? ⟨w1.heap.size, 2, none⟩ = some (.int .i64 k) := x.cell (by simp)
    replace h0 := x.box.cell h0
    replace h1 := x.box.cell h1
    replace h2 := x.box.cell h2
    replace h3 := x.box.cell h3
    replace h4 := x.box.cell h4
    replace h5 := x.box.cell h5
    replace X := X.trans x.box
    clear x
    go_wp2_with fail
    refine (SC.out _ _ (by simp) (by simp) (by simp)).mono ?_; rintro e w4 ⟨rfl, x⟩
    replace h0 := x.box.cell h0
    replace h1 := x.box.cell h1
    replace h2 := x.box.cell h2
    replace h3 := x.box.cell h3
    replace h4 := x.box.cell h4
    replace h5 := x.box.cell h5
    replace d0 := x.box.cell d0
    replace d1 := x.box.cell d1
    replace d2 := x.box.cell d2
    replace X := X.trans x.box
    clear x
    go_wp2_with fail
    go_ret
    exact ⟨rfl, X⟩
  by_cases hPV : 2 * P.length ≤ V.length
  case neg =>
    go_enter Try.func11, Try.ntmps11
    go_wp2_with fail
    refine (awake6_c _).mono ?_; rintro e w1 ⟨rfl, x0⟩
    replace h0 := x0.cell h0
    replace h1 := x0.cell h1
    replace h2 := x0.cell h2
    replace h3 := x0.cell h3
    replace h4 := x0.cell h4
    replace h5 := x0.cell h5
    have X := x0.box
    clear x0
    go_wp2_with fail
    refine (HRVC.out _).mono ?_; rintro e w3 ⟨rfl, x⟩
    have d0 : w3.cell? ⟨w1.heap.size, 0, none⟩ = some (.int .u64 p) := x.cell (by simp)
    have d1 : w3.cell? ⟨w1.heap.size, 1, none⟩ = some (.int .i64 n) := x.cell (by simp)
    have d2 : w3.cell? ⟨w1.heap.size, 2, none⟩ = some (.int .i64 k) := x.cell (by simp)
    replace h0 := x.box.cell h0
    replace h1 := x.box.cell h1
    replace h2 := x.box.cell h2
    replace h3 := x.box.cell h3
    replace h4 := x.box.cell h4
    replace h5 := x.box.cell h5
    replace X := X.trans x.box
    clear x
    go_wp2_with fail
    refine (SC.out _ _ (by simp) (by simp) (by simp)).mono ?_; rintro e w4 ⟨rfl, x⟩
    replace h0 := x.box.cell h0
    replace h1 := x.box.cell h1
    replace h2 := x.box.cell h2
    replace h3 := x.box.cell h3
    replace h4 := x.box.cell h4
    replace h5 := x.box.cell h5
    replace d0 := x.box.cell d0
    replace d1 := x.box.cell d1
    replace d2 := x.box.cell d2
    replace X := X.trans x.box
    clear x
    go_wp2_with fail
    go_ret
    exact ⟨rfl, X⟩
  obtain ⟨N, hN⟩ : ∃ N : Nat, N = n.toNat := ⟨_, rfl⟩
  obtain ⟨K, hK⟩ : ∃ K : Nat, K = k.toNat := ⟨_, rfl⟩
  obtain ⟨E, hE⟩ : ∃ E : Nat, E = e.toNat := ⟨_, rfl⟩
  have hnN : n = (N : Int) := by omega
  have hkK : k = (K : Int) := by omega
  have heE : e = (E : Int) := by omega
  have HNN := Lib.hid hnN
  have EA := fun w' (h : Rd w' a l) => REncode_c p n k l a c w' h (by omega) hn hn2
  have EB := fun w' (h : Rd w' b m) => REncode_c p n k m b f w' h (by omega) hn hn2
  rw [rEnc_val HC.out, ← hN] at EA EB
  obtain ⟨WA, hWA⟩ : ∃ x, x = cword p N l := ⟨_, rfl⟩
  obtain ⟨WB, hWB⟩ : ∃ x, x = cword p N m := ⟨_, rfl⟩
  have WLA : WA.length = N := by rw [hWA]; exact cword_len _ _ _
  have WLB : WB.length = N := by rw [hWB]; exact cword_len _ _ _
  rw [← hWA] at EA
  rw [← hWB] at EB
  obtain ⟨SA, hSA⟩ : ∃ x, x = spT WA P V N 0 P.length := ⟨_, rfl⟩
  obtain ⟨SB, hSB⟩ : ∃ x, x = spT WB P V N 1 P.length := ⟨_, rfl⟩
  obtain ⟨BD, hBD⟩ : ∃ x, x = bdK P N P.length := ⟨_, rfl⟩
  have hLA : SA.length = N := by rw [hSA, spT_len, WLA]
  have hLB : SB.length = N := by rw [hSB, spT_len, WLB]
  have hBl : BD.length ≤ 300 := by have := bdK_len P N P.length; rw [hBD]; omega
  have en : cLine p n k SA SB e = (lineM p N K SA SB e, 0) := by
    unfold cLine
    rw [if_neg (by rw [HV.out]; simp), if_pos ⟨HC.out, hp, by omega, by omega, he0, he1⟩, ← hN, ← hK]
  have ea : cApart p n k SA SB e = (apM p N SA SB (lineM p N K SA SB e), 0) := by unfold cApart; rw [en, if_pos rfl, ← hN]
  obtain ⟨R, hR⟩ : ∃ R, R = lineM p N K SA SB e := ⟨_, rfl⟩
  obtain ⟨AP, hAP⟩ : ∃ AP, AP = apM p N SA SB R := ⟨_, rfl⟩
  obtain ⟨RN, hRN⟩ : ∃ RN, RN = R.length := ⟨_, rfl⟩
  rw [← hR] at en ea
  rw [← hAP] at ea
  have hRl : RN ≤ 257 := by rw [hRN, hR]; exact Nat.le_trans (lineK_len p N K SA SB e p) hp
  have hAPl : AP ≤ 256 := by
    rw [hAP]; unfold apM
    split
    · omega
    · have := apC_le p SA SB (R.getD 0 (0, [])) (R.getD 1 (0, [])) N
      omega
  have hAPg : -1 ≤ AP := by
    rw [hAP]; unfold apM
    split
    · omega
    · omega
  have T1 : e + 1 < (RN : Int) → AP ≤ e := by
    obtain ⟨_, e1, K1, N1, _, q2, q3, q4, _, q6, _, q8, _⟩ := cval_spec HC.out
    obtain rfl : N1 = N := by omega
    obtain rfl : K1 = K := by omega
    intro h
    have q2' := q2
    rw [hAP, hR, heE]
    rw [hRN, hR, heE] at h
    rw [q2] at h ⊢
    exact apart_small HV.out (by rw [← q2]; exact q8) SA SB (by rw [← q2]; omega) (by omega)
  have T2 : RN < 2 → AP = -1 := by
    intro h
    rw [hAP]; unfold apM
    rw [if_pos (by omega)]
  have T2' : ¬ RN < 2 → 0 ≤ AP := by
    intro h
    rw [hAP]; unfold apM
    rw [if_neg (by omega)]; omega
  have T3 : (BD.length : Int) ≤ e → RN = p ∧ AP ≤ BD.length := by
    obtain ⟨_, e1, K1, N1, _, q2, q3, q4, _, q6, _, q8, _⟩ := cval_spec HC.out
    obtain rfl : N1 = N := by omega
    obtain rfl : K1 = K := by omega
    intro h
    have hab : ∀ j, j < N1 → j ∉ BD → SA.getD j 0 = (cword p N1 l).getD j 0 ∧ SB.getD j 0 = (cword p N1 m).getD j 0 := fun j _ hj => by
      rw [hSA, hSB, ← hWA, ← hWB]
      rw [hBD] at hj
      exact ⟨spT_out hj, spT_out hj⟩
    rw [hRN, hAP, hR, heE]
    rw [q2] at hab ⊢
    exact together HV.out (by rw [← q2]; exact q8) (by rw [← q2]; exact q6) (by omega) (by omega) hab (by omega) (by rw [← q2]; omega)
  have CC : Hid (∀ w' (a b : Option Addr) (c d : Nat), Rd w' a SA → Rd w' b SB → Calls Try.prog 35 #[.agg #[.int .u64 p, .int .i64 n, .int .i64 k], .slice a N c, .slice b N d, .int .i64 e] w' fun e w'' => e = .returned (.tuple #[.int .i64 (RN : Int), .int .i64 0]) ∧ Ext w' w'') := Lib.hid (fun w' a b c d h1 h2 => by have q := Close_c p n k SA SB e a b c d w' h1 h2 hn hn2; rw [en, hLA, hLB] at q; rw [hRN]; exact q)
  have CA : Hid (∀ w' (a b : Option Addr) (c d : Nat), Rd w' a SA → Rd w' b SB → Calls Try.prog 36 #[.agg #[.int .u64 p, .int .i64 n, .int .i64 k], .slice a N c, .slice b N d, .int .i64 e] w' fun e w'' => e = .returned (.tuple #[.int .i64 AP, .int .i64 0]) ∧ Ext w' w'') := Lib.hid (fun w' a b c d h1 h2 => by have q := Apart_c p n k SA SB e a b c d w' h1 h2 hn hn2; rw [ea, hLA, hLB] at q; exact q)
  have OCA : Hid (∀ w' (a : Option Addr) (c : Nat), Rd w' a SA → Calls Try.prog 16 #[.slice a N c] w' (SlPost w' SA)) := Lib.hid (fun w' a c h => by have q := own_c SA a c w' h (by omega); rw [hLA] at q; exact q)
  have OCB : Hid (∀ w' (a : Option Addr) (c : Nat), Rd w' a SB → Calls Try.prog 16 #[.slice a N c] w' (SlPost w' SB)) := Lib.hid (fun w' a c h => by have q := own_c SB a c w' h (by omega); rw [hLB] at q; exact q)
  have HEA := Lib.hid EA
  have HEB := Lib.hid EB
  have HLA := Lib.hid hLA
  have HLB := Lib.hid hLB
  have HWLA := Lib.hid WLA
  have HWLB := Lib.hid WLB
  have HSA := Lib.hid hSA
  have HSB := Lib.hid hSB
  have HBD := Lib.hid hBD
  have HT1 := Lib.hid T1
  have HT2 := Lib.hid T2
  have HT2' := Lib.hid T2'
  have HT3 := Lib.hid T3
  have HLEN := Lib.hid hlen
  have hN1 : 1 ≤ N := by omega
  have hN256 : N ≤ 32 := by omega
  have hE11 : e ≤ 11 := by omega
  have hP150 : P.length ≤ 150 := by omega
  have hV300 : V.length ≤ 300 := by omega
  have g1 : (n != 0) = true := bne_iff_ne.2 (by omega)
  have hmm := fun (t : TypeId) (w : World) => run_makeMap (P := Try.prog) t w
  have hlm := fun (w : World) (b : Nat) (m : List Nat) (h : MapS w b m) (ty : TypeId) => h.len ty
  clear EA EB hLA hLB WLA WLB hSA hSB hBD T1 T2 T2' T3 en ea hR hAP hRN hWA hWB hnN hkK heE hN hK hE hlen
  go_enter Try.func11, Try.ntmps11
  go_wp2_with fail
  refine (awake6_c _).mono ?_; rintro e w1 ⟨rfl, x0⟩
  replace h0 := x0.cell h0
  replace h1 := x0.cell h1
  replace h2 := x0.cell h2
  replace h3 := x0.cell h3
  replace h4 := x0.cell h4
  replace h5 := x0.cell h5
  have X := x0.box
  clear x0
  go_wp2_with fail
  refine (HRVC.out _).mono ?_; rintro e w3 ⟨rfl, x⟩
  have d0 : w3.cell? ⟨w1.heap.size, 0, none⟩ = some (.int .u64 p) := x.cell (by simp)
  have d1 : w3.cell? ⟨w1.heap.size, 1, none⟩ = some (.int .i64 n) := x.cell (by simp)
  have d2 : w3.cell? ⟨w1.heap.size, 2, none⟩ = some (.int .i64 k) := x.cell (by simp)
  replace h0 := x.box.cell h0
  replace h1 := x.box.cell h1
  replace h2 := x.box.cell h2
  replace h3 := x.box.cell h3
  replace h4 := x.box.cell h4
  replace h5 := x.box.cell h5
  replace X := X.trans x.box
  clear x
  go_wp2_with fail
  refine (SC.out _ _ (by simp) (by simp) (by simp)).mono ?_; rintro e w4 ⟨rfl, x⟩
  replace h0 := x.box.cell h0
  replace h1 := x.box.cell h1
  replace h2 := x.box.cell h2
  replace h3 := x.box.cell h3
  replace h4 := x.box.cell h4
  replace h5 := x.box.cell h5
  replace d0 := x.box.cell d0
  replace d1 := x.box.cell d1
  replace d2 := x.box.cell d2
  replace X := X.trans x.box
  clear x
  go_wp2_with fail
  have H5 := Lib.hid h5
  have D0 := Lib.hid d0
  have D1 := Lib.hid d1
  have D2 := Lib.hid d2
  refine region_factsX [[], [], [(1, 87)], [(0, 86), (2, 88)], [], [], [(5, 91)], [(4, 90), (6, 92)]] [some 86, some 87, some 88, some 89, some 90, some 91, some 92, some 93] [false, false, false, true, false, false, false, true, false, false, false, false, false, false, false, false, false, false, false, false, false, false, false, false, false, false, false, false, false, false, false, false, false, false, false, false, false, false, false, false, false, false, false, false, false, false, false, false, false, false, false, false, false, false, false, false, false, false, false, false, false, false, false, false, false, false, false, false, false, false, false, false, false, false, false, false, false, false, false, false, false, false, false, false, false, false, false, false, false, false, false, false, false, false, false, false, false, false, false, false, false, false, false, false, false, false, false, false, false, false, false, false, false, false, false, false, false, false, false, false, false, false, false, false, false, false, false, false, false, false, false, false, false, false, false, false, false, false, false, false, false, false, false, false, false, false, false, false, false, false, false, false, false, false, false, false, false, false, false, false, false, false, false, false, false, false, false, false, false, false, false, false, false, false, false, false, false, false, false, false, false, false, false, false, false, false, false, false, false, false, false, false, false, false, false] [.o, .o, .o, .a, .o, .o, .o, .b] rfl (by kernel_rfl) (by kernel_rfl) (by kernel_rfl) ?_
  dsimp only [maskL]
  with_reducible apply FromX.eq
  · intro w' hx; have h1x := hx.cell h1; have h2x := hx.cell h2; have h3x := hx.cell h3; have h4x := hx.cell h4; have d0x := hx.cell d0; have d1x := hx.cell d1; have d2x := hx.cell d2; (try dsimp only [List.nil_append, List.cons_append, DepsL, DepsL1, setO, setN, favs, opsOf]); go_wp2; exact OpPostE.some _ rfl rfl (Ext.refl _) rfl
  with_reducible apply FromX.eq
  · intro w' hx; (try dsimp only [List.nil_append, List.cons_append, DepsL, DepsL1, setO, setN, favs, opsOf]); go_wp2; exact OpPostE.some _ rfl rfl (Ext.refl _) rfl
  with_reducible apply FromX.eq
  · intro w' hx; have h1x := hx.cell h1; have h2x := hx.cell h2; have h3x := hx.cell h3; have h4x := hx.cell h4; have d0x := hx.cell d0; have d1x := hx.cell d1; have d2x := hx.cell d2; (try dsimp only [List.nil_append, List.cons_append, DepsL, DepsL1, setO, setN, favs, opsOf]); go_wp2; exact OpPostE.some _ rfl rfl (Ext.refl _) rfl
  refine FromX.new (.inl rfl) (OwnF w4.heap.size WA) (OwnF.mono) ?_ ?_
  · intro w' hx; (try dsimp only [List.nil_append, List.cons_append, DepsL, DepsL1, setO, setN, favs, opsOf]); skip;
    refine op_call 23 [.tmp 86, .tmp 88] _ _ _ rfl rfl rfl rfl rfl rfl (fun _ _ => Try.call23 _ _) (HEA.out _ (HA.out.ext (X.trans hx))) (fun e w2 h_ => ?_); obtain ⟨v, rfl, ho, hn'⟩ := h_; exact ⟨_, rfl, hn', ⟨ho.base hx.size, fun k hk => World.ownsRow.lt ho k hk⟩⟩
  with_reducible apply FromX.eq
  · intro w' hx; have h1x := hx.cell h1; have h2x := hx.cell h2; have h3x := hx.cell h3; have h4x := hx.cell h4; have d0x := hx.cell d0; have d1x := hx.cell d1; have d2x := hx.cell d2; (try dsimp only [List.nil_append, List.cons_append, DepsL, DepsL1, setO, setN, favs, opsOf]); go_wp2; exact OpPostE.some _ rfl rfl (Ext.refl _) rfl
  with_reducible apply FromX.eq
  · intro w' hx; (try dsimp only [List.nil_append, List.cons_append, DepsL, DepsL1, setO, setN, favs, opsOf]); go_wp2; exact OpPostE.some _ rfl rfl (Ext.refl _) rfl
  with_reducible apply FromX.eq
  · intro w' hx; have h1x := hx.cell h1; have h2x := hx.cell h2; have h3x := hx.cell h3; have h4x := hx.cell h4; have d0x := hx.cell d0; have d1x := hx.cell d1; have d2x := hx.cell d2; (try dsimp only [List.nil_append, List.cons_append, DepsL, DepsL1, setO, setN, favs, opsOf]); go_wp2; exact OpPostE.some _ rfl rfl (Ext.refl _) rfl
  refine FromX.new (.inr rfl) (OwnF w4.heap.size WB) (OwnF.mono) ?_ ?_
  · intro w' hx; (try dsimp only [List.nil_append, List.cons_append, DepsL, DepsL1, setO, setN, favs, opsOf]); skip;
    refine op_call 23 [.tmp 90, .tmp 92] _ _ _ rfl rfl rfl rfl rfl rfl (fun _ _ => Try.call23 _ _) (HEB.out _ (HB.out.ext (X.trans hx))) (fun e w2 h_ => ?_); obtain ⟨v, rfl, ho, hn'⟩ := h_; exact ⟨_, rfl, hn', ⟨ho.base hx.size, fun k hk => World.ownsRow.lt ho k hk⟩⟩
  with_reducible refine FromX.fin ?_
  intro w' hx
  (try dsimp only [List.nil_append, List.cons_append, EndX, EndX1, mka, mkb, setO, setN]); rintro v3 k3 v7 k7 hdis
  obtain ⟨ga, ca, hva, hga, hca, arA⟩ := Own.arr k3 (by rw [HWLA.out]; omega)
  obtain ⟨gb, cb, hvb, hgb, hcb, arB⟩ := Own.arr k7 (by rw [HWLB.out]; omega)
  rw [HWLA.out] at hva
  rw [HWLB.out] at hvb
  subst hva hvb
  have hab : ga ≠ gb := fun q => hdis ga rfl (by rw [q]; rfl)
  have HARA := Lib.hid arA
  have HARB := Lib.hid arB
  have HX5 := Lib.hid hx
  have HGA := Lib.hid hga
  have HGB := Lib.hid hgb
  have HCA := Lib.hid hca
  have HCB := Lib.hid hcb
  clear h0 h1 h2 h3 h4 h5 d0 d1 d2 hx k3 k7 hdis hga hgb hca hcb arA arB
  obtain ⟨w5, hw5⟩ : ∃ q : World, q = w' := ⟨_, rfl⟩
  subst hw5
  have hga2 : ga < w5.heap.size := HARA.out.lt
  have hgb2 : gb < w5.heap.size := HARB.out.lt
  go_wp2_with fail
  have HMP : Hid (MapS (w5.alloc (.map #[] 0)) w5.heap.size []) := Lib.hid (MapS.made w5)
  obtain ⟨gm, hgm⟩ : ∃ q, q = w5.heap.size := ⟨_, rfl⟩
  rw [← hgm] at HMP
  rw [← hgm]
  have HGM : Hid (w4.heap.size ≤ gm) := Lib.hid (by have := HX5.out.size; omega)
  have hma : ga ≠ gm := by omega
  have hmb : gb ≠ gm := by omega
  clear hmm hgm
  go_loopw [97] (TgRel WA WB P V N ga ca gb cb gm w4) (fun i _ => P.length - (intOf i).toNat)
  case atStart => exact ⟨0, rfl, Nat.zero_le _, HARA.out.ext ((Ext.refl _).alloc _), HARB.out.ext ((Ext.refl _).alloc _), HMP.out, HX5.out.trans ((Ext.refl _).alloc _)⟩
  case round =>
    obtain ⟨j, rfl, hj, arA, arB, mp, hext⟩ := hrel
    have d1 := hext.cell D1.out
    have HAA := Lib.hid arA
    have HAB := Lib.hid arB
    have HMP := Lib.hid mp
    have HX := Lib.hid hext
    clear arA arB mp hext
    by_cases hlt : j < P.length
    · obtain ⟨gp, op, hpa, hcp⟩ := HP.out.at (by omega)
      subst hpa
      have cp := (X.trans HX.out).cell (hcp j hlt)
      have hy256 := HPB.out j hlt
      obtain ⟨y, hy⟩ : ∃ y, y = P.getD j 0 := ⟨_, rfl⟩
      have E1 : Hid (spT WA P V N 0 (j + 1) = (spT WA P V N 0 j).set (P.getD j 0 % N) (V.getD (2 * j) 0)) := Lib.hid rfl
      have E2 : Hid (spT WB P V N 1 (j + 1) = (spT WB P V N 1 j).set (P.getD j 0 % N) (V.getD (2 * j + 1) 0)) := Lib.hid rfl
      have E3 : Hid (bdK P N (j + 1) = ins (bdK P N j) (P.getD j 0 % N)) := Lib.hid rfl
      rw [← hy] at cp hy256 E1 E2 E3
      have hyN : y % N < N := Nat.mod_lt _ (by omega)
      obtain ⟨q, hq⟩ : ∃ q, q = y % N := ⟨_, rfl⟩
      have hqb : q < 9223372036854775808 := Nat.lt_of_lt_of_le (by rw [hq]; exact hyN) (Nat.le_trans hN256 (by decide))
      have hbq : (bdK P N j).length ≤ 1000000 := by have := bdK_len P N j; omega
      have er3 : (y : Int) % n = (q : Int) := by rw [HNN.out, hq]; rfl
      have er : (y : Int).tmod n = (q : Int) := by rw [HNN.out, hq]; rfl
      have er2 : (wrap64 (y : Int)).tmod n = (q : Int) := by rw [show wrap64 (y : Int) = (y : Int) from by unfold wrap64; omega]; exact er
      rw [← hq] at hyN E1 E2 E3
      obtain ⟨wm, hrun, mp1, bt1⟩ := HMP.out.put2 (x := q) hqb hbq
      rw [← E3.out] at mp1
      have HMP1 := Lib.hid mp1
      have HX1 := Lib.hid (bt1.ext HX.out HGM.out)
      have HAA1 := Lib.hid (bt1.arr HAA.out hma)
      have HAB1 := Lib.hid (bt1.arr HAB.out hmb)
      obtain ⟨gv, ov, hva, hcv⟩ := HVV.out.at (by omega)
      subst hva
      have cv0 := (X.trans HX1.out).cell (hcv (2 * j) (by omega))
      have cv1 := (X.trans HX1.out).cell (hcv (2 * j + 1) (by omega))
      obtain ⟨z0, hz0⟩ : ∃ y, y = V.getD (2 * j) 0 := ⟨_, rfl⟩
      obtain ⟨z1, hz1⟩ : ∃ y, y = V.getD (2 * j + 1) 0 := ⟨_, rfl⟩
      rw [← hz0] at cv0 E1
      rw [← hz1] at cv1 E2
      have hlA : (spT WA P V N 0 j).length = N := by rw [spT_len, HWLA.out]
      have hlB : (spT WB P V N 1 j).length = N := by rw [spT_len, HWLB.out]
      have HLLA := Lib.hid hlA
      have HLLB := Lib.hid hlB
      have hjV : 2 * j + 1 < V.length := by omega
      have hjV0 : 2 * j < V.length := by omega
      have hgv : gv < w.heap.size := World.block_lt_of_cell? w _ (hcv (2 * j) (by omega))
      have hXs := X.size
      have hgva : gv ≠ ga := by have := HGA.out; omega
      have f1 := HAA1.out.frozen q
      have e1 := HAA1.out.at (i := q) (by rw [HLLA.out]; exact hyN)
      have o2 := HAB1.out.far (p := ⟨ga, q, none⟩) (fun h => hab h.symm) (.int .u64 (z0 : Int))
      have f2 := o2.frozen q
      have e2 := o2.at (i := q) (by rw [HLLB.out]; exact hyN)
      have cv0' := (But.set wm ga q (.int .u64 (z0 : Int))).cell cv0 hgva
      have cv1' := (But.set wm ga q (.int .u64 (z0 : Int))).cell cv1 hgva
      have HO2 := Lib.hid o2
      clear hy hq hz0 hz1 hcp hcv hqb hbq mp1 bt1 hlA hlB hgv hXs o2
      go_wp2_with fail
      go_region
      go_wp2_with fail
      go_roundw
      case rel =>
        refine ⟨j + 1, by go_num, by omega, ?_, ?_, ?_, ((HX1.out.setNew (p := ⟨ga, q, none⟩) HGA.out (.int .u64 (z0 : Int))).setNew (p := ⟨gb, q, none⟩) HGB.out (.int .u64 (z1 : Int))).drew⟩
        · rw [E1.out]; exact (HAA1.out.set q z0 (by rw [HLLA.out]; exact hyN)).far (p := ⟨gb, q, none⟩) hab (.int .u64 (z1 : Int))
        · rw [E2.out]; exact HO2.out.set q z1 (by rw [HLLB.out]; exact hyN)
        · exact (((HMP1.out.but (But.set wm ga q (.int .u64 (z0 : Int))) (fun h => hma h.symm)).but (But.set _ gb q (.int .u64 (z1 : Int))) (fun h => hmb h.symm)).ext ((Ext.refl _).drew))
      case measure => simp [intOf]; omega
    · obtain rfl : j = P.length := by omega
      rw [← HSA.out] at HAA
      rw [← HSB.out] at HAB
      rw [← HBD.out] at HMP
      have RSA := Lib.hid HAA.out.rd
      have RSB := Lib.hid HAB.out.rd
      have h5 := HX.out.cell H5.out
      have d0 := HX.out.cell D0.out
      have d2 := HX.out.cell D2.out
      replace X := X.trans HX.out
      clear HX HAA HAB HSA HSB HBD
      go_wp2_with fail
      refine region_factsL [[], [(0, 128)], [], [(2, 130)], [], [(4, 132)], [], [(6, 134)], [(1, 129), (3, 131), (5, 133), (7, 135)], [(8, 136)], [(9, 127)], [(9, 127)], [(10, 137)], [(11, 138)]] [some 128, some 129, some 130, some 131, some 132, some 133, some 134, some 135, some 136, some 127, some 137, some 138, some 14, some 15] [false, false, false, true, false, false, false, true, true, true, false, false, false, false, false, false, false, false, false, false, false, false, false, false, false, false, false, false, false, false, false, false, false, false, false, false, false, false, false, false, false, false, false, false, false, false, false, false, false, false, false, false, false, false, false, false, false, false, false, false, false, false, false, false, false, false, false, false, false, false, false, false, false, false, false, false, false, false, false, false, false, false, false, false, false, false, false, false, false, false, false, false, false, false, false, false, false, false, false, false, false, false, false, false, false, false, false, false, false, false, false, false, false, false, false, false, false, false, false, false, false, false, false, false, false, false, false, false, false, false, false, false, false, false, false, false, false, false, false, false, false, false, false, false, false, false, false, false, false, false, false, false, false, false, false, false, false, false, false, false, false, false, false, false, false, false, false, false, false, false, false, false, false, false, false, false, false, false, false, false, false, false, false, false, false, false, false, false, false, false, false, false, false, false, false] (by kernel_rfl) (by kernel_rfl) (by kernel_rfl) ?_
      dsimp only [maskL]
      with_reducible apply FromM.eq
      · intro w' hx; have h5x := hx.cell h5; have d0x := hx.cell d0; have d1x := hx.cell d1; have d2x := hx.cell d2; (try dsimp only [List.nil_append, List.cons_append, DepsL, DepsL1, setO, setN, favs, opsOf]); go_wp2; exact OpPostE.some _ rfl rfl (Ext.refl _) rfl
      with_reducible apply FromM.eq
      · intro w' hx; (try dsimp only [List.nil_append, List.cons_append, DepsL, DepsL1, setO, setN, favs, opsOf]); refine op_call 15 [.tmp 128] _ _ _ rfl rfl rfl rfl rfl rfl (fun _ _ => Try.call15 _ _) (of_c p n k _) (fun e w2 h_ => ?_); obtain ⟨rfl, hb2⟩ := h_; exact ⟨_, rfl, hb2, rfl⟩
      with_reducible apply FromM.eq
      · intro w' hx; (try dsimp only [List.nil_append, List.cons_append, DepsL, DepsL1, setO, setN, favs, opsOf]); go_wp2; exact OpPostE.some _ rfl rfl (Ext.refl _) rfl
      refine FromM.step (OwnF w.heap.size SA) (OwnF.mono) ?_ ?_
      · intro w' hx; (try dsimp only [List.nil_append, List.cons_append, DepsL, DepsL1, setO, setN, favs, opsOf]); skip;
        refine op_call 16 [.tmp 130] _ _ _ rfl rfl rfl rfl rfl rfl (fun _ _ => Try.call16 _ _) (OCA.out _ _ _ (RSA.out.ext hx)) (fun e w2 h_ => ?_); obtain ⟨v, rfl, ho, hn'⟩ := h_; exact ⟨_, rfl, hn', (ho.base (X.trans hx).size)⟩
      with_reducible apply FromM.eq
      · intro w' hx; (try dsimp only [List.nil_append, List.cons_append, DepsL, DepsL1, setO, setN, favs, opsOf]); go_wp2; exact OpPostE.some _ rfl rfl (Ext.refl _) rfl
      refine FromM.step (OwnF w.heap.size SB) (OwnF.mono) ?_ ?_
      · intro w' hx; (try dsimp only [List.nil_append, List.cons_append, DepsL, DepsL1, setO, setN, favs, opsOf]); skip;
        refine op_call 16 [.tmp 132] _ _ _ rfl rfl rfl rfl rfl rfl (fun _ _ => Try.call16 _ _) (OCB.out _ _ _ (RSB.out.ext hx)) (fun e w2 h_ => ?_); obtain ⟨v, rfl, ho, hn'⟩ := h_; exact ⟨_, rfl, hn', (ho.base (X.trans hx).size)⟩
      with_reducible apply FromM.eq
      · intro w' hx; (try dsimp only [List.nil_append, List.cons_append, DepsL, DepsL1, setO, setN, favs, opsOf]); go_wp2; exact OpPostE.some _ rfl rfl (Ext.refl _) rfl
      with_reducible apply FromM.eq
      · intro w' hx; have h5x := hx.cell h5; have d0x := hx.cell d0; have d1x := hx.cell d1; have d2x := hx.cell d2; (try dsimp only [List.nil_append, List.cons_append, DepsL, DepsL1, setO, setN, favs, opsOf]); go_wp2; exact OpPostE.some _ rfl rfl (Ext.refl _) rfl
      -- 8: t136
      with_reducible apply FromM.eq
      · intro w' hx; (try dsimp only [List.nil_append, List.cons_append, DepsL, DepsL1, setO, setN, favs, opsOf]); rintro v3 k3; rintro v5 k5; obtain ⟨a3, c3, rfl, _, r3⟩ := Own.formN k3 N HLA.out; obtain ⟨a5, c5, rfl, _, r5⟩ := Own.formN k5 N HLB.out; go_wp2_with (go_at_call 35; refine (CC.out _ _ _ _ _ r3 r5).mono ?_; rintro e w2 ⟨rfl, hb2⟩); exact OpPostE.some _ rfl rfl hb2 rfl
      with_reducible apply FromM.eq
      · intro w' hx; (try dsimp only [List.nil_append, List.cons_append, DepsL, DepsL1, setO, setN, favs, opsOf]); go_wp2; exact OpPostE.some _ rfl rfl (Ext.refl _) rfl
      with_reducible apply FromM.eq
      · intro w' hx; (try dsimp only [List.nil_append, List.cons_append, DepsL, DepsL1, setO, setN, favs, opsOf]); go_wp2; exact OpPostE.some _ rfl rfl (Ext.refl _) rfl
      with_reducible apply FromM.eq
      · intro w' hx; (try dsimp only [List.nil_append, List.cons_append, DepsL, DepsL1, setO, setN, favs, opsOf]); go_wp2; exact OpPostE.some _ rfl rfl (Ext.refl _) rfl
      with_reducible apply FromM.eq
      · intro w' hx; (try dsimp only [List.nil_append, List.cons_append, DepsL, DepsL1, setO, setN, favs, opsOf]); go_wp2; exact OpPostE.some _ rfl rfl (Ext.refl _) rfl
      with_reducible apply FromM.eq
      · intro w' hx; (try dsimp only [List.nil_append, List.cons_append, DepsL, DepsL1, setO, setN, favs, opsOf]); go_wp2; exact OpPostE.some _ rfl rfl (Ext.refl _) rfl
      with_reducible refine FromM.fin ?_
      intro w' hx
      (try dsimp only [List.nil_append, List.cons_append, EndL, DepsL1, setO, setN]); rintro v3 k3 v5 k5
      replace h5 := hx.cell h5
      replace d0 := hx.cell d0
      replace d1 := hx.cell d1
      replace d2 := hx.cell d2
      replace X := X.trans hx
      have HMP := Lib.hid (HMP.out.ext hx)
      have RSA := Lib.hid (RSA.out.ext hx)
      have RSB := Lib.hid (RSB.out.ext hx)
      clear hx k3 k5
      obtain ⟨wq, hwq⟩ : ∃ q : World, q = w' := ⟨_, rfl⟩
      subst hwq
      go_wp2_with fail
      refine region_factsL [[], [(0, 140)], [], [(2, 142)], [], [(4, 144)], [], [(6, 146)], [(1, 141), (3, 143), (5, 145), (7, 147)], [(8, 148)], [(9, 139)], [(9, 139)], [(10, 149)], [(11, 150)]] [some 140, some 141, some 142, some 143, some 144, some 145, some 146, some 147, some 148, some 139, some 149, some 150, some 16, some 17] [false, false, false, true, false, false, false, true, true, true, false, false, false, false, false, false, false, false, false, false, false, false, false, false, false, false, false, false, false, false, false, false, false, false, false, false, false, false, false, false, false, false, false, false, false, false, false, false, false, false, false, false, false, false, false, false, false, false, false, false, false, false, false, false, false, false, false, false, false, false, false, false, false, false, false, false, false, false, false, false, false, false, false, false, false, false, false, false, false, false, false, false, false, false, false, false, false, false, false, false, false, false, false, false, false, false, false, false, false, false, false, false, false, false, false, false, false, false, false, false, false, false, false, false, false, false, false, false, false, false, false, false, false, false, false, false, false, false, false, false, false, false, false, false, false, false, false, false, false, false, false, false, false, false, false, false, false, false, false, false, false, false, false, false, false, false, false, false, false, false, false, false, false, false, false, false, false, false, false, false, false, false, false, false, false, false, false, false, false, false, false, false, false, false, false] (by kernel_rfl) (by kernel_rfl) (by kernel_rfl) ?_
      dsimp only [maskL]
      with_reducible apply FromM.eq
      · intro w' hx; have h5x := hx.cell h5; have d0x := hx.cell d0; have d1x := hx.cell d1; have d2x := hx.cell d2; (try dsimp only [List.nil_append, List.cons_append, DepsL, DepsL1, setO, setN, favs, opsOf]); go_wp2; exact OpPostE.some _ rfl rfl (Ext.refl _) rfl
      with_reducible apply FromM.eq
      · intro w' hx; (try dsimp only [List.nil_append, List.cons_append, DepsL, DepsL1, setO, setN, favs, opsOf]); refine op_call 15 [.tmp 140] _ _ _ rfl rfl rfl rfl rfl rfl (fun _ _ => Try.call15 _ _) (of_c p n k _) (fun e w2 h_ => ?_); obtain ⟨rfl, hb2⟩ := h_; exact ⟨_, rfl, hb2, rfl⟩
      with_reducible apply FromM.eq
      · intro w' hx; (try dsimp only [List.nil_append, List.cons_append, DepsL, DepsL1, setO, setN, favs, opsOf]); go_wp2; exact OpPostE.some _ rfl rfl (Ext.refl _) rfl
      refine FromM.step (OwnF w.heap.size SA) (OwnF.mono) ?_ ?_
      · intro w' hx; (try dsimp only [List.nil_append, List.cons_append, DepsL, DepsL1, setO, setN, favs, opsOf]); skip;
        refine op_call 16 [.tmp 142] _ _ _ rfl rfl rfl rfl rfl rfl (fun _ _ => Try.call16 _ _) (OCA.out _ _ _ (RSA.out.ext hx)) (fun e w2 h_ => ?_); obtain ⟨v, rfl, ho, hn'⟩ := h_; exact ⟨_, rfl, hn', (ho.base (X.trans hx).size)⟩
      with_reducible apply FromM.eq
      · intro w' hx; (try dsimp only [List.nil_append, List.cons_append, DepsL, DepsL1, setO, setN, favs, opsOf]); go_wp2; exact OpPostE.some _ rfl rfl (Ext.refl _) rfl
      refine FromM.step (OwnF w.heap.size SB) (OwnF.mono) ?_ ?_
      · intro w' hx; (try dsimp only [List.nil_append, List.cons_append, DepsL, DepsL1, setO, setN, favs, opsOf]); skip;
        refine op_call 16 [.tmp 144] _ _ _ rfl rfl rfl rfl rfl rfl (fun _ _ => Try.call16 _ _) (OCB.out _ _ _ (RSB.out.ext hx)) (fun e w2 h_ => ?_); obtain ⟨v, rfl, ho, hn'⟩ := h_; exact ⟨_, rfl, hn', (ho.base (X.trans hx).size)⟩
      with_reducible apply FromM.eq
      · intro w' hx; (try dsimp only [List.nil_append, List.cons_append, DepsL, DepsL1, setO, setN, favs, opsOf]); go_wp2; exact OpPostE.some _ rfl rfl (Ext.refl _) rfl
      with_reducible apply FromM.eq
      · intro w' hx; have h5x := hx.cell h5; have d0x := hx.cell d0; have d1x := hx.cell d1; have d2x := hx.cell d2; (try dsimp only [List.nil_append, List.cons_append, DepsL, DepsL1, setO, setN, favs, opsOf]); go_wp2; exact OpPostE.some _ rfl rfl (Ext.refl _) rfl
      -- 8: t148
      with_reducible apply FromM.eq
      · intro w' hx; (try dsimp only [List.nil_append, List.cons_append, DepsL, DepsL1, setO, setN, favs, opsOf]); rintro v3 k3; rintro v5 k5; obtain ⟨a3, c3, rfl, _, r3⟩ := Own.formN k3 N HLA.out; obtain ⟨a5, c5, rfl, _, r5⟩ := Own.formN k5 N HLB.out; go_wp2_with (go_at_call 36; refine (CA.out _ _ _ _ _ r3 r5).mono ?_; rintro e w2 ⟨rfl, hb2⟩); exact OpPostE.some _ rfl rfl hb2 rfl
      with_reducible apply FromM.eq
      · intro w' hx; (try dsimp only [List.nil_append, List.cons_append, DepsL, DepsL1, setO, setN, favs, opsOf]); go_wp2; exact OpPostE.some _ rfl rfl (Ext.refl _) rfl
      with_reducible apply FromM.eq
      · intro w' hx; (try dsimp only [List.nil_append, List.cons_append, DepsL, DepsL1, setO, setN, favs, opsOf]); go_wp2; exact OpPostE.some _ rfl rfl (Ext.refl _) rfl
      with_reducible apply FromM.eq
      · intro w' hx; (try dsimp only [List.nil_append, List.cons_append, DepsL, DepsL1, setO, setN, favs, opsOf]); go_wp2; exact OpPostE.some _ rfl rfl (Ext.refl _) rfl
      with_reducible apply FromM.eq
      · intro w' hx; (try dsimp only [List.nil_append, List.cons_append, DepsL, DepsL1, setO, setN, favs, opsOf]); go_wp2; exact OpPostE.some _ rfl rfl (Ext.refl _) rfl
      with_reducible apply FromM.eq
      · intro w' hx; (try dsimp only [List.nil_append, List.cons_append, DepsL, DepsL1, setO, setN, favs, opsOf]); go_wp2; exact OpPostE.some _ rfl rfl (Ext.refl _) rfl
      with_reducible refine FromM.fin ?_
      intro w' hx
      (try dsimp only [List.nil_append, List.cons_append, EndL, DepsL1, setO, setN]); rintro v3 k3 v5 k5
      replace h5 := hx.cell h5
      replace d0 := hx.cell d0
      replace d1 := hx.cell d1
      replace d2 := hx.cell d2
      replace X := X.trans hx
      have HMP := Lib.hid (HMP.out.ext hx)
      have RSA := Lib.hid (RSA.out.ext hx)
      have RSB := Lib.hid (RSB.out.ext hx)
      clear hx k3 k5
      obtain ⟨wq, hwq⟩ : ∃ q : World, q = w' := ⟨_, rfl⟩
      subst hwq
      have hlm := fun ty => HMP.out.len ty
      obtain ⟨BL, hBL⟩ : ∃ BL, BL = BD.length := ⟨_, rfl⟩
      have T3 := HT3.out
      rw [← hBL] at hlm T3
      have HT3b := Lib.hid T3
      have hBl2 : BL ≤ 300 := by omega
      clear hBL T3 HMP RSA RSB
      by_cases hr2 : RN < 2
      · obtain rfl := HT2.out hr2
        have hbl : ¬ ((BL : Int) ≤ e) := fun h => by have := (HT3b.out h).1; have := vld_bd HV.out; omega
        have s1 : decide (e + 1 < (RN : Int)) = false := decide_eq_false (by omega)
        have s2 : decide (RN < 2) = true := decide_eq_true hr2
        have s2' : decide ((RN : Int) < 2) = true := decide_eq_true (by omega)
        have s3 : decide (e < (BL : Int)) = true := decide_eq_true (by omega)
        go_wp2_with fail
        go_ret
        exact ⟨rfl, X⟩
      have hap0 := HT2'.out hr2
      have s0 : decide (AP < 0) = false := decide_eq_false (by omega)
      have s2 : decide (RN < 2) = false := decide_eq_false hr2
      have s2' : decide ((RN : Int) < 2) = false := decide_eq_false (by omega)
      by_cases hr1 : e + 1 < (RN : Int)
      · have hae := HT1.out hr1
        have s1 : decide (e + 1 < (RN : Int)) = true := decide_eq_true hr1
        have s4 : decide (e < AP) = false := decide_eq_false (by omega)
        by_cases hbl : (BL : Int) ≤ e
        · obtain ⟨z1, z2⟩ := HT3b.out hbl
          have s3 : decide (e < (BL : Int)) = false := decide_eq_false (by omega)
          have s5 : ((RN : Int) == (p : Int)) = true := beq_iff_eq.2 (by omega)
          have s6 : decide (AP ≤ (BL : Int)) = true := decide_eq_true z2
          clear z1
          go_wp2_with fail
          go_ret
          exact ⟨rfl, X⟩
        · have s3 : decide (e < (BL : Int)) = true := decide_eq_true (by omega)
          go_wp2_with fail
          go_ret
          exact ⟨rfl, X⟩
      · have s1 : decide (e + 1 < (RN : Int)) = false := decide_eq_false hr1
        by_cases hbl : (BL : Int) ≤ e
        · obtain ⟨z1, z2⟩ := HT3b.out hbl
          have s3 : decide (e < (BL : Int)) = false := decide_eq_false (by omega)
          have s5 : ((RN : Int) == (p : Int)) = true := beq_iff_eq.2 (by omega)
          have s6 : decide (AP ≤ (BL : Int)) = true := decide_eq_true z2
          clear z1
          go_wp2_with fail
          go_ret
          exact ⟨rfl, X⟩
        · have s3 : decide (e < (BL : Int)) = true := decide_eq_true (by omega)
          go_wp2_with fail
          go_ret
          exact ⟨rfl, X⟩
end Go.Proofs.Ytgnngifnoaagjaa
