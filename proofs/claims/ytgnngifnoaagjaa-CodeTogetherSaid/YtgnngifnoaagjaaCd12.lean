/- Contract: code.line. -/
import Derived.Test.YtgnngifnoaagjaaCd11
import Derived.Test.YtgnngifnoaagjaaCL5
import Derived.Test.YtgnngifnoaagjaaCm8
namespace Go.Proofs.Ytgnngifnoaagjaa
open Go.RowKit

/-- Elements with slices, as cells. -/
abbrev NeC := Nat × SlC
def neL (E : List NeC) : List Value := E.flatMap fun x => [.int .u64 (x.1 : Int), celV x.2]
theorem neL_len (E : List NeC) : (neL E).length = E.length * 2 := by
  induction E with
  | nil => rfl
  | cons x E ih => unfold neL at ih ⊢; rw [List.flatMap_cons, List.length_append, ih]; simp; omega
theorem neL_app (E F : List NeC) : neL (E ++ F) = neL E ++ neL F := by unfold neL; rw [List.flatMap_append]
theorem neL_get : ∀ (E : List NeC) (i : Nat), i < E.length → (neL E)[i * 2]? = some (.int .u64 ((E.getD i (0, none, 0, 0)).1 : Int)) ∧ (neL E)[i * 2 + 1]? = some (celV (E.getD i (0, none, 0, 0)).2)
  | [], i, h => absurd h (by simp)
  | x :: E, 0, _ => by simp [neL]
  | x :: E, i + 1, h => by
    have ih := neL_get E i (by simpa using h)
    have e : neL (x :: E) = [.int .u64 (x.1 : Int), celV x.2] ++ neL E := by unfold neL; rw [List.flatMap_cons]
    rw [e, List.getElem?_append_right (by simp; omega), List.getElem?_append_right (by simp; omega)]
    simp only [List.length_cons, List.length_nil, List.getD_cons_succ]
    rw [show (i + 1) * 2 - (0 + 1 + 1) = i * 2 from by omega, show (i + 1) * 2 + 1 - (0 + 1 + 1) = i * 2 + 1 from by omega]
    exact ih
theorem one_neL (E : List NeC) : ∀ u ∈ neL E, u.oneCell' = true := by
  intro u hu
  simp only [neL, List.mem_flatMap] at hu
  obtain ⟨x, _, hx⟩ := hu
  simp only [List.mem_cons, List.not_mem_nil, or_false] at hx
  rcases hx with rfl | rfl <;> rfl
def OwnN (w : World) (base : Nat) (v : Value) (E : List NeC) : Prop := w.ownsRow base 82 2 v E.length (neL E)
theorem OwnN.nil (w : World) (base : Nat) : OwnN w base (.slice none 0 0) [] := World.ownsRow_nil _ _ _ _
theorem OwnN.grow {w w' : World} {base : Nat} {v : Value} {E : List NeC} (h : OwnN w base v E) (hx : Ext w w') : OwnN w' base v E := by
  refine ⟨h.1, ?_⟩
  rcases h.2 with hn | ⟨g, cap, cur, rfl, hb, hgg, rest⟩
  · exact .inl hn
  · exact .inr ⟨g, cap, cur, rfl, hb, (Below.block hx g (Array.getElem?_eq_some_iff.1 hgg).1).trans hgg, rest⟩
theorem OwnN.base {w : World} {base base' : Nat} {v : Value} {E : List NeC} (h : OwnN w base v E) (hb : base' ≤ base) : OwnN w base' v E := by
  refine ⟨h.1, ?_⟩
  rcases h.2 with hn | ⟨g, cap, cur, rfl, hg, rest⟩
  · exact .inl hn
  · exact .inr ⟨g, cap, cur, rfl, Nat.le_trans hb hg, rest⟩
theorem OwnN.form {w : World} {base : Nat} {v : Value} {E : List NeC} (h : OwnN w base v E) : ∃ a c, v = .slice a E.length c ∧ E.length ≤ c ∧ (E = [] ∨ ∃ g, a = some ⟨g, 0, none⟩ ∧ ∀ i, i < E.length → w.cell? ⟨g, i * 2, none⟩ = some (.int .u64 ((E.getD i (0, none, 0, 0)).1 : Int)) ∧ w.cell? ⟨g, i * 2 + 1, none⟩ = some (celV (E.getD i (0, none, 0, 0)).2)) := by
  rcases h.2 with ⟨rfl, hn⟩ | ⟨g, cap, cur, rfl, hb, hg, hnc, hm, hs, ht⟩
  · have : E = [] := List.eq_nil_of_length_eq_zero hn
    subst this
    exact ⟨none, 0, rfl, Nat.le_refl _, .inl rfl⟩
  · refine ⟨some ⟨g, 0, none⟩, cap, rfl, hnc, .inr ⟨g, rfl, fun i hi => ?_⟩⟩
    have hadd : ∀ i, (⟨g, 0, none⟩ : Addr).add i = ⟨g, i, none⟩ := fun i => by unfold Addr.add; split <;> simp_all
    have h1 := World.ownsRow.cells (w := w) h (g := g) rfl (i * 2) _ (neL_get E i hi).1
    have h2 := World.ownsRow.cells (w := w) h (g := g) rfl (i * 2 + 1) _ (neL_get E i hi).2
    rw [hadd] at h1 h2
    exact ⟨h1, h2⟩
theorem info_ne : (Try.prog.info? 82).map (fun i => (i.zero, i.size, i.bytes)) = some (some (.agg #[.int .u64 0, .slice none 0 0]), 2, 32) := by kernel_rfl
/-- append(v, x), x an element with its slice that was laid into cells of its own. -/
theorem wpList_appN1 {ops : Array Oper} {rest : List Oper} {o : Oper} {a : Act} {w : World} {Q : Exit → Act → World → Prop} (hgd : o.guard = none) (s x : Operand)
    (ho : o.op = .call { callee := .builtin .append, args := #[s, x], argTypes := #[78, 78] })
    (base : Nat) (v : Value) (E : List NeC) (hs : a.eval s = v) (hown : OwnN w base v E) (g r : Nat) (A : Option Addr) (m cc c : Nat)
    (hx : a.eval x = .slice (some ⟨g, 0, none⟩) 1 c) (hr0 : w.cell? ⟨g, 0, none⟩ = some (.int .u64 (r : Int))) (hr1 : w.cell? ⟨g, 1, none⟩ = some (.slice A m cc)) (hl : E.length + 1 ≤ 1000000000) (hbase : base ≤ w.heap.size)
    (h : ∀ v' w', OwnN w' base v' (E ++ [(r, A, m, cc)]) → (∀ w0, Ext w0 w → w0.heap.size ≤ base → Ext w0 w') → (∀ k, k < w.heap.size → v.ownBlock ≠ some k → w'.heap[k]? = w.heap[k]?) → w.heap.size ≤ w'.heap.size → (v'.ownBlock = v.ownBlock ∨ v'.ownBlock = some w.heap.size) → wpList Try.prog ops Q rest (a.put o.dst v') w') : wpList Try.prog ops Q (o :: rest) a w := by
  obtain ⟨i0, hi, hz0, hz1, hz2⟩ := info_parts info_ne
  refine wpList_appG hgd s x 78 82 i0 (.agg #[.int .u64 0, .slice none 0 0]) 2 32 ho Try.underlying78 hi hz0 hz1 hz2 rfl (by decide) (by decide) base v E.length (neL E) hs hown ⟨g, 0, none⟩ 1 c (neL [(r, A, m, cc)]) hx (by simp [neL]) ?_ (one_neL _) (by decide) hl hbase ?_
  · intro j u hu
    have hadd : (⟨g, 0, none⟩ : Addr).add j = ⟨g, j, none⟩ := by unfold Addr.add; split <;> simp_all
    rw [hadd]
    have hj : j = 0 ∨ j = 1 := by
      rcases Nat.lt_or_ge j 2 with e | e
      · omega
      · rw [List.getElem?_eq_none (by rw [neL_len]; simpa using e)] at hu; cases hu
    rcases hj with rfl | rfl
    · rw [hr0]; simpa [neL, celV] using hu
    · rw [hr1]; simpa [neL, celV] using hu
  · intro v' w' h2 h3 h4 h5 h6
    refine h v' w' ?_ h3 h4 h5 h6
    unfold OwnN
    rw [neL_app, List.length_append]; exact h2

def TwoN (x y : Nat) : Fact := fun w v => ∃ g, v = .slice (some ⟨g, 0, none⟩) 2 2 ∧ Rd w (some ⟨g, 0, none⟩) [x, y]
theorem TwoN.mono {x y : Nat} : Mono (TwoN x y) := fun _ _ _ hx ⟨g, hv, hr⟩ => ⟨g, hv, hr.ext hx⟩
def N2F (base : Nat) (l : List Nat) (b : Bool) : Fact := fun w v => ∃ u, v = .tuple #[u, .bool b] ∧ Own w base u l
theorem N2F.mono {base : Nat} {l : List Nat} {b : Bool} : Mono (N2F base l b) := fun _ _ _ hx ⟨u, hv, ho⟩ => ⟨u, hv, ho.grow hx⟩
theorem foldLn_c (p N : Nat) (x y : List Nat) (hv : vld p = true) (hx : x.length = N) (hy : y.length = N) (hN : N ≤ 1000) (r g : Nat) (A B C : Option Addr) (ca cb : Nat) (w : World) (h0 : w.cell? ⟨g, 0, none⟩ = some (celV (A, N, ca))) (h1 : w.cell? ⟨g, 1, none⟩ = some (celV (B, N, cb))) (hA : Rd w A x) (hB : Rd w B y) (hC : Rd w C [1, r]) :
    Calls Try.prog 32 #[.int .u64 p, .slice (some ⟨g, 0, none⟩) 2 2, .slice C 2 2] w (SlPost w (lnw p N x y r)) := by
  have := Fold_c p [x, y] [1, r] (some ⟨g, 0, none⟩) C 2 2 w ((Rows2.two (c := ca) (d := cb) hA hB).rdR (RdV.two (by rw [hx]; exact h0) (by rw [hy]; exact h1))) hC (by simp) (by simp; omega)
  rw [lnw_fold hv hx hy] at this
  exact this

/-- line. -/
def cLine (p : Nat) (n k : Int) (l m : List Nat) (e : Int) : List (Nat × List Nat) × Int :=
  if vld p = false then ([], 7) else if cval p n k = true ∧ p ≤ 257 ∧ (l.length : Int) = n ∧ (m.length : Int) = n ∧ 0 ≤ e ∧ e ≤ (n - k) / 3 then (lineM p n.toNat k.toNat l m e, 0) else ([], 1)
def LnRows (w : World) (E : List NeC) (R : List (Nat × List Nat)) : Prop := E.map (·.1) = R.map (·.1) ∧ Rows2 w (E.map (·.2)) (R.map (·.2))
theorem LnRows.ext {w w' : World} {E : List NeC} {R : List (Nat × List Nat)} (h : LnRows w E R) (hx : Ext w w') : LnRows w' E R := ⟨h.1, h.2.ext hx⟩
theorem LnRows.len {w : World} {E : List NeC} {R : List (Nat × List Nat)} (h : LnRows w E R) : E.length = R.length := by have := congrArg List.length h.1; simpa using this
def LnPost (w : World) (R : List (Nat × List Nat)) (n : Int) (e : Ending) (w' : World) : Prop :=
  ∃ v E, e = .returned (.tuple #[v, .int .i64 n]) ∧ OwnN w' w.heap.size v E ∧ LnRows w' E R ∧ Ext w w'
theorem LnRows.nil (w : World) : LnRows w [] [] := ⟨rfl, Rows2.nil _⟩
def LnRel (p N K : Nat) (a b : List Nat) (e : Int) (w1 : World) (v s : Value) (wr : World) : Prop :=
  ∃ (j : Nat) (E : List NeC), s = .int .u64 j ∧ j ≤ p ∧ OwnN wr w1.heap.size v E ∧ LnRows wr E (lineK p N K a b e j) ∧ (∀ i, i < (E.map (·.2)).length → Off v wr.heap.size ((E.map (·.2)).getD i (none, 0, 0)).1) ∧ Ext w1 wr

set_option maxRecDepth 100000 in
set_option maxHeartbeats 8000000 in
theorem line_c (p : Nat) (n k : Int) (l m : List Nat) (e : Int) (a b : Option Addr) (c d : Nat) (w : World) (ha : Rd w a l) (hb : Rd w b m) (hn : n ≤ 9223372036854775807) (hn2 : -9223372036854775808 ≤ n) :
    Calls Try.prog 56 #[.agg #[.int .u64 p, .int .i64 n, .int .i64 k], .slice a l.length c, .slice b m.length d, .int .i64 e] w (LnPost w (cLine p n k l m e).1 (cLine p n k l m e).2) := by
  have HA := Lib.hid ha
  have HB := Lib.hid hb
  clear ha hb
  have h0 : (w.alloc (.cells #[.int .u64 p, .int .i64 n, .int .i64 k] 31)).cell? ⟨w.heap.size, 0, none⟩ = some (.int .u64 p) := by simp
  have h1 : (w.alloc (.cells #[.int .u64 p, .int .i64 n, .int .i64 k] 31)).cell? ⟨w.heap.size, 1, none⟩ = some (.int .i64 n) := by simp
  have h2 : (w.alloc (.cells #[.int .u64 p, .int .i64 n, .int .i64 k] 31)).cell? ⟨w.heap.size, 2, none⟩ = some (.int .i64 k) := by simp
  cases hv : vld p
  case false =>
    have V := Lib.hid hv
    have E : Hid (cLine p n k l m e = ([], 7)) := Lib.hid (by unfold cLine; rw [if_pos hv])
    clear hv
    go_enter Try.func56, Try.ntmps56
    go_wp2_with fail
    refine (Valid_c _ _).mono ?_; rintro e w1 ⟨rfl, x1⟩; rw [V.out]
    replace h0 := x1.box.cell h0
    replace h1 := x1.box.cell h1
    replace h2 := x1.box.cell h2
    have X := x1.box.box
    clear x1
    go_wp2_with fail
    go_ret2
    rw [E.out]; exact ⟨_, [], rfl, OwnN.nil _ _, LnRows.nil _, X⟩
  have V := Lib.hid hv
  have VC := Lib.hid (fun w' => CValid_c p n k w' hn hn2)
  have hv2 : ¬ vld p = false := by rw [hv]; simp
  have HV := Lib.hid hv
  clear hv
  cases hc : cval p n k
  case false =>
    have C := Lib.hid hc
    have E : Hid (cLine p n k l m e = ([], 1)) := Lib.hid (by unfold cLine; rw [if_neg hv2, if_neg (fun h => by rw [hc] at h; cases h.1)])
    clear hc hv2
    go_enter Try.func56, Try.ntmps56
    go_wp2_with fail
    refine (Valid_c _ _).mono ?_; rintro e w1 ⟨rfl, x1⟩; rw [V.out]
    replace h0 := x1.box.cell h0
    replace h1 := x1.box.cell h1
    replace h2 := x1.box.cell h2
    have X := x1.box.box
    clear x1
    go_wp2_with fail
    refine (VC.out _).mono ?_; rintro e w2 ⟨rfl, x2⟩; rw [C.out]
    replace h0 := x2.cell h0
    replace h1 := x2.cell h1
    replace h2 := x2.cell h2
    replace X := X.trans x2
    clear x2
    go_wp2_with fail
    go_ret2
    rw [E.out]; exact ⟨_, [], rfl, OwnN.nil _ _, LnRows.nil _, X⟩
  have C := Lib.hid hc
  obtain ⟨_, f, K, N, hf, hN, rfl, rfl, hK1, hK2, hNp, hd, ho⟩ := cval_spec hc
  have hN2 : N ≤ 256 := by rw [hN]; exact Nat.pow_le_pow_right (n := 2) (by omega) hf
  obtain ⟨q, hq⟩ : ∃ q : Nat, q = (N - K) / 3 := ⟨_, rfl⟩
  have hq2 : ((N : Int) - (K : Int)) / 3 = (q : Int) := by omega
  have hqn : q ≤ 256 := by omega
  have hc2 := cval_W hc
  have HW := Lib.hid hc2
  clear hd ho hN hf hq hc2
  by_cases b0 : p ≤ 257
  case neg =>
    have t0 : decide (257 < p) = true := decide_eq_true (by omega)
    have t0' : decide ((257 : Int) < (p : Int)) = true := decide_eq_true (by omega)
    have E : Hid (cLine p N K l m e = ([], 1)) := Lib.hid (by unfold cLine; rw [if_neg hv2, if_neg (fun h => b0 h.2.1)])
    clear hc hv2 b0
    go_enter Try.func56, Try.ntmps56
    go_wp2_with fail
    refine (Valid_c _ _).mono ?_; rintro e w1 ⟨rfl, x1⟩; rw [V.out]
    replace h0 := x1.box.cell h0
    replace h1 := x1.box.cell h1
    replace h2 := x1.box.cell h2
    have X := x1.box.box
    clear x1
    go_wp2_with fail
    refine (VC.out _).mono ?_; rintro e w2 ⟨rfl, x2⟩; rw [C.out]
    replace h0 := x2.cell h0
    replace h1 := x2.cell h1
    replace h2 := x2.cell h2
    replace X := X.trans x2
    clear x2
    go_wp2_with fail
    go_ret2
    rw [E.out]; exact ⟨_, [], rfl, OwnN.nil _ _, LnRows.nil _, X⟩
  have t0 : decide (257 < p) = false := decide_eq_false (by omega)
  have t0' : decide ((257 : Int) < (p : Int)) = false := decide_eq_false (by omega)
  by_cases b1 : l.length = N
  case neg =>
    have t1 : ((l.length : Int) != (N : Int)) = true := bne_iff_ne.2 (by omega)
    have E : Hid (cLine p N K l m e = ([], 1)) := Lib.hid (by unfold cLine; rw [if_neg hv2, if_neg (fun h => b1 (by omega))])
    clear hc hv2 b1
    go_enter Try.func56, Try.ntmps56
    go_wp2_with fail
    refine (Valid_c _ _).mono ?_; rintro e w1 ⟨rfl, x1⟩; rw [V.out]
    replace h0 := x1.box.cell h0
    replace h1 := x1.box.cell h1
    replace h2 := x1.box.cell h2
    have X := x1.box.box
    clear x1
    go_wp2_with fail
    refine (VC.out _).mono ?_; rintro e w2 ⟨rfl, x2⟩; rw [C.out]
    replace h0 := x2.cell h0
    replace h1 := x2.cell h1
    replace h2 := x2.cell h2
    replace X := X.trans x2
    clear x2
    go_wp2_with fail
    go_ret2
    rw [E.out]; exact ⟨_, [], rfl, OwnN.nil _ _, LnRows.nil _, X⟩
  have t1 : ((l.length : Int) != (N : Int)) = false := by rw [b1]; simp
  have HB1 := Lib.hid b1
  by_cases b2 : m.length = N
  case neg =>
    have t2 : ((m.length : Int) != (N : Int)) = true := bne_iff_ne.2 (by omega)
    have E : Hid (cLine p N K l m e = ([], 1)) := Lib.hid (by unfold cLine; rw [if_neg hv2, if_neg (fun h => b2 (by omega))])
    clear hc hv2 b1 b2
    go_enter Try.func56, Try.ntmps56
    go_wp2_with fail
    refine (Valid_c _ _).mono ?_; rintro e w1 ⟨rfl, x1⟩; rw [V.out]
    replace h0 := x1.box.cell h0
    replace h1 := x1.box.cell h1
    replace h2 := x1.box.cell h2
    have X := x1.box.box
    clear x1
    go_wp2_with fail
    refine (VC.out _).mono ?_; rintro e w2 ⟨rfl, x2⟩; rw [C.out]
    replace h0 := x2.cell h0
    replace h1 := x2.cell h1
    replace h2 := x2.cell h2
    replace X := X.trans x2
    clear x2
    go_wp2_with fail
    go_ret2
    rw [E.out]; exact ⟨_, [], rfl, OwnN.nil _ _, LnRows.nil _, X⟩
  have t2 : ((m.length : Int) != (N : Int)) = false := by rw [b2]; simp
  have HB2 := Lib.hid b2
  by_cases b3 : 0 ≤ e
  case neg =>
    have t3 : decide (e < 0) = true := decide_eq_true (by omega)
    have E : Hid (cLine p N K l m e = ([], 1)) := Lib.hid (by unfold cLine; rw [if_neg hv2, if_neg (fun h => b3 h.2.2.2.2.1)])
    clear hc hv2 b1 b2 b3
    go_enter Try.func56, Try.ntmps56
    go_wp2_with fail
    refine (Valid_c _ _).mono ?_; rintro e w1 ⟨rfl, x1⟩; rw [V.out]
    replace h0 := x1.box.cell h0
    replace h1 := x1.box.cell h1
    replace h2 := x1.box.cell h2
    have X := x1.box.box
    clear x1
    go_wp2_with fail
    refine (VC.out _).mono ?_; rintro e w2 ⟨rfl, x2⟩; rw [C.out]
    replace h0 := x2.cell h0
    replace h1 := x2.cell h1
    replace h2 := x2.cell h2
    replace X := X.trans x2
    clear x2
    go_wp2_with fail
    go_ret2
    rw [E.out]; exact ⟨_, [], rfl, OwnN.nil _ _, LnRows.nil _, X⟩
  have t3 : decide (e < 0) = false := decide_eq_false (by omega)
  by_cases b4 : e ≤ (q : Int)
  case neg =>
    have t4 : decide ((q : Int) < e) = true := decide_eq_true (by omega)
    have E : Hid (cLine p N K l m e = ([], 1)) := Lib.hid (by unfold cLine; rw [if_neg hv2, if_neg (fun h => by rw [hq2] at h; exact b4 h.2.2.2.2.2)])
    clear hc hv2 b1 b2 b3 b4
    go_enter Try.func56, Try.ntmps56
    go_wp2_with fail
    refine (Valid_c _ _).mono ?_; rintro e w1 ⟨rfl, x1⟩; rw [V.out]
    replace h0 := x1.box.cell h0
    replace h1 := x1.box.cell h1
    replace h2 := x1.box.cell h2
    have X := x1.box.box
    clear x1
    go_wp2_with fail
    refine (VC.out _).mono ?_; rintro e w2 ⟨rfl, x2⟩; rw [C.out]
    replace h0 := x2.cell h0
    replace h1 := x2.cell h1
    replace h2 := x2.cell h2
    replace X := X.trans x2
    clear x2
    go_wp2_with fail
    go_ret2
    rw [E.out]; exact ⟨_, [], rfl, OwnN.nil _ _, LnRows.nil _, X⟩
  have t4 : decide ((q : Int) < e) = false := decide_eq_false (by omega)
  have E : Hid (cLine p N K l m e = (lineK p N K l m e p, 0)) := Lib.hid (by unfold cLine lineM; rw [if_neg hv2, if_pos ⟨hc, b0, by omega, by omega, b3, by rw [hq2]; exact b4⟩, Int.toNat_natCast, Int.toNat_natCast])
  have NC := Lib.hid (fun (x : List Nat) w' (a : Option Addr) (c : Nat) (hr : Rd w' a x) (hx : x.length = N) => nearest_c p N K x e a c w' HW.out hr hx hN2 hK1 hK2)
  have FC := Lib.hid (fun (r g : Nat) (A B C : Option Addr) (ca cb : Nat) w' h0 h1 hA hB hC => foldLn_c p N l m HV.out b1 b2 (by omega) r g A B C ca cb w' h0 h1 hA hB hC)
  clear hc hv2 b3 b4 b1 b2
  go_enter Try.func56, Try.ntmps56
  go_wp2_with fail
  refine (Valid_c _ _).mono ?_; rintro e w1 ⟨rfl, x1⟩; rw [V.out]
  replace h0 := x1.box.cell h0
  replace h1 := x1.box.cell h1
  replace h2 := x1.box.cell h2
  have X := x1.box.box
  clear x1
  go_wp2_with fail
  refine (VC.out _).mono ?_; rintro e w2 ⟨rfl, x2⟩; rw [C.out]
  replace h0 := x2.cell h0
  replace h1 := x2.cell h1
  replace h2 := x2.cell h2
  replace X := X.trans x2
  clear x2
  go_wp2_with fail
  have XW2 := Lib.hid X
  rw [hq2]
  go_loopw [11, 59] (LnRel p N K l m e w2) (fun _ i _ => p - (intOf i).toNat)
  case atStart => exact ⟨0, [], rfl, Nat.zero_le _, OwnN.nil _ _, LnRows.nil _, fun i hi => absurd hi (by simp), Ext.refl _⟩
  case round =>
    obtain ⟨j, E0, rfl, hj, ho, hr, hoff, hext⟩ := hrel
    replace h0 := hext.cell h0
    replace h1 := hext.cell h1
    replace h2 := hext.cell h2
    replace X := X.trans hext
    have HO := Lib.hid ho
    have HR := Lib.hid hr
    have HOFF := Lib.hid hoff
    have HXX := Lib.hid hext
    have HLEN := Lib.hid (show E0.length ≤ 257 from by
      have := hr.len; have := lineK_len p N K l m e j; omega)
    clear ho hr hoff hext
    by_cases hlt : j < p
    · have E1 : Hid (lineK p N K l m e (j + 1) = lineK p N K l m e j ++ (match nearM p N K (lnw p N l m j) e with | some x => [(j, x)] | none => [])) := Lib.hid rfl
      obtain ⟨LW, hLW⟩ : ∃ L, L = lnw p N l m j := ⟨_, rfl⟩
      have hwl : LW.length = N := by rw [hLW]; exact lnw_len _ _ _ _ _
      have HWL := Lib.hid hwl
      have FCJ := FC.out j
      have NCJ := NC.out LW
      rw [← hLW] at E1 FCJ
      have HFC := Lib.hid FCJ
      clear hLW hwl FCJ
      cases hnm : nearM p N K LW e with
      | none =>
        rw [hnm] at NCJ
        have HE1 : Hid (lineK p N K l m e (j + 1) = lineK p N K l m e j ++ []) := Lib.hid (by rw [E1.out, hnm])
        have HNC : Hid (∀ w' (a : Option Addr) (c : Nat), Rd w' a LW → LW.length = N → Calls Try.prog 49 #[.agg #[.int .u64 p, .int .i64 N, .int .i64 K], .slice a N c, .int .i64 e] w' fun e w'' => ∃ v, e = .returned (.tuple #[v, .bool false]) ∧ Own w'' w'.heap.size v [] ∧ Ext w' w'') := Lib.hid (fun w' a c h hl => by have := NCJ w' a c h hl; rw [hl] at this; exact this)
        clear NCJ E1 hnm
        go_wp2_with fail
        refine region_facts [[], [], [(1, 64)], [], [], [(3, 66), (4, 67)], [], [(6, 69)], [(2, 65), (5, 68), (7, 70)], [], [(0, 63), (8, 71), (9, 72)], [(10, 73)], [(11, 62)], [(11, 62)], [(12, 74)], [(13, 75)]] [some 63, some 64, some 65, some 66, some 67, some 68, some 69, some 70, some 71, some 72, some 73, some 62, some 74, some 75, some 13, some 14] (by kernel_rfl) (by kernel_rfl) ?_
        with_reducible apply From.eq
        · intro w' hx; have h0x := hx.cell h0; have h1x := hx.cell h1; have h2x := hx.cell h2; (try dsimp only [List.nil_append, List.cons_append]); dsimp only [DepsV, fat, eqF]; go_wp2; exact OpPost.some _ rfl rfl (Ext.refl _) rfl
        with_reducible apply From.eq
        · intro w' hx; have h0x := hx.cell h0; have h1x := hx.cell h1; have h2x := hx.cell h2; (try dsimp only [List.nil_append, List.cons_append]); dsimp only [DepsV, fat, eqF]; go_wp2; exact OpPost.some _ rfl rfl (Ext.refl _) rfl
        with_reducible apply From.eq
        · intro w' hx; have h0x := hx.cell h0; have h1x := hx.cell h1; have h2x := hx.cell h2; (try dsimp only [List.nil_append, List.cons_append]); dsimp only [DepsV, fat, eqF]; rintro _ rfl; go_wp2; exact OpPost.some _ rfl rfl (Ext.refl _) rfl
        with_reducible apply From.eq
        · intro w' hx; have h0x := hx.cell h0; have h1x := hx.cell h1; have h2x := hx.cell h2; (try dsimp only [List.nil_append, List.cons_append]); dsimp only [DepsV, fat, eqF]; go_wp2; exact OpPost.some _ rfl rfl (Ext.refl _) rfl
        with_reducible apply From.eq
        · intro w' hx; have h0x := hx.cell h0; have h1x := hx.cell h1; have h2x := hx.cell h2; (try dsimp only [List.nil_append, List.cons_append]); dsimp only [DepsV, fat, eqF]; go_wp2; exact OpPost.some _ rfl rfl (Ext.refl _) rfl
        -- 5: t68
        refine From.step (TwoF (a, N, c) (b, N, d)) TwoF.mono ?_ ?_
        · intro w' hx; have h0x := hx.cell h0; have h1x := hx.cell h1; have h2x := hx.cell h2; (try dsimp only [List.nil_append, List.cons_append]); dsimp only [DepsV, fat, eqF]; rintro _ rfl _ rfl; go_wp2; exact OpPost.some _ rfl rfl ((Ext.refl _).alloc _) ⟨_, rfl, by simp [celV]; exact HB1.out, by simp [celV]; exact HB2.out⟩
        with_reducible apply From.eq
        · intro w' hx; have h0x := hx.cell h0; have h1x := hx.cell h1; have h2x := hx.cell h2; (try dsimp only [List.nil_append, List.cons_append]); dsimp only [DepsV, fat, eqF]; go_wp2; exact OpPost.some _ rfl rfl (Ext.refl _) rfl
        -- 7: t70
        refine From.step (TwoN 1 j) TwoN.mono ?_ ?_
        · intro w' hx; have h0x := hx.cell h0; have h1x := hx.cell h1; have h2x := hx.cell h2; (try dsimp only [List.nil_append, List.cons_append]); dsimp only [DepsV, fat, eqF]; rintro _ rfl; go_wp2; exact OpPost.some _ rfl rfl ((Ext.refl _).alloc _) ⟨_, rfl, Rd.two (by simp) (by simp)⟩
        refine From.step (OwnF wr.heap.size LW) (OwnF.mono) ?_ ?_
        · intro w' hx; have h0x := hx.cell h0; have h1x := hx.cell h1; have h2x := hx.cell h2; (try dsimp only [List.nil_append, List.cons_append]); dsimp only [DepsV, fat, eqF]; rintro _ rfl; rintro v5 k5; rintro v7 k7; obtain ⟨g5, rfl, q0, q1⟩ := k5; obtain ⟨g7, rfl, q2⟩ := k7;
          go_wp2_with (go_at_call 32; refine (HFC.out _ _ _ _ _ _ _ q0 q1 (HA.out.ext (X.trans hx)) (HB.out.ext (X.trans hx)) q2).mono ?_; rintro e w2 ⟨v, rfl, ho, hn'⟩); exact OpPost.some _ rfl rfl hn' (ho.base hx.size)
        with_reducible apply From.eq
        · intro w' hx; have h0x := hx.cell h0; have h1x := hx.cell h1; have h2x := hx.cell h2; (try dsimp only [List.nil_append, List.cons_append]); dsimp only [DepsV, fat, eqF]; go_wp2; exact OpPost.some _ rfl rfl (Ext.refl _) rfl
        refine From.step (N2F wr.heap.size [] false) (N2F.mono) ?_ ?_
        · intro w' hx; have h0x := hx.cell h0; have h1x := hx.cell h1; have h2x := hx.cell h2; (try dsimp only [List.nil_append, List.cons_append]); dsimp only [DepsV, fat, eqF]; rintro _ rfl; rintro v8 k8; rintro _ rfl; obtain ⟨a8, c8, rfl, _, r8⟩ := Own.formN k8 N HWL.out;
          go_wp2_with (go_at_call 49; refine (HNC.out _ _ _ r8 HWL.out).mono ?_; rintro e w2 ⟨v, rfl, ho, hn'⟩); exact OpPost.some _ rfl rfl hn' ⟨v, rfl, ho.base hx.size⟩
        refine From.step (N2F wr.heap.size [] false) (N2F.mono) ?_ ?_
        · intro w' hx; have h0x := hx.cell h0; have h1x := hx.cell h1; have h2x := hx.cell h2; (try dsimp only [List.nil_append, List.cons_append]); dsimp only [DepsV, fat, eqF]; rintro v10 k10; go_wp2; exact OpPost.some _ rfl rfl (Ext.refl _) k10
        -- 12: t74
        refine From.step (OwnF wr.heap.size []) OwnF.mono ?_ ?_
        · intro w' hx; have h0x := hx.cell h0; have h1x := hx.cell h1; have h2x := hx.cell h2; (try dsimp only [List.nil_append, List.cons_append]); dsimp only [DepsV, fat, eqF]; rintro v11_ h11_; obtain ⟨u, rfl, hu⟩ := h11_; go_wp2; exact OpPost.some _ rfl rfl (Ext.refl _) hu
        -- 13: t75
        with_reducible apply From.eq
        · intro w' hx; have h0x := hx.cell h0; have h1x := hx.cell h1; have h2x := hx.cell h2; (try dsimp only [List.nil_append, List.cons_append]); dsimp only [DepsV, fat, eqF]; rintro v11_ h11_; obtain ⟨u, rfl, hu⟩ := h11_; go_wp2; exact OpPost.some _ rfl rfl (Ext.refl _) rfl
        -- 14: t13
        refine From.step (OwnF wr.heap.size []) OwnF.mono ?_ ?_
        · intro w' hx; have h0x := hx.cell h0; have h1x := hx.cell h1; have h2x := hx.cell h2; (try dsimp only [List.nil_append, List.cons_append]); dsimp only [DepsV, fat, eqF]; rintro v12 k12; go_wp2; exact OpPost.some _ rfl rfl (Ext.refl _) k12
        with_reducible apply From.eq
        · intro w' hx; have h0x := hx.cell h0; have h1x := hx.cell h1; have h2x := hx.cell h2; (try dsimp only [List.nil_append, List.cons_append]); dsimp only [DepsV, fat, eqF]; rintro _ rfl; go_wp2; exact OpPost.some _ rfl rfl (Ext.refl _) rfl
        with_reducible refine From.fin ?_
        intro w' hx
        (try dsimp only [List.nil_append, List.cons_append]); dsimp only [EndV, eqF]; rintro _ rfl _ rfl _ rfl _ rfl _ rfl v5 k5 _ rfl v7 k7 v8 k8 _ rfl v10 k10 v11_ h11_ v12 k12 _ rfl v14 k14 _ rfl; simp only [Act.put, List.setIfInBounds_toArray, List.set_cons_zero, List.set_cons_succ]
        obtain ⟨u5, rfl, _⟩ := k10
        obtain ⟨u6, rfl, _⟩ := h11_
        replace X := X.trans hx
        have HX5 := Lib.hid hx
        clear hx k5 k7 k8 k12
        obtain ⟨ua, uc, hvv, _, _⟩ := Own.formN k14 0 rfl
        subst hvv
        clear k14
        go_wp2_with fail
        go_roundw
        case rel => exact ⟨j + 1, E0, by go_num, by omega, HO.out.grow HX5.out, by rw [HE1.out, List.append_nil]; exact HR.out.ext HX5.out, fun i hi q hq => ⟨by have := (HOFF.out i hi q hq).1; have := HX5.out.size; omega, (HOFF.out i hi q hq).2⟩, HXX.out.trans HX5.out⟩
        case measure => simp [intOf]; omega
      | some Y =>
        have hyl : Y.length = N := by
          obtain ⟨f, _, q2, _⟩ := near_sound hnm
          rw [q2, cword_len]
        have HYL := Lib.hid hyl
        clear hyl
        rw [hnm] at NCJ
        have HE1 : Hid (lineK p N K l m e (j + 1) = lineK p N K l m e j ++ [(j, Y)]) := Lib.hid (by rw [E1.out, hnm])
        have HNC : Hid (∀ w' (a : Option Addr) (c : Nat), Rd w' a LW → LW.length = N → Calls Try.prog 49 #[.agg #[.int .u64 p, .int .i64 N, .int .i64 K], .slice a N c, .int .i64 e] w' fun e w'' => ∃ v, e = .returned (.tuple #[v, .bool true]) ∧ Own w'' w'.heap.size v Y ∧ Ext w' w'') := Lib.hid (fun w' a c h hl => by have := NCJ w' a c h hl; rw [hl] at this; exact this)
        clear NCJ E1 hnm
        go_wp2_with fail
        refine region_facts [[], [], [(1, 64)], [], [], [(3, 66), (4, 67)], [], [(6, 69)], [(2, 65), (5, 68), (7, 70)], [], [(0, 63), (8, 71), (9, 72)], [(10, 73)], [(11, 62)], [(11, 62)], [(12, 74)], [(13, 75)]] [some 63, some 64, some 65, some 66, some 67, some 68, some 69, some 70, some 71, some 72, some 73, some 62, some 74, some 75, some 13, some 14] (by kernel_rfl) (by kernel_rfl) ?_
        with_reducible apply From.eq
        · intro w' hx; have h0x := hx.cell h0; have h1x := hx.cell h1; have h2x := hx.cell h2; (try dsimp only [List.nil_append, List.cons_append]); dsimp only [DepsV, fat, eqF]; go_wp2; exact OpPost.some _ rfl rfl (Ext.refl _) rfl
        with_reducible apply From.eq
        · intro w' hx; have h0x := hx.cell h0; have h1x := hx.cell h1; have h2x := hx.cell h2; (try dsimp only [List.nil_append, List.cons_append]); dsimp only [DepsV, fat, eqF]; go_wp2; exact OpPost.some _ rfl rfl (Ext.refl _) rfl
        with_reducible apply From.eq
        · intro w' hx; have h0x := hx.cell h0; have h1x := hx.cell h1; have h2x := hx.cell h2; (try dsimp only [List.nil_append, List.cons_append]); dsimp only [DepsV, fat, eqF]; rintro _ rfl; go_wp2; exact OpPost.some _ rfl rfl (Ext.refl _) rfl
        with_reducible apply From.eq
        · intro w' hx; have h0x := hx.cell h0; have h1x := hx.cell h1; have h2x := hx.cell h2; (try dsimp only [List.nil_append, List.cons_append]); dsimp only [DepsV, fat, eqF]; go_wp2; exact OpPost.some _ rfl rfl (Ext.refl _) rfl
        with_reducible apply From.eq
        · intro w' hx; have h0x := hx.cell h0; have h1x := hx.cell h1; have h2x := hx.cell h2; (try dsimp only [List.nil_append, List.cons_append]); dsimp only [DepsV, fat, eqF]; go_wp2; exact OpPost.some _ rfl rfl (Ext.refl _) rfl
        -- 5: t68
        refine From.step (TwoF (a, N, c) (b, N, d)) TwoF.mono ?_ ?_
        · intro w' hx; have h0x := hx.cell h0; have h1x := hx.cell h1; have h2x := hx.cell h2; (try dsimp only [List.nil_append, List.cons_append]); dsimp only [DepsV, fat, eqF]; rintro _ rfl _ rfl; go_wp2; exact OpPost.some _ rfl rfl ((Ext.refl _).alloc _) ⟨_, rfl, by simp [celV]; exact HB1.out, by simp [celV]; exact HB2.out⟩
        with_reducible apply From.eq
        · intro w' hx; have h0x := hx.cell h0; have h1x := hx.cell h1; have h2x := hx.cell h2; (try dsimp only [List.nil_append, List.cons_append]); dsimp only [DepsV, fat, eqF]; go_wp2; exact OpPost.some _ rfl rfl (Ext.refl _) rfl
        -- 7: t70
        refine From.step (TwoN 1 j) TwoN.mono ?_ ?_
        · intro w' hx; have h0x := hx.cell h0; have h1x := hx.cell h1; have h2x := hx.cell h2; (try dsimp only [List.nil_append, List.cons_append]); dsimp only [DepsV, fat, eqF]; rintro _ rfl; go_wp2; exact OpPost.some _ rfl rfl ((Ext.refl _).alloc _) ⟨_, rfl, Rd.two (by simp) (by simp)⟩
        refine From.step (OwnF wr.heap.size LW) (OwnF.mono) ?_ ?_
        · intro w' hx; have h0x := hx.cell h0; have h1x := hx.cell h1; have h2x := hx.cell h2; (try dsimp only [List.nil_append, List.cons_append]); dsimp only [DepsV, fat, eqF]; rintro _ rfl; rintro v5 k5; rintro v7 k7; obtain ⟨g5, rfl, q0, q1⟩ := k5; obtain ⟨g7, rfl, q2⟩ := k7;
          go_wp2_with (go_at_call 32; refine (HFC.out _ _ _ _ _ _ _ q0 q1 (HA.out.ext (X.trans hx)) (HB.out.ext (X.trans hx)) q2).mono ?_; rintro e w2 ⟨v, rfl, ho, hn'⟩); exact OpPost.some _ rfl rfl hn' (ho.base hx.size)
        with_reducible apply From.eq
        · intro w' hx; have h0x := hx.cell h0; have h1x := hx.cell h1; have h2x := hx.cell h2; (try dsimp only [List.nil_append, List.cons_append]); dsimp only [DepsV, fat, eqF]; go_wp2; exact OpPost.some _ rfl rfl (Ext.refl _) rfl
        refine From.step (N2F wr.heap.size Y true) (N2F.mono) ?_ ?_
        · intro w' hx; have h0x := hx.cell h0; have h1x := hx.cell h1; have h2x := hx.cell h2; (try dsimp only [List.nil_append, List.cons_append]); dsimp only [DepsV, fat, eqF]; rintro _ rfl; rintro v8 k8; rintro _ rfl; obtain ⟨a8, c8, rfl, _, r8⟩ := Own.formN k8 N HWL.out;
          go_wp2_with (go_at_call 49; refine (HNC.out _ _ _ r8 HWL.out).mono ?_; rintro e w2 ⟨v, rfl, ho, hn'⟩); exact OpPost.some _ rfl rfl hn' ⟨v, rfl, ho.base hx.size⟩
        refine From.step (N2F wr.heap.size Y true) (N2F.mono) ?_ ?_
        · intro w' hx; have h0x := hx.cell h0; have h1x := hx.cell h1; have h2x := hx.cell h2; (try dsimp only [List.nil_append, List.cons_append]); dsimp only [DepsV, fat, eqF]; rintro v10 k10; go_wp2; exact OpPost.some _ rfl rfl (Ext.refl _) k10
        -- 12: t74
        refine From.step (OwnF wr.heap.size Y) OwnF.mono ?_ ?_
        · intro w' hx; have h0x := hx.cell h0; have h1x := hx.cell h1; have h2x := hx.cell h2; (try dsimp only [List.nil_append, List.cons_append]); dsimp only [DepsV, fat, eqF]; rintro v11_ h11_; obtain ⟨u, rfl, hu⟩ := h11_; go_wp2; exact OpPost.some _ rfl rfl (Ext.refl _) hu
        -- 13: t75
        with_reducible apply From.eq
        · intro w' hx; have h0x := hx.cell h0; have h1x := hx.cell h1; have h2x := hx.cell h2; (try dsimp only [List.nil_append, List.cons_append]); dsimp only [DepsV, fat, eqF]; rintro v11_ h11_; obtain ⟨u, rfl, hu⟩ := h11_; go_wp2; exact OpPost.some _ rfl rfl (Ext.refl _) rfl
        -- 14: t13
        refine From.step (OwnF wr.heap.size Y) OwnF.mono ?_ ?_
        · intro w' hx; have h0x := hx.cell h0; have h1x := hx.cell h1; have h2x := hx.cell h2; (try dsimp only [List.nil_append, List.cons_append]); dsimp only [DepsV, fat, eqF]; rintro v12 k12; go_wp2; exact OpPost.some _ rfl rfl (Ext.refl _) k12
        with_reducible apply From.eq
        · intro w' hx; have h0x := hx.cell h0; have h1x := hx.cell h1; have h2x := hx.cell h2; (try dsimp only [List.nil_append, List.cons_append]); dsimp only [DepsV, fat, eqF]; rintro _ rfl; go_wp2; exact OpPost.some _ rfl rfl (Ext.refl _) rfl
        with_reducible refine From.fin ?_
        intro w' hx
        (try dsimp only [List.nil_append, List.cons_append]); dsimp only [EndV, eqF]; rintro _ rfl _ rfl _ rfl _ rfl _ rfl v5 k5 _ rfl v7 k7 v8 k8 _ rfl v10 k10 v11_ h11_ v12 k12 _ rfl v14 k14 _ rfl; simp only [Act.put, List.setIfInBounds_toArray, List.set_cons_zero, List.set_cons_succ]
        obtain ⟨u5, rfl, _⟩ := k10
        obtain ⟨u6, rfl, _⟩ := h11_
        replace X := X.trans hx
        have HX5 := Lib.hid hx
        have K14 := Lib.hid k14
        clear hx k5 k7 k8 k12
        obtain ⟨ua, uc, hvv, _, r14⟩ := Own.formN k14 N HYL.out
        subst hvv
        have R14 := Lib.hid r14
        have HOW := Lib.hid (HO.out.grow HX5.out)
        clear k14 r14
        obtain ⟨wq, hwq⟩ : ∃ q : World, q = w' := ⟨_, rfl⟩
        subst hwq
        have HSZ : Hid (w2.heap.size ≤ wq.heap.size) := Lib.hid (by have := HXX.out.size; have := HX5.out.size; omega)
        go_wp2_with (at_builtin; refine wpList_appN1 rfl (.tmp 77) (.tmp 81) rfl w2.heap.size _ _ rfl (HOW.out.grow ((Ext.refl _).alloc _)) wq.heap.size j ua N uc 1 rfl (by simp) (by simp) (by have := HLEN.out; omega) (by have := HSZ.out; simp; omega) ?_; intro v6 w6 o6 x6 k6 s6 b6)
        have X6 := Lib.hid (x6 _ ((HXX.out.trans HX5.out).trans ((Ext.refl _).alloc _)) (Nat.le_refl _))
        have ST := Rows2.step (c5 := uc) HR.out.2 HOFF.out (HX5.out.trans ((Ext.refl _).alloc _)) (R14.out.ext ((Ext.refl _).alloc _)) (fun q hq => by
          have := K14.out.place q hq
          refine ⟨by simp; omega, fun h => ?_⟩
          have := (World.ownsRow.lt HO.out q.block h).2
          omega) k6 s6 b6
        have ST := Lib.hid ST
        have O6 := Lib.hid o6
        clear x6 k6 s6 b6 o6
        go_roundw
        case rel => exact ⟨j + 1, _, by go_num, by omega, O6.out, ⟨by rw [HE1.out, List.map_append, List.map_append, HR.out.1]; rfl, by rw [HE1.out, List.map_append, List.map_append]; have := ST.out.1; rw [HYL.out] at this; exact this⟩, by have := ST.out.2; rw [HYL.out] at this; rw [List.map_append]; exact this, X6.out⟩
        case measure => simp [intOf]; omega
    · obtain rfl : j = p := by omega
      go_wp2_with fail
      go_ret2
      rw [E.out]; exact ⟨_, E0, rfl, HO.out.base XW2.out.size, HR.out, X⟩
end Go.Proofs.Ytgnngifnoaagjaa
