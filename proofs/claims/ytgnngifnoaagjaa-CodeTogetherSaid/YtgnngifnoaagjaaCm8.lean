/- Plain law: the elements r for which a + r b is near a code. -/
import Derived.Test.YtgnngifnoaagjaaGE
namespace Go.Proofs.Ytgnngifnoaagjaa
/-- a + r b. -/
def lnw (p N : Nat) (a b : List Nat) (r : Nat) : List Nat := tab N (fun i => fadd p (fmul p (a.getD i 0) 1) (fmul p (b.getD i 0) r))
theorem lnw_fold {p N : Nat} (hv : vld p = true) {a b : List Nat} (ha : a.length = N) (hb : b.length = N) (r : Nat) : cFold p [a, b] [1, r] = lnw p N a b r := fold_two hv a b N ha hb 1 r
theorem lnw_len (p N : Nat) (a b : List Nat) (r : Nat) : (lnw p N a b r).length = N := tab_len _ _
theorem lnw_red {p N : Nat} (_hv : vld p = true) (a b : List Nat) (r : Nat) : (lnw p N a b r).map (fred p) = lnw p N a b r := by
  unfold lnw tab
  rw [List.map_map]
  apply List.map_congr_left
  intro i _
  simp only [Function.comp]
  rw [Q.fred_fadd]
/-- The elements below i, with their words. -/
def lineK (p N K : Nat) (a b : List Nat) (e : Int) : Nat → List (Nat × List Nat)
  | 0 => []
  | i + 1 => lineK p N K a b e i ++ (match nearM p N K (lnw p N a b i) e with
    | some x => [(i, x)]
    | none => [])
def lineM (p N K : Nat) (a b : List Nat) (e : Int) : List (Nat × List Nat) := lineK p N K a b e p
theorem lineK_mem {p N K : Nat} {a b : List Nat} {e : Int} : ∀ {i : Nat} {x : Nat × List Nat}, x ∈ lineK p N K a b e i ↔ x.1 < i ∧ nearM p N K (lnw p N a b x.1) e = some x.2
  | 0, x => by simp [lineK]
  | i + 1, x => by
    unfold lineK
    rw [List.mem_append, lineK_mem]
    constructor
    · rintro (⟨h1, h2⟩ | h)
      · exact ⟨by omega, h2⟩
      · cases hn : nearM p N K (lnw p N a b i) e with
        | none => rw [hn] at h; simp at h
        | some y =>
          rw [hn] at h
          have : x = (i, y) := by simpa using h
          subst this
          exact ⟨by simp, hn⟩
    · rintro ⟨h1, h2⟩
      by_cases h3 : x.1 < i
      · exact .inl ⟨h3, h2⟩
      · right
        have h4 : x.1 = i := by omega
        obtain ⟨x1, x2⟩ := x
        simp only at h4 h2
        subst h4
        rw [h2]; simp
theorem lineK_len (p N K : Nat) (a b : List Nat) (e : Int) : ∀ i, (lineK p N K a b e i).length ≤ i
  | 0 => Nat.le_refl _
  | i + 1 => by
    have := lineK_len p N K a b e i
    unfold lineK
    rw [List.length_append]
    split <;> simp <;> omega
theorem lineK_asc (p N K : Nat) (a b : List Nat) (e : Int) : ∀ i, (lineK p N K a b e i).Pairwise (fun x y => x.1 < y.1)
  | 0 => List.Pairwise.nil
  | i + 1 => by
    unfold lineK
    rw [List.pairwise_append]
    refine ⟨lineK_asc p N K a b e i, ?_, fun x hx y hy => ?_⟩
    · split <;> simp
    · have h1 := (lineK_mem.1 hx).1
      cases hn : nearM p N K (lnw p N a b i) e with
      | none => rw [hn] at hy; simp at hy
      | some q =>
        rw [hn] at hy
        have : y = (i, q) := by simpa using hy
        rw [this]; exact h1
/-- The line of words through two of them. -/
def slp (p : Nat) (x y : Nat × List Nat) (j : Nat) : Nat := fmul p (fsub p (y.2.getD j 0) (x.2.getD j 0)) (finv p (fsub p y.1 x.1))
def sta (p : Nat) (x y : Nat × List Nat) (j : Nat) : Nat := fsub p (x.2.getD j 0) (fmul p x.1 (slp p x y j))
def offB (p : Nat) (a b : List Nat) (x y : Nat × List Nat) (j : Nat) : Bool := decide (fred p (a.getD j 0) ≠ sta p x y j) || decide (fred p (b.getD j 0) ≠ slp p x y j)
def apC (p : Nat) (a b : List Nat) (x y : Nat × List Nat) : Nat → Nat
  | 0 => 0
  | j + 1 => apC p a b x y j + if offB p a b x y j = true then 1 else 0
theorem apC_filter (p : Nat) (a b : List Nat) (x y : Nat × List Nat) : ∀ n, apC p a b x y n = ((List.range n).filter (offB p a b x y)).length
  | 0 => rfl
  | n + 1 => by
    rw [List.range_succ, List.filter_append, List.length_append, ← apC_filter p a b x y n]
    show apC p a b x y n + (if offB p a b x y n = true then 1 else 0) = _
    cases h : offB p a b x y n
    · rw [List.filter_cons_of_neg (by rw [h]; decide)]; simp
    · rw [List.filter_cons_of_pos h]; simp
theorem apC_le (p : Nat) (a b : List Nat) (x y : Nat × List Nat) (n : Nat) : apC p a b x y n ≤ n := by
  rw [apC_filter]
  have := List.length_filter_le (offB p a b x y) (List.range n)
  simpa using this
def apM (p N : Nat) (a b : List Nat) (l : List (Nat × List Nat)) : Int := if l.length < 2 then -1 else apC p a b (l.getD 0 (0, [])) (l.getD 1 (0, [])) N

namespace Q
section
variable {p : Nat} [NeZero p]
theorem F_lnw (hv : vld p = true) (N : Nat) (a b : List Nat) (r i : Nat) (hi : i < N) : F p ((lnw p N a b r).getD i 0) = F p (a.getD i 0) + F p (b.getD i 0) * F p r := by
  unfold lnw
  rw [tab_get _ _ _ hi, F_fadd hv, F_fmul hv, F_fmul hv, F_one]; grind
theorem F_slp (hv : vld p = true) {x y : Nat × List Nat} (h : F p x.1 ≠ F p y.1) (j : Nat) : F p (slp p x y j) * (F p y.1 - F p x.1) = F p (y.2.getD j 0) - F p (x.2.getD j 0) := by
  unfold slp
  rw [F_fmul hv, F_fsub hv]
  have h2 := F_finv hv (a := fsub p y.1 x.1) (by rw [F_fsub hv]; intro q; apply h; grind)
  rw [F_fsub hv] at h2
  grind
theorem F_sta (hv : vld p = true) (x y : Nat × List Nat) (j : Nat) : F p (sta p x y j) = F p (x.2.getD j 0) - F p x.1 * F p (slp p x y j) := by
  unfold sta
  rw [F_fsub hv, F_fmul hv]
end
end Q
theorem filter_or {P Q R : Nat → Bool} (h : ∀ i, R i = true → P i = true ∨ Q i = true) : ∀ l : List Nat, (l.filter R).length ≤ (l.filter P).length + (l.filter Q).length
  | [] => by simp
  | i :: l => by
    have ih := filter_or h l
    have hi := h i
    cases hR : R i <;> cases hP : P i <;> cases hQ : Q i <;> simp_all [] <;> omega
theorem filter_imp {P Q : Nat → Bool} {l : List Nat} (h : ∀ i ∈ l, P i = true → Q i = true) : (l.filter P).length ≤ (l.filter Q).length := by
  induction l with
  | nil => simp
  | cons i l ih =>
    have ih := ih (fun j hj => h j (List.mem_cons_of_mem _ hj))
    have hi := h i (by simp)
    cases hP : P i <;> cases hQ : Q i <;> simp_all [] <;> omega
theorem dist_dif {x y : List Nat} {N : Nat} (hx : x.length = N) (hy : y.length = N) : dist x y = (dif x y N).length := by
  unfold dist
  rw [hx, hy, Nat.max_self]
  exact od_dif _ _ _ (by omega) (by omega)
/-- All words of the line lie on it. -/
theorem line_word {p k K : Nat} (hv : vld p = true) (hd : (p - 1) % 2 ^ k = 0) (a b : List Nat) {e : Nat} (he : 3 * e + K ≤ 2 ^ k) {x y z : Nat × List Nat} (hxy : ∀ [NeZero p], Q.F p x.1 ≠ Q.F p y.1)
    (hx : nearM p (2 ^ k) K (lnw p (2 ^ k) a b x.1) e = some x.2) (hy : nearM p (2 ^ k) K (lnw p (2 ^ k) a b y.1) e = some y.2) (hz : nearM p (2 ^ k) K (lnw p (2 ^ k) a b z.1) e = some z.2) (j : Nat) (hj : j < 2 ^ k) :
    ∀ [NeZero p], Q.F p (z.2.getD j 0) = Q.F p (sta p x y j) + Q.F p z.1 * Q.F p (slp p x y j) := by
  intro inst
  obtain ⟨fx, lx, ex, dx⟩ := near_sound hx
  obtain ⟨fy, ly, ey, dy⟩ := near_sound hy
  obtain ⟨fz, lz, ez, dz⟩ := near_sound hz
  rw [lnw_red hv] at dx dy dz
  have hne : Q.F p x.1 ≠ Q.F p y.1 := hxy
  -- the combination
  obtain ⟨β, hβ⟩ : ∃ β, β = fmul p (fsub p z.1 x.1) (finv p (fsub p y.1 x.1)) := ⟨_, rfl⟩
  obtain ⟨α, hα⟩ : ∃ α, α = fsub p 1 β := ⟨_, rfl⟩
  have hinv := Q.F_finv hv (a := fsub p y.1 x.1) (by rw [Q.F_fsub hv]; intro q; apply hne; grind)
  rw [Q.F_fsub hv] at hinv
  have Fβ : Q.F p β * (Q.F p y.1 - Q.F p x.1) = Q.F p z.1 - Q.F p x.1 := by rw [hβ, Q.F_fmul hv, Q.F_fsub hv]; grind
  have Fα : Q.F p α = 1 - Q.F p β := by rw [hα, Q.F_fsub hv, Q.F_one]
  have hcw : ∀ i, i < 2 ^ k → Q.F p ((cword p (2 ^ k) (comb p fx fy α β)).getD i 0) = Q.F p (x.2.getD i 0) * Q.F p α + Q.F p (y.2.getD i 0) * Q.F p β := fun i hi => by
    rw [comb_word hv _ _ _ _ _ i hi, Q.F_fadd hv, Q.F_fmul hv, Q.F_fmul hv, ex, ey]
  have wlt : ∀ (f : List Nat) i, i < 2 ^ k → (cword p (2 ^ k) f).getD i 0 < p := fun f i hi => by unfold cword reva; rw [tab_get _ _ _ hi]; exact Q.horner_lt hv _ _
  have nlt : ∀ r i, i < 2 ^ k → (lnw p (2 ^ k) a b r).getD i 0 < p := fun r i hi => by unfold lnw; rw [tab_get _ _ _ hi]; exact Q.fadd_lt hv
  have lH : (comb p fx fy α β).length ≤ K := by have := comb_len p fx fy α β; omega
  have d1 : dist (lnw p (2 ^ k) a b z.1) (cword p (2 ^ k) (comb p fx fy α β)) ≤ 2 * e := by
    rw [ex, dist_dif (cword_len _ _ _) (lnw_len _ _ _ _ _)] at dx
    rw [ey, dist_dif (cword_len _ _ _) (lnw_len _ _ _ _ _)] at dy
    rw [dist_dif (lnw_len _ _ _ _ _) (cword_len _ _ _)]
    have h1 : (dif (lnw p (2 ^ k) a b z.1) (cword p (2 ^ k) (comb p fx fy α β)) (2 ^ k)).length ≤ ((List.range (2 ^ k)).filter (fun i => decide ((cword p (2 ^ k) fx).getD i 0 ≠ (lnw p (2 ^ k) a b x.1).getD i 0) || decide ((cword p (2 ^ k) fy).getD i 0 ≠ (lnw p (2 ^ k) a b y.1).getD i 0))).length := by
      unfold dif
      refine filter_imp fun i hi hne => ?_
      have hi := List.mem_range.1 hi
      have hne := of_decide_eq_true hne
      rw [Bool.or_eq_true]
      rcases Classical.em ((cword p (2 ^ k) fx).getD i 0 ≠ (lnw p (2 ^ k) a b x.1).getD i 0) with q1 | q1
      · exact .inl (decide_eq_true q1)
      rcases Classical.em ((cword p (2 ^ k) fy).getD i 0 ≠ (lnw p (2 ^ k) a b y.1).getD i 0) with q2 | q2
      · exact .inr (decide_eq_true q2)
      exfalso
      apply hne
      have q1 := Classical.not_not.1 q1
      have q2 := Classical.not_not.1 q2
      apply Q.F_inj (p := p) (nlt _ i hi) (wlt _ i hi)
      rw [hcw i hi, ex, ey, q1, q2, Q.F_lnw hv _ _ _ _ _ hi, Q.F_lnw hv _ _ _ _ _ hi, Q.F_lnw hv _ _ _ _ _ hi, Fα]
      grind
    have h2 := filter_or (P := fun i => decide ((cword p (2 ^ k) fx).getD i 0 ≠ (lnw p (2 ^ k) a b x.1).getD i 0)) (Q := fun i => decide ((cword p (2 ^ k) fy).getD i 0 ≠ (lnw p (2 ^ k) a b y.1).getD i 0)) (R := fun i => decide ((cword p (2 ^ k) fx).getD i 0 ≠ (lnw p (2 ^ k) a b x.1).getD i 0) || decide ((cword p (2 ^ k) fy).getD i 0 ≠ (lnw p (2 ^ k) a b y.1).getD i 0)) (fun i h => by rw [Bool.or_eq_true] at h; exact h) (List.range (2 ^ k))
    unfold dif at dx dy h1 ⊢
    omega
  have d2 := dist_tri z.2 (lnw p (2 ^ k) a b z.1) (cword p (2 ^ k) (comb p fx fy α β))
  have hcf := Q.near_same hv hd lz lH (by rw [← ez]; omega)
  have hcw2 := Q.same_word hv hcf (2 ^ k)
  rw [ez, hcw2, hcw j hj, Q.F_sta hv, Fα]
  have := Q.F_slp hv hne j
  grind
/-- A line agrees with another one at one element at most. -/
theorem agree_one {p : Nat} (hv : vld p = true) [NeZero p] {a b s t : Fin p} (h : a ≠ s ∨ b ≠ t) {r q : Fin p} (hr : a + r * b = s + r * t) (hq : a + q * b = s + q * t) : r = q := by
  have h1 : (r - q) * (b - t) = 0 := by grind
  rcases Q.noZD hv h1 with h2 | h2
  · grind
  · have hb : b = t := by grind
    subst hb
    rcases h with h | h
    · exact absurd (by grind) h
    · exact absurd rfl h
/-- Counting pairs in two ways. -/
theorem count_two {R : List (Nat × List Nat)} {D : List Nat} {P : (Nat × List Nat) → Nat → Bool} {e c : Nat} (h1 : ∀ r ∈ R, (D.filter (P r)).length ≤ e) (h2 : ∀ j ∈ D, c ≤ (R.filter (fun r => P r j)).length) : D.length * c ≤ R.length * e := by
  have sw : ∀ (D : List Nat) (R : List (Nat × List Nat)), (R.map fun r => (D.filter (P r)).length).sum = (D.map fun j => (R.filter fun r => P r j).length).sum := by
    intro D R
    induction R with
    | nil =>
      have : ∀ D : List Nat, (D.map fun j => (([] : List (Nat × List Nat)).filter fun r => P r j).length).sum = 0 := by
        intro D
        induction D with
        | nil => rfl
        | cons j D ih => rw [List.map_cons, List.sum_cons, ih]; rfl
      rw [this]; rfl
    | cons r R ih =>
      rw [List.map_cons, List.sum_cons, ih]
      clear ih h1 h2
      induction D with
      | nil => simp
      | cons j D ih2 =>
        rw [List.map_cons, List.map_cons, List.sum_cons, List.sum_cons, ← Nat.add_left_comm] at *
        cases hP : P r j <;> simp [List.filter_cons, hP] at ih2 ⊢ <;> omega
  have up : ∀ (l : List (Nat × List Nat)), (∀ r ∈ l, (D.filter (P r)).length ≤ e) → (l.map fun r => (D.filter (P r)).length).sum ≤ l.length * e := by
    intro l
    induction l with
    | nil => simp
    | cons r l ih =>
      intro h
      have := h r (by simp)
      have := ih (fun q hq => h q (List.mem_cons_of_mem _ hq))
      rw [List.map_cons, List.sum_cons, List.length_cons, Nat.add_mul]; omega
  have lo : ∀ (l : List Nat), (∀ j ∈ l, c ≤ (R.filter (fun r => P r j)).length) → l.length * c ≤ (l.map fun j => (R.filter fun r => P r j).length).sum := by
    intro l
    induction l with
    | nil => simp
    | cons j l ih =>
      intro h
      have := h j (by simp)
      have := ih (fun q hq => h q (List.mem_cons_of_mem _ hq))
      rw [List.map_cons, List.sum_cons, List.length_cons, Nat.add_mul]; omega
  have := up R h1
  have := lo D h2
  have := sw D R
  omega
end Go.Proofs.Ytgnngifnoaagjaa
