/- Plain: elimination in a matrix, and what it solves. -/
import Derived.Test.YtcnbinjoeilfgaaGL
namespace Go.Proofs.Ytcnbinjoeilfgaa
/-- The first row from i on whose element c is not 0; f: how many rows are left. -/
def findP (rows : List (List Nat)) (c : Nat) : Nat → Nat → Nat
  | 0, i => i
  | f + 1, i => if (rows.getD i []).getD c 0 = 0 then findP rows c f (i + 1) else i
def findE (rows : List (List Nat)) (c t : Nat) : Nat := findP rows c (rows.length - t) t
def swR (rows : List (List Nat)) (f t : Nat) : List (List Nat) := if f = t then rows else (rows.set f (rows.getD t [])).set t (rows.getD f [])
def pivV (rows : List (List Nat)) (c t : Nat) : Nat := (rows.getD t []).getD c 0
/-- Row r divided by its pivot, the first j elements. -/
def nrK (p inv : Nat) (r : List Nat) (j : Nat) : List Nat := tab r.length (fun k => if k < j then fmul p (r.getD k 0) inv else r.getD k 0)
def nrR (p : Nat) (rows : List (List Nat)) (c t : Nat) : List (List Nat) := rows.set t (nrK p (finv p (pivV rows c t)) (rows.getD t []) (rows.getD t []).length)
/-- Row r less x times row t, the first j elements. -/
def elJ (p x : Nat) (t r : List Nat) (j : Nat) : List Nat := tab r.length (fun k => if k < j then fsub p (r.getD k 0) (fmul p x (t.getD k 0)) else r.getD k 0)
def elRow (p c t : Nat) (rows : List (List Nat)) (k : Nat) : List Nat := if k = t ∨ (rows.getD k []).getD c 0 = 0 then rows.getD k [] else elJ p ((rows.getD k []).getD c 0) (rows.getD t []) (rows.getD k []) (rows.getD k []).length
/-- The first i rows are done. -/
def elK (p c t : Nat) (rows : List (List Nat)) (i : Nat) : List (List Nat) := (List.range rows.length).map (fun k => if k < i then elRow p c t rows k else rows.getD k [])
abbrev ElS := List (List Nat) × List Nat × Nat
def stepE (p c : Nat) (s : ElS) : ElS :=
  if findE s.1 c s.2.1.length = s.1.length then s else
    (elK p c s.2.1.length (nrR p (swR s.1 (findE s.1 c s.2.1.length) s.2.1.length) c s.2.1.length) s.1.length,
     s.2.1 ++ [c],
     fmul p (if findE s.1 c s.2.1.length = s.2.1.length then s.2.2 else fneg p s.2.2) (pivV (swR s.1 (findE s.1 c s.2.1.length) s.2.1.length) c s.2.1.length))
def elimE (p : Nat) (r : List (List Nat)) : Nat → ElS
  | 0 => (r, [], 1)
  | c + 1 => stepE p c (elimE p r c)

theorem findP_spec (rows : List (List Nat)) (c : Nat) : ∀ f i, i ≤ findP rows c f i ∧ findP rows c f i ≤ i + f ∧ (∀ k, i ≤ k → k < findP rows c f i → (rows.getD k []).getD c 0 = 0) ∧ (findP rows c f i < i + f → (rows.getD (findP rows c f i) []).getD c 0 ≠ 0)
  | 0, i => ⟨Nat.le_refl _, Nat.le_refl _, fun k h1 h2 => absurd h2 (by show ¬ k < i; omega), fun h => absurd h (by show ¬ i < i + 0; omega)⟩
  | f + 1, i => by
    unfold findP
    split
    · rename_i h
      obtain ⟨h1, h2, h3, h4⟩ := findP_spec rows c f (i + 1)
      refine ⟨by omega, by omega, fun k hk1 hk2 => ?_, fun hlt => h4 (by omega)⟩
      by_cases e : k = i
      · subst e; exact h
      · exact h3 k (by omega) hk2
    · rename_i h
      exact ⟨Nat.le_refl _, by omega, fun k h1 h2 => absurd h2 (by omega), fun _ => h⟩
theorem findE_spec {rows : List (List Nat)} {c t : Nat} (ht : t ≤ rows.length) : t ≤ findE rows c t ∧ findE rows c t ≤ rows.length ∧ (∀ k, t ≤ k → k < findE rows c t → (rows.getD k []).getD c 0 = 0) ∧ (findE rows c t < rows.length → (rows.getD (findE rows c t) []).getD c 0 ≠ 0) := by
  have h := findP_spec rows c (rows.length - t) t
  unfold findE
  refine ⟨h.1, by have := h.2.1; omega, h.2.2.1, fun hlt => h.2.2.2 (by omega)⟩
theorem set_getD {α : Type} (l : List α) (d x : α) (i k : Nat) (hi : i < l.length) : (l.set i x).getD k d = if k = i then x else l.getD k d := by
  rw [List.getD_eq_getElem?_getD, List.getElem?_set]
  by_cases e : i = k
  · subst e; rw [if_pos rfl, if_pos hi, if_pos rfl]; rfl
  · rw [if_neg e, if_neg (fun q => e q.symm), ← List.getD_eq_getElem?_getD]
theorem swR_len (rows : List (List Nat)) (f t : Nat) : (swR rows f t).length = rows.length := by
  unfold swR; split <;> simp
theorem swR_get {rows : List (List Nat)} {f t : Nat} (hf : f < rows.length) (ht : t < rows.length) (k : Nat) : (swR rows f t).getD k [] = rows.getD (if k = t then f else if k = f then t else k) [] := by
  unfold swR
  by_cases e : f = t
  · subst e
    rw [if_pos rfl]
    by_cases h : k = f
    · subst h; rw [if_pos rfl]
    · rw [if_neg h, if_neg h]
  · rw [if_neg e, set_getD _ _ _ _ _ (by rw [List.length_set]; exact ht), set_getD _ _ _ _ _ hf]
    by_cases h1 : k = t
    · rw [if_pos h1, if_pos h1]
    · rw [if_neg h1, if_neg h1]
      by_cases h2 : k = f
      · rw [if_pos h2, if_pos h2]
      · rw [if_neg h2, if_neg h2]
theorem elK_len (p c t : Nat) (rows : List (List Nat)) (i : Nat) : (elK p c t rows i).length = rows.length := by unfold elK; simp
theorem elK_get {p c t : Nat} {rows : List (List Nat)} {i k : Nat} (hk : k < rows.length) : (elK p c t rows i).getD k [] = if k < i then elRow p c t rows k else rows.getD k [] := by
  unfold elK
  simp [List.getD, hk]
theorem nrR_len (p : Nat) (rows : List (List Nat)) (c t : Nat) : (nrR p rows c t).length = rows.length := by unfold nrR; simp
theorem nrR_get {p : Nat} {rows : List (List Nat)} {c t : Nat} (ht : t < rows.length) (k : Nat) : (nrR p rows c t).getD k [] = if k = t then nrK p (finv p (pivV rows c t)) (rows.getD t []) (rows.getD t []).length else rows.getD k [] := set_getD _ _ _ _ _ ht
theorem nrK_full (p inv : Nat) (r : List Nat) (j : Nat) : (nrK p inv r r.length).getD j 0 = if j < r.length then fmul p (r.getD j 0) inv else 0 := by
  unfold nrK
  by_cases h : j < r.length
  · rw [tab_get _ _ _ h, if_pos h, if_pos h]
  · rw [if_neg h, List.getD_eq_getElem?_getD, List.getElem?_eq_none (by rw [tab_len]; omega)]; rfl
theorem elJ_full (p x : Nat) (t r : List Nat) (j : Nat) : (elJ p x t r r.length).getD j 0 = if j < r.length then fsub p (r.getD j 0) (fmul p x (t.getD j 0)) else 0 := by
  unfold elJ
  by_cases h : j < r.length
  · rw [tab_get _ _ _ h, if_pos h, if_pos h]
  · rw [if_neg h, List.getD_eq_getElem?_getD, List.getElem?_eq_none (by rw [tab_len]; omega)]; rfl

namespace Q
section
variable {p : Nat} [NeZero p]
theorem one_ne (hv : vld p = true) : (1 : Fin p) ≠ 0 := fun q => by
  have hp := vld_bd hv
  have := F_inj (p := p) (a := 1) (b := 0) (by omega) (by omega) (by rw [F_one, F_zero]; exact q)
  omega
/-- The product of a row and a vector. -/
def dt (r : List Nat) (y : Nat → Fin p) : Nat → Fin p
  | 0 => 0
  | j + 1 => dt r y j + F p (r.getD j 0) * y j
theorem dt_congr {r s : List Nat} {y : Nat → Fin p} : ∀ {n}, (∀ j, j < n → F p (r.getD j 0) = F p (s.getD j 0)) → dt r y n = dt s y n
  | 0, _ => rfl
  | n + 1, h => by
    show dt r y n + _ = dt s y n + _
    rw [dt_congr (fun j hj => h j (by omega)), h n (by omega)]
theorem dt_nr (hv : vld p = true) (inv : Nat) (r : List Nat) (y : Nat → Fin p) : ∀ n, n ≤ r.length → dt (nrK p inv r r.length) y n = F p inv * dt r y n
  | 0, _ => by show (0 : Fin p) = F p inv * 0; grind
  | n + 1, h => by
    show dt (nrK p inv r r.length) y n + F p ((nrK p inv r r.length).getD n 0) * y n = F p inv * (dt r y n + F p (r.getD n 0) * y n)
    rw [dt_nr hv inv r y n (by omega), nrK_full, if_pos (by omega), F_fmul hv]; grind
theorem dt_el (hv : vld p = true) (x : Nat) (t r : List Nat) (y : Nat → Fin p) : ∀ n, n ≤ r.length → dt (elJ p x t r r.length) y n = dt r y n - F p x * dt t y n
  | 0, _ => by show (0 : Fin p) = 0 - F p x * 0; grind
  | n + 1, h => by
    show dt (elJ p x t r r.length) y n + F p ((elJ p x t r r.length).getD n 0) * y n = (dt r y n + F p (r.getD n 0) * y n) - F p x * (dt t y n + F p (t.getD n 0) * y n)
    rw [dt_el hv x t r y n (by omega), elJ_full, if_pos (by omega), F_fsub hv, F_fmul hv]; grind
def ZZ (rows : List (List Nat)) (W : Nat) (y : Nat → Fin p) : Prop := ∀ i, i < rows.length → dt (rows.getD i []) y W = 0
end
end Q
/-- All rows have W elements, all of them reduced. -/
structure Redd (p W : Nat) (rows : List (List Nat)) : Prop where
  len : ∀ i, i < rows.length → (rows.getD i []).length = W
  lt : ∀ i j, (rows.getD i []).getD j 0 < p
theorem Redd.sw {p W : Nat} {rows : List (List Nat)} (h : Redd p W rows) {f t : Nat} (hf : f < rows.length) (ht : t < rows.length) : Redd p W (swR rows f t) := by
  refine ⟨fun i hi => ?_, fun i j => by rw [swR_get hf ht]; exact h.lt _ _⟩
  rw [swR_len] at hi
  rw [swR_get hf ht]
  apply h.len
  by_cases e1 : i = t
  · rw [if_pos e1]; exact hf
  · rw [if_neg e1]
    by_cases e2 : i = f
    · rw [if_pos e2]; exact ht
    · rw [if_neg e2]; exact hi
theorem Redd.nr {p W : Nat} {rows : List (List Nat)} (hv : vld p = true) (h : Redd p W rows) (c : Nat) {t : Nat} (ht : t < rows.length) : Redd p W (nrR p rows c t) := by
  have hp := vld_bd hv
  refine ⟨fun i hi => ?_, fun i j => ?_⟩
  · rw [nrR_len] at hi
    rw [nrR_get ht]
    by_cases e : i = t
    · rw [if_pos e]; unfold nrK; rw [tab_len]; exact h.len t ht
    · rw [if_neg e]; exact h.len i hi
  · rw [nrR_get ht]
    by_cases e : i = t
    · rw [if_pos e, nrK_full]
      split
      · exact Q.fmul_lt hv
      · omega
    · rw [if_neg e]; exact h.lt i j
theorem Redd.el {p W : Nat} {rows : List (List Nat)} (hv : vld p = true) (h : Redd p W rows) (c t i : Nat) : Redd p W (elK p c t rows i) := by
  have hp := vld_bd hv
  have hrow : ∀ k, k < rows.length → (elRow p c t rows k).length = W ∧ ∀ j, (elRow p c t rows k).getD j 0 < p := fun k hk => by
    unfold elRow
    split
    · exact ⟨h.len k hk, h.lt k⟩
    · refine ⟨by unfold elJ; rw [tab_len]; exact h.len k hk, fun j => ?_⟩
      rw [elJ_full]
      split
      · exact Q.fsub_lt hv
      · omega
  refine ⟨fun k hk => ?_, fun k j => ?_⟩
  · rw [elK_len] at hk
    rw [elK_get hk]
    split
    · exact (hrow k hk).1
    · exact h.len k hk
  · rcases Nat.lt_or_ge k rows.length with hk | hk
    · rw [elK_get hk]
      split
      · exact (hrow k hk).2 j
      · exact h.lt k j
    · rw [show (elK p c t rows i).getD k [] = [] from by rw [List.getD_eq_getElem?_getD, List.getElem?_eq_none (by rw [elK_len]; exact hk)]; rfl]
      simpa using (show 0 < p by omega)

namespace Q
section
variable {p : Nat} [NeZero p]
theorem ZZ.sw {rows : List (List Nat)} {W f t : Nat} {y : Nat → Fin p} (hf : f < rows.length) (ht : t < rows.length) : ZZ (swR rows f t) W y ↔ ZZ rows W y := by
  constructor
  · intro h i hi
    by_cases e1 : i = f
    · subst e1
      have := h t (by rw [swR_len]; exact ht)
      rw [swR_get hf ht, if_pos rfl] at this; exact this
    · by_cases e2 : i = t
      · subst e2
        have := h f (by rw [swR_len]; exact hf)
        rw [swR_get hf ht] at this
        by_cases e3 : f = i
        · exact absurd e3.symm e1
        · rw [if_neg e3, if_pos rfl] at this; exact this
      · have := h i (by rw [swR_len]; exact hi)
        rw [swR_get hf ht, if_neg e2, if_neg e1] at this; exact this
  · intro h i hi
    rw [swR_len] at hi
    rw [swR_get hf ht]
    apply h
    by_cases e1 : i = t
    · rw [if_pos e1]; exact hf
    · rw [if_neg e1]
      by_cases e2 : i = f
      · rw [if_pos e2]; exact ht
      · rw [if_neg e2]; exact hi
theorem ZZ.nr (hv : vld p = true) {rows : List (List Nat)} {W c t : Nat} {y : Nat → Fin p} (hr : Redd p W rows) (ht : t < rows.length) (hp : F p (pivV rows c t) ≠ 0) : ZZ (nrR p rows c t) W y ↔ ZZ rows W y := by
  have hinv : F p (finv p (pivV rows c t)) ≠ 0 := fun q => by
    have := F_finv hv hp
    rw [q] at this
    have h1 : (0 : Fin p) = 1 := by grind
    exact one_ne hv h1.symm
  have hl := hr.len t ht
  have key : dt (nrK p (finv p (pivV rows c t)) (rows.getD t []) (rows.getD t []).length) y W = F p (finv p (pivV rows c t)) * dt (rows.getD t []) y W := dt_nr hv _ _ _ _ (by omega)
  constructor
  · intro h i hi
    have := h i (by rw [nrR_len]; exact hi)
    rw [nrR_get ht] at this
    by_cases e : i = t
    · subst e
      rw [if_pos rfl, key] at this
      exact (noZD hv this).resolve_left hinv
    · rw [if_neg e] at this; exact this
  · intro h i hi
    rw [nrR_len] at hi
    rw [nrR_get ht]
    by_cases e : i = t
    · subst e
      rw [if_pos rfl, key, h i hi]; grind
    · rw [if_neg e]; exact h i hi
theorem ZZ.el (hv : vld p = true) {rows : List (List Nat)} {W c t : Nat} {y : Nat → Fin p} (hr : Redd p W rows) (ht : t < rows.length) : ZZ (elK p c t rows rows.length) W y ↔ ZZ rows W y := by
  have key : ∀ i, i < rows.length → ¬ (i = t ∨ (rows.getD i []).getD c 0 = 0) → dt (elRow p c t rows i) y W = dt (rows.getD i []) y W - F p ((rows.getD i []).getD c 0) * dt (rows.getD t []) y W := fun i hi h => by
    unfold elRow
    rw [if_neg h]
    exact dt_el hv _ _ _ _ _ (by have := hr.len i hi; omega)
  have kt : elRow p c t rows t = rows.getD t [] := by unfold elRow; rw [if_pos (.inl rfl)]
  constructor
  · intro h i hi
    have h0 := h t (by rw [elK_len]; exact ht)
    rw [elK_get ht, if_pos ht, kt] at h0
    have h1 := h i (by rw [elK_len]; exact hi)
    rw [elK_get hi, if_pos hi] at h1
    by_cases e : i = t ∨ (rows.getD i []).getD c 0 = 0
    · unfold elRow at h1; rw [if_pos e] at h1; exact h1
    · rw [key i hi e, h0] at h1; grind
  · intro h i hi
    rw [elK_len] at hi
    rw [elK_get hi, if_pos hi]
    by_cases e : i = t ∨ (rows.getD i []).getD c 0 = 0
    · unfold elRow; rw [if_pos e]; exact h i hi
    · rw [key i hi e, h i hi, h t ht]; grind
/-- What has been reached behind c columns without a gap. -/
structure Ech (W : Nat) (rows0 : List (List Nat)) (c : Nat) (s : ElS) : Prop where
  len : s.1.length = rows0.length
  red : Redd p W s.1
  piv : s.2.1 = List.range c
  one : ∀ i j, i < rows0.length → j < c → (s.1.getD i []).getD j 0 = if i = j then 1 else 0
  sol : ∀ y : Nat → Fin p, ZZ s.1 W y ↔ ZZ rows0 W y
theorem dt_unit {r : List Nat} {y : Nat → Fin p} {c : Nat} (hr : ∀ j, j < c → F p (r.getD j 0) * y j = 0) : ∀ n, n ≤ c → dt r y n = 0
  | 0, _ => rfl
  | n + 1, h => by
    show dt r y n + _ = 0
    rw [dt_unit hr n (by omega), hr n (by omega)]; grind
theorem dt_stop {r : List Nat} {y : Nat → Fin p} {c : Nat} (hy : ∀ j, c ≤ j → y j = 0) : ∀ d, dt r y (c + d) = dt r y c
  | 0 => rfl
  | d + 1 => by
    show dt r y (c + d) + F p (r.getD (c + d) 0) * y (c + d) = _
    rw [dt_stop hy d, hy (c + d) (by omega)]; grind
theorem dt_pick {r : List Nat} {y : Nat → Fin p} {i : Nat} {z : Fin p} : ∀ {c : Nat}, i < c → (∀ j, j < c → F p (r.getD j 0) = if j = i then 1 else 0) → y i = z → dt r y c = z
  | 0, h, _, _ => absurd h (by omega)
  | c + 1, h, hr, hz => by
    show dt r y c + F p (r.getD c 0) * y c = z
    rw [hr c (by omega)]
    by_cases e : c = i
    · subst e
      rw [if_pos rfl, hz, dt_unit (c := c) (fun j hj => by rw [hr j (by omega), if_neg (by omega)]; grind) c (Nat.le_refl _)]; grind
    · rw [if_neg e, dt_pick (c := c) (by omega) (fun j hj => hr j (by omega)) hz]; grind
theorem Ech.step (hv : vld p = true) {W : Nat} {rows0 : List (List Nat)} {c : Nat} {s : ElS} (h : Ech W rows0 c s (p := p)) (hc : c < rows0.length) (hcW : c < W)
    (hns : ∀ y : Nat → Fin p, (∀ j, rows0.length ≤ j → y j = 0) → ZZ rows0 W y → ∀ j, j < rows0.length → y j = 0) : Ech W rows0 (c + 1) (stepE p c s) (p := p) := by
  have hp := vld_bd hv
  have F1 : F p 1 = 1 := F_one
  have F0 : F p 0 = 0 := F_zero
  obtain ⟨rows, piv, fac⟩ := s
  obtain ⟨hlen, hred, hpiv, hone, hsol⟩ := h
  simp only at hlen hred hpiv hone hsol
  have hpl : piv.length = c := by rw [hpiv]; simp
  obtain ⟨f1, f2, f3, f4⟩ := findE_spec (rows := rows) (c := c) (t := c) (by omega)
  have hne : findE rows c c ≠ rows.length := fun q => by
    -- a vector that the matrix sends to zero
    have hz : ∀ i, c ≤ i → i < rows.length → (rows.getD i []).getD c 0 = 0 := fun i h1 h2 => f3 i h1 (by omega)
    obtain ⟨y, hy⟩ : ∃ y : Nat → Fin p, y = fun j => if j < c then - F p ((rows.getD j []).getD c 0) else if j = c then 1 else 0 := ⟨_, rfl⟩
    have hyc : y c = 1 := by rw [hy]; simp
    have hyb : ∀ j, c + 1 ≤ j → y j = 0 := fun j hj => by rw [hy]; simp only; rw [if_neg (by omega), if_neg (by omega)]
    have hZ : ZZ rows W y := fun i hi => by
      obtain ⟨d, hd⟩ : ∃ d, W = c + 1 + d := ⟨W - (c + 1), by omega⟩
      rw [hd, dt_stop hyb]
      show dt (rows.getD i []) y c + F p ((rows.getD i []).getD c 0) * y c = 0
      rw [hyc]
      by_cases hic : i < c
      · rw [dt_pick (i := i) (z := y i) hic (fun j hj => by
          rw [hone i j (by omega) hj]
          by_cases e : j = i
          · rw [if_pos e.symm, if_pos e, F1]
          · rw [if_neg (fun q => e q.symm), if_neg e, F0]) rfl, hy]
        simp only
        rw [if_pos hic]; grind
      · rw [dt_unit (c := c) (fun j hj => by
          rw [hone i j (by omega) hj, if_neg (by omega), F0]; grind) c (Nat.le_refl _), hz i (by omega) hi, F0]; grind
    have := hns y (fun j hj => hyb j (by omega)) ((hsol y).1 hZ) c hc
    rw [hyc] at this
    exact one_ne hv this
  have hf : findE rows c c < rows.length := by omega
  have hct : c < rows.length := by omega
  have hpv := f4 hf
  obtain ⟨f, hfE⟩ : ∃ f, f = findE rows c c := ⟨_, rfl⟩
  rw [← hfE] at hf f1 hpv
  have hR1 := hred.sw hf hct
  have hR2 := hR1.nr hv c (t := c) (by rw [swR_len]; exact hct)
  have hR3 := hR2.el hv c c rows.length
  have hpvv : pivV (swR rows f c) c c = (rows.getD f []).getD c 0 := by unfold pivV; rw [swR_get hf hct, if_pos rfl]
  have hpF : F p (pivV (swR rows f c) c c) ≠ 0 := fun q => by
    rw [hpvv] at q
    apply hpv
    exact F_inj (hred.lt _ _) (by omega) (by rw [q, F0])
  have e : stepE p c (rows, piv, fac) = (elK p c c (nrR p (swR rows f c) c c) rows.length, piv ++ [c], fmul p (if f = c then fac else fneg p fac) (pivV (swR rows f c) c c)) := by
    unfold stepE
    simp only [hpl]
    rw [if_neg hne, ← hfE]
  rw [e]
  have hlN : (nrR p (swR rows f c) c c).length = rows.length := by rw [nrR_len, swR_len]
  -- the rows before the last step
  have rowN : ∀ k, (nrR p (swR rows f c) c c).getD k [] = if k = c then nrK p (finv p (pivV (swR rows f c) c c)) (rows.getD f []) (rows.getD f []).length else (if k = f then rows.getD c [] else rows.getD k []) := fun k => by
    rw [nrR_get (by rw [swR_len]; exact hct), swR_get hf hct, swR_get hf hct, if_pos rfl]
    by_cases e1 : k = c
    · rw [if_pos e1, if_pos e1]
    · rw [if_neg e1, if_neg e1, if_neg e1]
      by_cases e2 : k = f
      · rw [if_pos e2, if_pos e2]
      · rw [if_neg e2, if_neg e2]
  have hlf : (rows.getD f []).length = W := hred.len f hf
  have nc : ∀ j, j < c + 1 → ((nrR p (swR rows f c) c c).getD c []).getD j 0 = if c = j then 1 else 0 := fun j hj => by
    rw [rowN, if_pos rfl, nrK_full, if_pos (by omega)]
    by_cases e1 : c = j
    · subst e1
      rw [if_pos rfl]
      refine F_inj (fmul_lt hv) (by omega) ?_
      rw [F_fmul hv, ← hpvv, F_one]
      have := F_finv hv hpF
      grind
    · rw [if_neg e1, hone f j (by omega) (by omega), if_neg (by omega)]
      refine F_inj (fmul_lt hv) (by omega) ?_
      rw [F_fmul hv, F0]; grind
  have nk : ∀ k j, k < rows.length → k ≠ c → j < c → ((nrR p (swR rows f c) c c).getD k []).getD j 0 = if k = j then 1 else 0 := fun k j hk hkc hj => by
    rw [rowN, if_neg hkc]
    by_cases e2 : k = f
    · subst e2
      rw [if_pos rfl, hone c j (by omega) hj, if_neg (by omega), if_neg (by omega)]
    · rw [if_neg e2]; exact hone k j (by omega) hj
  refine ⟨by simp only; rw [elK_len, hlN, hlen], by simp only; rw [← hlN] at hR3 ⊢; exact hR3, by simp only; rw [hpiv, List.range_succ], fun i j hi hj => ?_, fun y => ?_⟩
  · simp only
    have hi2 : i < rows.length := by omega
    rw [elK_get (by rw [hlN]; exact hi2), if_pos hi2]
    unfold elRow
    by_cases e1 : i = c
    · subst e1
      rw [if_pos (.inl rfl)]
      exact nc j hj
    · by_cases e2 : ((nrR p (swR rows f c) c c).getD i []).getD c 0 = 0
      · rw [if_pos (.inr e2)]
        by_cases ej : j = c
        · subst ej; rw [e2, if_neg e1]
        · exact nk i j hi2 e1 (by omega)
      · rw [if_neg (fun q => q.elim e1 e2), elJ_full, if_pos (by rw [hR2.len i (by rw [hlN]; exact hi2)]; omega), nc j hj]
        by_cases ej : j = c
        · subst ej
          rw [if_pos rfl, if_neg e1]
          refine F_inj (fsub_lt hv) (by omega) ?_
          rw [F_fsub hv, F_fmul hv, F1, F0]; grind
        · rw [if_neg (fun q => ej q.symm), nk i j hi2 e1 (by omega)]
          refine F_inj (fsub_lt hv) (by split <;> omega) ?_
          rw [F_fsub hv, F_fmul hv, F0]; grind
  · simp only
    rw [← hlN, ZZ.el hv hR2 (by rw [hlN]; exact hct), ZZ.nr hv hR1 (by rw [swR_len]; exact hct) hpF, ZZ.sw hf hct]
    exact hsol y
theorem Ech.all (hv : vld p = true) {W : Nat} {rows0 : List (List Nat)} (hr : Redd p W rows0) (hW : rows0.length ≤ W)
    (hns : ∀ y : Nat → Fin p, (∀ j, rows0.length ≤ j → y j = 0) → ZZ rows0 W y → ∀ j, j < rows0.length → y j = 0) : ∀ c, c ≤ rows0.length → Ech W rows0 c (elimE p rows0 c) (p := p)
  | 0, _ => ⟨rfl, hr, rfl, fun i j _ hj => absurd hj (by omega), fun y => Iff.rfl⟩
  | c + 1, h => Ech.step hv (Ech.all hv hr hW hns c (by omega)) (by omega) (by omega) hns
/-- The last column holds the solution. -/
theorem Ech.solves {rows0 : List (List Nat)} {n : Nat} {s : ElS} (h : Ech (n + 1) rows0 n s (p := p)) (hn : rows0.length = n) {x : Nat → Fin p} (hx : ∀ i, i < n → dt (rows0.getD i []) x n = F p ((rows0.getD i []).getD n 0)) (i : Nat) (hi : i < n) : F p ((s.1.getD i []).getD n 0) = x i := by
  obtain ⟨y, hy⟩ : ∃ y : Nat → Fin p, y = fun j => if j < n then x j else -1 := ⟨_, rfl⟩
  have dxy : ∀ (r : List Nat) (k : Nat), k ≤ n → dt r y k = dt r x k := by
    intro r k
    induction k with
    | zero => intro _; rfl
    | succ k ih =>
      intro hk
      show dt r y k + _ = dt r x k + _
      rw [ih (by omega), hy]
      simp only
      rw [if_pos (by omega)]
  have hyn : y n = -1 := by rw [hy]; simp
  have h0 : ZZ rows0 (n + 1) y := fun k hk => by
    show dt (rows0.getD k []) y n + F p ((rows0.getD k []).getD n 0) * y n = 0
    rw [dxy _ _ (Nat.le_refl _), hx k (by omega), hyn]; grind
  have h1 := (h.sol y).2 h0 i (by rw [h.len]; omega)
  have h2 : dt (s.1.getD i []) y n + F p ((s.1.getD i []).getD n 0) * y n = 0 := h1
  rw [dxy _ _ (Nat.le_refl _), hyn, dt_pick (i := i) (z := x i) hi (fun j hj => by
    rw [h.one i j (by omega) hj]
    by_cases e : j = i
    · rw [if_pos e.symm, if_pos e, F_one]
    · rw [if_neg (fun q => e q.symm), if_neg e, F_zero]) rfl] at h2
  grind
end
end Q
end Go.Proofs.Ytcnbinjoeilfgaa
