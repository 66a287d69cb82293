/- Vanishing polynomials; division. -/
import Derived.Test.YtgnngifnoaagjaaMath1
set_option linter.unusedSectionVars false
namespace Go.Proofs.Ytgnngifnoaagjaa.Q
open Go.Proofs.Ytgnngifnoaagjaa
section
variable {p : Nat} [NeZero p]
theorem DegLt.cf_len {l : List Nat} (_hv : vld p = true) (ht : trimZ l = l) (hr : ∀ t, l.getD t 0 < p) {n : Nat} (h : DegLt (cf p l) n) : l.length ≤ n := by
  rcases Nat.lt_or_ge n l.length with h1 | h1
  · exfalso
    have h2 := h (l.length - 1) (by omega)
    exact red_ne (hr _) (trimZ_last ht (by omega)) h2
  · exact h1
/-- The product of X - x for the first k points. -/
def vanS (xs : List Nat) : Nat → S p
  | 0 => C 1
  | k + 1 => mulS (lin (F p (xs.getD k 0))) (vanS xs k)
theorem C_deg (c : Fin p) : DegLt (C c) 1 := fun t ht => by simp only [C]; rw [if_neg (by omega)]
theorem vanS_deg (xs : List Nat) : ∀ k, DegLt (vanS (p := p) xs k) (k + 1)
  | 0 => C_deg 1
  | k + 1 => fun t ht => (lin_deg _).mul (vanS_deg xs k) t (by omega)
theorem vanS_top (xs : List Nat) : ∀ k, vanS (p := p) xs k k = 1
  | 0 => by simp [vanS, C]
  | k + 1 => by
    have h := mul_top (f := lin (F p (xs.getD k 0))) (g := vanS xs k) (m := 1) (n := k) (lin_deg _) (vanS_deg xs k)
    rw [Nat.add_comm 1 k] at h
    show mulS _ _ (k + 1) = 1
    rw [h, vanS_top xs k]
    have : lin (F p (xs.getD k 0)) 1 = 1 := by simp [lin]
    rw [this]; grind
theorem vanS_ev (xs : List Nat) (x : Fin p) : ∀ k s, k + 1 ≤ s → (ev s (vanS xs k) x = 0 ↔ ∃ j, j < k ∧ x = F p (xs.getD j 0)) ∨ vld p = false
  | 0, s, hs => by
    cases hv : vld p
    · exact .inr rfl
    · left
      have h1 := ev_more (C_deg (p := p) 1) x s (by omega)
      show ev s (C 1) x = 0 ↔ _
      rw [h1]
      have h2 : ev 1 (C (p := p) 1) x = 1 := by simp only [ev, C]; simp; grind
      rw [h2]
      constructor
      · intro h
        exfalso
        have hb := vld_bd hv
        have := congrArg Fin.val h
        rw [← F_one, F_val, Nat.mod_eq_of_lt (by omega)] at this
        simp at this
      · rintro ⟨j, hj, _⟩; omega
  | k + 1, s, hs => by
    cases hv : vld p
    · exact .inr rfl
    · left
      have h1 := ev_mul (lin_deg (F p (xs.getD k 0))) (vanS_deg xs k) x (k + 3) (by omega)
      have hm := vanS_deg (p := p) xs (k + 1)
      rw [ev_more hm x s (by omega), ← ev_more hm x (k + 3) (by omega)]
      show ev (k + 3) (mulS _ _) x = 0 ↔ _
      rw [h1, lin_ev]
      have ih := (vanS_ev xs x k (k + 1) (Nat.le_refl _)).resolve_right (by rw [hv]; simp)
      constructor
      · intro h
        rcases noZD hv h with h2 | h2
        · exact ⟨k, by omega, by grind⟩
        · obtain ⟨j, hj, he⟩ := ih.1 h2
          exact ⟨j, by omega, he⟩
      · rintro ⟨j, hj, he⟩
        rcases Nat.lt_or_ge j k with h2 | h2
        · rw [ih.2 ⟨j, h2, he⟩]; grind
        · obtain rfl : j = k := by omega
          rw [he]; grind
theorem cf_pvanK (hv : vld p = true) (xs : List Nat) : ∀ k, cf p (pvanK p xs k) = vanS xs k
  | 0 => by
    apply S.ext; intro t
    cases t with
    | zero => exact F_one
    | succ t => simp [pvanK, vanS, cf, C, F_zero]
  | k + 1 => by
    show _ = mulS _ _
    rw [← cf_pvanK hv xs k, lin_mul]
    apply S.ext; intro t
    simp only [cf, pvanK, vstep, tab_getD, subS, smul]
    have hbig : ∀ u, (pvanK p xs k).length ≤ u → (pvanK p xs k).getD u 0 = 0 := fun u hu => by rw [List.getD_eq_getElem?_getD, List.getElem?_eq_none hu]; rfl
    cases t with
    | zero =>
      rw [if_pos (by omega), if_pos rfl, F_fneg hv, F_fmul hv]; simp only [sh]; grind
    | succ t =>
      simp only [sh, cf]
      by_cases h : t + 1 < (pvanK p xs k).length + 1
      · rw [if_pos h, if_neg (by omega), F_fsub hv, F_fmul hv, Nat.add_sub_cancel]; grind
      · rw [if_neg h, hbig t (by omega), hbig (t + 1) (by omega), F_zero]; grind
end
def rvanK (p : Nat) (xs : List Nat) : Nat → List Nat
  | 0 => trimP p [1]
  | k + 1 => rmul p [fneg p (xs.getD k 0), fred p 1] (rvanK p xs k)
def rvan (p : Nat) (xs : List Nat) : List Nat := rvanK p xs xs.length
theorem rvanK_le (p : Nat) (xs : List Nat) : ∀ k, (rvanK p xs k).length ≤ 2 * k + 1
  | 0 => Nat.le_trans (trimP_le _ _) (by simp)
  | k + 1 => by
    have h := rmul_le p [fneg p (xs.getD k 0), fred p 1] (rvanK p xs k)
    have := rvanK_le p xs k
    have h2 : [fneg p (xs.getD k 0), fred p 1].length = 2 := rfl
    rw [h2] at h
    rw [rvanK]; omega
theorem vstep_lt {p : Nat} (hv : vld p = true) (V : List Nat) (x t : Nat) : (vstep p V x).getD t 0 < p := by
  unfold vstep; rw [tab_getD]; split
  · split
    · exact fneg_lt hv
    · exact fsub_lt hv
  · have := vld_bd hv; omega
theorem pvanK_lt {p : Nat} (hv : vld p = true) (xs : List Nat) (k t : Nat) : (pvanK p xs k).getD t 0 < p := by
  have := vld_bd hv
  cases k with
  | zero => cases t <;> simp [pvanK] <;> omega
  | succ k => exact vstep_lt hv _ _ _
theorem cf_rvanK {p : Nat} [NeZero p] (hv : vld p = true) (xs : List Nat) : ∀ k, cf p (rvanK p xs k) = vanS xs k
  | 0 => by
    rw [rvanK, cf_trimP hv]; apply S.ext; intro t
    cases t with
    | zero => exact F_one
    | succ t => simp [vanS, cf, C, F_zero]
  | k + 1 => by
    show _ = mulS _ _
    rw [rvanK, cf_rmul hv, cf_rvanK hv xs k]
    congr 1
    apply S.ext; intro t
    match t with
    | 0 => simp only [cf, lin]; simp [F_fneg hv]
    | 1 => simp only [cf, lin]; simp [F_fred hv, F_one]
    | t + 2 => simp [cf, lin, F_zero]
theorem rvanK_trim (p : Nat) (xs : List Nat) (k : Nat) : trimZ (rvanK p xs k) = rvanK p xs k := by
  cases k with
  | zero => exact trimP_trim _ _
  | succ k => exact rmul_trim _ _ _
theorem rvanK_lt {p : Nat} (hv : vld p = true) (xs : List Nat) (k t : Nat) : (rvanK p xs k).getD t 0 < p := by
  cases k with
  | zero => exact trimP_red hv _ _
  | succ k => exact rmul_lt hv _ _ _
theorem pvanK_trim {p : Nat} (hv : vld p = true) (xs : List Nat) (k : Nat) : trimZ (pvanK p xs k) = pvanK p xs k := by
  haveI := nz_vld hv
  apply trimZ_full
  rw [pvanK_len, Nat.add_sub_cancel]
  intro h
  have h1 := congrFun (cf_pvanK hv xs k) k
  rw [vanS_top] at h1
  simp only [cf] at h1
  rw [h, F_zero, ← F_one] at h1
  have hb := vld_bd hv
  have := congrArg Fin.val h1
  rw [F_val, Nat.mod_eq_of_lt (by omega)] at this
  simp at this
theorem van_same (p : Nat) (xs : List Nat) : (if vld p then pvan p xs else []) = rvan p xs := by
  cases hv : vld p
  · simp only [Bool.false_eq_true, if_false]
    unfold rvan
    cases xs.length with
    | zero => exact (inv_zero hv _).symm
    | succ k => exact (rmul_inv hv _ _).symm
  · simp only [if_true]
    haveI := nz_vld hv
    refine trimmed_ext (pvanK_trim hv xs _) (rvanK_trim _ _ _) fun t => ?_
    refine F_inj (p := p) (pvanK_lt hv xs _ t) (rvanK_lt hv xs _ t) ?_
    exact congrFun ((cf_pvanK hv xs xs.length).trans (cf_rvanK hv xs xs.length).symm) t
/-- The value of the vanishing polynomial. -/
theorem van_zero {p : Nat} (hv : vld p = true) (xs : List Nat) (x : Nat) : horner p x (pvan p xs) = 0 ↔ ∃ j, j < xs.length ∧ fsub p x (xs.getD j 0) = 0 := by
  haveI := nz_vld hv
  have h1 : horner p x (pvan p xs) = 0 ↔ F p (horner p x (pvan p xs)) = 0 := by
    constructor
    · intro h; rw [h, F_zero]
    · intro h; exact F_inj (p := p) (horner_lt hv _ _) (by have := vld_bd hv; omega) (by rw [h, F_zero])
  rw [h1, F_horner hv]
  unfold pvan
  rw [cf_pvanK hv, pvanK_len]
  have h2 := (vanS_ev (p := p) xs (F p x) xs.length (xs.length + 1) (Nat.le_refl _)).resolve_right (by rw [hv]; simp)
  rw [h2]
  constructor
  · rintro ⟨j, hj, he⟩
    refine ⟨j, hj, F_inj (p := p) (fsub_lt hv) (by have := vld_bd hv; omega) ?_⟩
    rw [F_fsub hv, he, F_zero]; grind
  · rintro ⟨j, hj, he⟩
    refine ⟨j, hj, ?_⟩
    have := F_fsub hv x (xs.getD j 0)
    rw [he, F_zero] at this; grind

/-! ### division -/
section
variable {p : Nat} [NeZero p]
/-- Division by a polynomial whose leading coefficient is not zero is unique. -/
theorem div_unique (hv : vld p = true) {b q r q' r' : S p} {m n : Nat} (hb : DegLt b (m + 1)) (hl : b m ≠ 0) (hq : DegLt q n) (hq' : DegLt q' n) (hr : DegLt r m) (hr' : DegLt r' m)
    (h : addS (mulS q b) r = addS (mulS q' b) r') : q = q' ∧ r = r' := by
  have key : ∀ k, ∀ d : S p, DegLt d k → DegLt (mulS d b) m → d = zeroS := by
    intro k
    induction k with
    | zero => intro d hd _; exact deg_zero hd
    | succ k ih =>
      intro d hd hm
      have htop := mul_top hd hb
      rw [hm (k + m) (by omega)] at htop
      have h0 : d k = 0 := by
        rcases noZD hv htop.symm with h1 | h1
        · exact h1
        · exact absurd h1 hl
      refine ih d (fun t ht => ?_) hm
      rcases Nat.lt_or_ge k t with h1 | h1
      · exact hd t (by omega)
      · obtain rfl : t = k := by omega
        exact h0
  have hsub : mulS (subS q q') b = subS r' r := by
    rw [mulS_sub_l]; apply S.ext; intro t
    have := congrFun h t
    simp only [addS, subS] at this ⊢; grind
  have hz := key n (subS q q') (hq.sub hq') (by rw [hsub]; exact hr'.sub hr)
  have hqq : q = q' := by
    apply S.ext; intro t
    have := congrFun hz t
    simp only [subS, zeroS] at this; grind
  refine ⟨hqq, ?_⟩
  subst hqq
  apply S.ext; intro t
  have := congrFun h t
  simp only [addS] at this; grind
theorem Fs_drow (hv : vld p = true) (R : Nat → Nat) (i fac : Nat) (b : List Nat) : Fs (p := p) (drow p R i fac b b.length) = subS (Fs R) (mulS (mono (F p fac) i) (cf p b)) := by
  rw [mulS_mono]; apply S.ext; intro t
  simp only [Fs, drow, subS, smul, shN, cf]
  by_cases h1 : i ≤ t ∧ t < i + b.length
  · rw [if_pos h1, if_pos h1.1, F_fsub hv, F_fmul hv]
  · rw [if_neg h1]
    by_cases h2 : i ≤ t
    · rw [if_pos h2]
      have : b.getD (t - i) 0 = 0 := by rw [List.getD_eq_getElem?_getD, List.getElem?_eq_none (by omega)]; rfl
      rw [this, F_zero]; grind
    · rw [if_neg h2]; grind
theorem Fs_dR_step (hv : vld p = true) (a b : List Nat) (n inv j : Nat) (h : j < n) : Fs (p := p) (dR p a b n inv (n - j)) = subS (Fs (dR p a b n inv (n - (j + 1)))) (mulS (mono (F p (dfac p a b n inv j)) j) (cf p b)) := by
  rw [dR_step p a b n inv j h]
  split
  · rename_i h0
    rw [h0, F_zero, mulS_mono]; apply S.ext; intro t; simp only [subS, smul]; grind
  · exact Fs_drow hv _ _ _ _
theorem Fs_dQ_step (a b : List Nat) (n inv j : Nat) : Fs (p := p) (dQ p a b n inv j) = addS (Fs (dQ p a b n inv (j + 1))) (mono (F p (dfac p a b n inv j)) j) := by
  apply S.ext; intro t
  simp only [Fs, dQ, addS, mono]
  rcases Nat.lt_trichotomy t j with h | h | h
  · rw [if_neg (by omega), if_neg (by omega), if_neg (by omega), F_zero]; grind
  · subst h; rw [if_pos (Nat.le_refl _), if_neg (by omega), if_pos rfl, F_zero]; grind
  · rw [if_pos (by omega), if_pos (by omega), if_neg (by omega)]; grind
/-- The division's invariant, from the top down to k. -/
theorem dinv (hv : vld p = true) (a b : List Nat) (n : Nat) (hb : 0 < b.length) (hn : n + b.length = a.length + 1) (hlead : F p (b.getD (b.length - 1) 0) ≠ 0) :
    ∀ c k, c + k = n → (addS (mulS (Fs (fun t => if t < n then dQ p a b n (finv p (b.getD (b.length - 1) 0)) k t else 0)) (cf p b)) (Fs (dR p a b n (finv p (b.getD (b.length - 1) 0)) c)) = cf p a) ∧ DegLt (Fs (p := p) (dR p a b n (finv p (b.getD (b.length - 1) 0)) c)) (k + b.length - 1) := by
  generalize hinv : finv p (b.getD (b.length - 1) 0) = inv
  have hli := F_finv hv hlead
  rw [hinv] at hli
  intro c
  induction c with
  | zero =>
    intro k hk
    obtain rfl : k = n := by omega
    have e : Fs (p := p) (fun t => if t < k then dQ p a b k inv k t else 0) = zeroS := by
      apply S.ext; intro t; simp only [Fs, zeroS, dQ]
      by_cases h : t < k
      · rw [if_pos h, if_neg (by omega), F_zero]
      · rw [if_neg h, F_zero]
    rw [e, mulS_zeroS]
    have e2 : Fs (p := p) (dR p a b k inv 0) = cf p a := rfl
    refine ⟨?_, ?_⟩
    · rw [e2]; apply S.ext; intro t; simp only [addS, zeroS]; grind
    · rw [e2]; exact (cf_deg a).mono (by omega)
  | succ c ih =>
    intro j hj
    have hjn : j < n := by omega
    obtain ⟨ih1, ih2⟩ := ih (j + 1) (by omega)
    have ec : c + 1 = n - j := by omega
    have ec' : c = n - (j + 1) := by omega
    have hR := Fs_dR_step hv a b n inv j hjn
    rw [← ec, ← ec'] at hR
    have hQ : Fs (p := p) (fun t => if t < n then dQ p a b n inv j t else 0) = addS (Fs (fun t => if t < n then dQ p a b n inv (j + 1) t else 0)) (mono (F p (dfac p a b n inv j)) j) := by
      apply S.ext; intro t
      have := congrFun (Fs_dQ_step (p := p) a b n inv j) t
      simp only [Fs, addS] at this ⊢
      by_cases h : t < n
      · rw [if_pos h, if_pos h]; exact this
      · rw [if_neg h, if_neg h, F_zero]; simp only [mono]; rw [if_neg (by omega)]; grind
    refine ⟨?_, ?_⟩
    · rw [hQ, hR, mulS_add_l, ← ih1]; apply S.ext; intro t; simp only [addS, subS]; grind
    · intro t ht
      rw [hR, mulS_mono]
      simp only [subS, smul, shN]
      rw [if_pos (by omega)]
      rcases Nat.lt_or_ge (j + b.length - 1) t with h1 | h1
      · rw [ih2 t (by omega), cf_deg b (t - j) (by omega)]; grind
      · obtain rfl : t = j + b.length - 1 := by omega
        have hf : F p (dfac p a b n inv j) = F p (dR p a b n inv c (j + b.length - 1)) * F p inv := by
          unfold dfac; rw [F_fmul hv, show n - 1 - j = c by omega]
        rw [hf]
        have hb2 : cf p b (j + b.length - 1 - j) = F p (b.getD (b.length - 1) 0) := by
          unfold cf; rw [show j + b.length - 1 - j = b.length - 1 by omega]
        rw [hb2]
        simp only [Fs]; grind
end
end Go.Proofs.Ytgnngifnoaagjaa.Q
