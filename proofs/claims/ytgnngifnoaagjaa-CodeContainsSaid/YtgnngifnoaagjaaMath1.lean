/- Products and values. -/
import Derived.Test.YtgnngifnoaagjaaLink
set_option linter.unusedSectionVars false
namespace Go.Proofs.Ytgnngifnoaagjaa.Q
open Go.Proofs.Ytgnngifnoaagjaa
section
variable {p : Nat} [NeZero p]
def mono (c : Fin p) (i : Nat) : S p := fun t => if t = i then c else 0
def shN (i : Nat) (g : S p) : S p := fun t => if i ≤ t then g (t - i) else 0
def Fs (R : Nat → Nat) : S p := fun t => F p (R t)
theorem mulS_sh (f g : S p) : mulS (sh f) g = sh (mulS f g) := by
  rw [mulS_split]
  have h1 : tl (sh f) = f := rfl
  have h2 : sh f 0 = 0 := rfl
  rw [h1, h2]
  apply S.ext; intro t; simp only [addS, smul]; grind
theorem mulS_mono (c : Fin p) (i : Nat) (g : S p) : mulS (mono c i) g = smul c (shN i g) := by
  induction i with
  | zero =>
    have : mono c 0 = C c := rfl
    rw [this, mulS_C]; apply S.ext; intro t; simp [smul, shN]
  | succ i ih =>
    have : mono c (i + 1) = sh (mono c i) := by
      apply S.ext; intro t
      cases t with
      | zero => simp [mono, sh]
      | succ t => simp [mono, sh]
    rw [this, mulS_sh, ih]
    apply S.ext; intro t
    cases t with
    | zero => simp only [sh, smul, shN]; rw [if_neg (by omega)]; grind
    | succ t =>
      simp only [sh, smul, shN]
      by_cases h : i ≤ t
      · rw [if_pos h, if_pos (by omega), show t + 1 - (i + 1) = t - i by omega]
      · rw [if_neg h, if_neg (by omega)]
theorem cf_take (a : List Nat) (i : Nat) (h : i < a.length) : cf p (a.take (i + 1)) = addS (cf p (a.take i)) (mono (F p (a.getD i 0)) i) := by
  apply S.ext; intro t
  rw [take_snoc a i h]
  have hl : (a.take i).length = i := by simp; omega
  simp only [cf, addS, mono, List.getD_eq_getElem?_getD]
  rcases Nat.lt_trichotomy t i with h1 | h1 | h1
  · rw [List.getElem?_append_left (by omega), if_neg (by omega)]; grind
  · subst h1
    rw [List.getElem?_append_right (by omega), hl, Nat.sub_self, if_pos rfl, List.getElem?_eq_none (l := a.take t) (by omega)]
    simp only [List.getElem?_cons_zero, Option.getD_some, Option.getD_none, F_zero]; grind
  · rw [List.getElem?_append_right (by omega), hl, if_neg (by omega), List.getElem?_eq_none (l := a.take i) (by omega), List.getElem?_eq_none (by simp; omega)]
    simp only [Option.getD_none, F_zero]; grind
theorem cf_trimP (hv : vld p = true) (l : List Nat) : cf p (trimP p l) = cf p l := by
  apply S.ext; intro t; unfold cf; rw [trimP_getD, F_fred hv]
theorem cf_trimZ (l : List Nat) : cf p (trimZ l) = cf p l := by
  apply S.ext; intro t; unfold cf; rw [trimZ_getD]
theorem cf_radd (hv : vld p = true) (a b : List Nat) : cf p (radd p a b) = addS (cf p a) (cf p b) := by
  apply S.ext; intro t; simp only [cf, addS]; rw [radd_getD, F_fadd hv]
theorem cf_rscale (hv : vld p = true) (a : List Nat) (n : Nat) : cf p (rscale p a n) = smul (F p n) (cf p a) := by
  apply S.ext; intro t; simp only [cf, smul]; rw [rscale_getD, F_fmul hv]; grind
theorem cf_shift (l : List Nat) (i : Nat) : cf p (shift l i) = shN i (cf p l) := by
  apply S.ext; intro t; simp only [cf, shN, shift, List.getD_eq_getElem?_getD]
  by_cases h : i ≤ t
  · rw [if_pos h, List.getElem?_append_right (by simpa using h)]; simp
  · rw [if_neg h, List.getElem?_append_left (by simp; omega), List.getElem?_replicate]
    rw [if_pos (by omega)]; exact F_zero
theorem cf_rmulK (hv : vld p = true) (a b : List Nat) : ∀ k, k ≤ a.length → cf p (rmulK p a b k) = mulS (cf p (a.take k)) (cf p b)
  | 0, _ => by rw [rmulK, List.take_zero, cf_nil, mulS_zeroS]
  | k + 1, h => by
    rw [rmulK, cf_radd hv, cf_rmulK hv a b k (by omega), cf_shift, cf_rscale hv, cf_take a k (by omega), mulS_add_l, mulS_mono]
    apply S.ext; intro t
    simp only [addS, smul, shN]
    split <;> grind
theorem cf_rmul (hv : vld p = true) (a b : List Nat) : cf p (rmul p a b) = mulS (cf p a) (cf p b) := by
  unfold rmul; rw [cf_rmulK hv a b a.length (Nat.le_refl _), List.take_length]
theorem Fs_mout (hv : vld p = true) (a b : List Nat) : ∀ i, i ≤ a.length → Fs (p := p) (mout p a b i) = mulS (cf p (a.take i)) (cf p b)
  | 0, _ => by
    rw [List.take_zero, cf_nil, mulS_zeroS]; apply S.ext; intro t; simp [Fs, mout, zeroS, F_zero]
  | i + 1, h => by
    rw [cf_take a i (by omega), mulS_add_l, ← Fs_mout hv a b i (by omega), mulS_mono]
    apply S.ext; intro t
    rw [mout]
    by_cases h0 : a.getD i 0 = 0
    · rw [if_pos h0, h0, F_zero]; simp only [addS, smul]; grind
    · rw [if_neg h0]
      simp only [Fs, addS, smul, shN, mrow, cf]
      by_cases h1 : i ≤ t ∧ t < i + b.length
      · rw [if_pos h1, if_pos h1.1, F_fadd hv, F_fmul hv]
      · rw [if_neg h1]
        by_cases h2 : i ≤ t
        · rw [if_pos h2]
          have : b.getD (t - i) 0 = 0 := by rw [List.getD_eq_getElem?_getD, List.getElem?_eq_none (by omega)]; rfl
          rw [this, F_zero]; grind
        · rw [if_neg h2]; grind
theorem mout_lt (hv : vld p = true) (a b : List Nat) : ∀ i t, mout p a b i t < p
  | 0, t => by have := vld_bd hv; simp [mout]; omega
  | i + 1, t => by
    rw [mout]; split
    · exact mout_lt hv a b i t
    · unfold mrow; split
      · exact fadd_lt hv
      · exact mout_lt hv a b i t
end
theorem red_getD {p : Nat} (hv : vld p = true) {l : List Nat} (h : ∀ x ∈ l, x < p) (t : Nat) : l.getD t 0 < p := by
  rw [List.getD_eq_getElem?_getD]
  cases hx : l[t]? with
  | none => have := vld_bd hv; simp; omega
  | some x => simp only [Option.getD_some]; exact h x (List.mem_of_getElem? hx)
theorem pmul_getD {p : Nat} [NeZero p] (hv : vld p = true) (a b : List Nat) (t : Nat) : F p ((pmul p a b).getD t 0) = mulS (cf p a) (cf p b) t ∧ (pmul p a b).getD t 0 < p := by
  have hpos : 0 < p := by have := vld_bd hv; omega
  rw [← cf_trimP hv a, ← cf_trimP hv b]
  unfold pmul
  split
  · rename_i h
    refine ⟨?_, by simpa using hpos⟩
    rcases h with h | h
    · have : trimP p a = [] := List.eq_nil_of_length_eq_zero h
      rw [this, cf_nil, mulS_zeroS]; simp [zeroS, F_zero]
    · have : trimP p b = [] := List.eq_nil_of_length_eq_zero h
      rw [this, cf_nil, mulS_comm, mulS_zeroS]; simp [zeroS, F_zero]
  · rename_i h
    rw [trimZ_getD, tab_getD]
    split
    · have := congrFun (Fs_mout hv (trimP p a) (trimP p b) (trimP p a).length (Nat.le_refl _)) t
      rw [List.take_length] at this
      exact ⟨this, mout_lt hv _ _ _ _⟩
    · refine ⟨?_, hpos⟩
      rw [(cf_deg (trimP p a)).mul (cf_deg (trimP p b)) t (by omega), F_zero]
theorem pmul_trim (p : Nat) (a b : List Nat) : trimZ (pmul p a b) = pmul p a b := by
  unfold pmul; split
  · rfl
  · exact trimZ_idem _
theorem rmul_trim (p : Nat) (a b : List Nat) : trimZ (rmul p a b) = rmul p a b := by
  unfold rmul
  cases a.length with
  | zero => rfl
  | succ k => exact trimP_trim _ _
theorem radd_lt' {p : Nat} (hv : vld p = true) (a b : List Nat) (t : Nat) : (radd p a b).getD t 0 < p := by rw [radd_getD]; exact fadd_lt hv
theorem rmul_lt {p : Nat} (hv : vld p = true) (a b : List Nat) (t : Nat) : (rmul p a b).getD t 0 < p := by
  unfold rmul
  cases a.length with
  | zero => have := vld_bd hv; simp [rmulK]; omega
  | succ k => rw [rmulK]; exact radd_lt' hv _ _ _
theorem inv_zero {p : Nat} (hv : vld p = false) (l : List Nat) : trimP p l = [] := by
  unfold trimP; rw [trimZ_nil_iff]; intro t
  rw [map_getD _ (fred_zero p)]; simp [fred, hv]
theorem rmul_inv {p : Nat} (hv : vld p = false) (a b : List Nat) : rmul p a b = [] := by
  unfold rmul
  cases a.length with
  | zero => rfl
  | succ k => exact inv_zero hv _
theorem pmul_inv {p : Nat} (hv : vld p = false) (a b : List Nat) : pmul p a b = [] := by
  unfold pmul; rw [if_pos (.inl (by rw [inv_zero hv]; rfl))]
theorem mul_same (p : Nat) (a b : List Nat) : pmul p a b = rmul p a b := by
  cases hv : vld p
  · rw [pmul_inv hv, rmul_inv hv]
  · haveI := nz_vld hv
    refine trimmed_ext (pmul_trim _ _ _) (rmul_trim _ _ _) fun t => ?_
    have h := pmul_getD hv a b t
    refine F_inj (p := p) h.2 (rmul_lt hv a b t) ?_
    rw [h.1, ← cf_rmul hv]; rfl
theorem mul_comm' (p : Nat) (a b : List Nat) : pmul p a b = pmul p b a := by
  cases hv : vld p
  · rw [pmul_inv hv, pmul_inv hv]
  · haveI := nz_vld hv
    refine trimmed_ext (pmul_trim _ _ _) (pmul_trim _ _ _) fun t => ?_
    have h := pmul_getD hv a b t
    have k := pmul_getD hv b a t
    refine F_inj (p := p) h.2 k.2 ?_
    rw [h.1, k.1, mulS_comm]
theorem trimZ_full {l : List Nat} (h : l.getD (l.length - 1) 0 ≠ 0) : trimZ l = l := by
  have hl : 0 < l.length := by
    rcases Nat.eq_zero_or_pos l.length with h0 | h0
    · rw [List.eq_nil_of_length_eq_zero h0] at h; simp at h
    · exact h0
  have := take_snoc l (l.length - 1) (by omega)
  rw [show l.length - 1 + 1 = l.length by omega, List.take_length] at this
  rw [this]; exact trimZ_snoc _ _ h
theorem trimZ_last {l : List Nat} (h : trimZ l = l) (hl : 0 < l.length) : l.getD (l.length - 1) 0 ≠ 0 := by
  intro h0
  have := take_snoc l (l.length - 1) (by omega)
  rw [show l.length - 1 + 1 = l.length by omega, List.take_length, h0] at this
  have h1 : trimZ l = trimZ (l.take (l.length - 1)) := by conv => lhs; rw [this]; 
                                                          rw [trimZ_snoc0]
  have h2 := trimZ_le (l.take (l.length - 1))
  rw [← h1, h] at h2; simp at h2; omega
theorem trimP_red {p : Nat} (hv : vld p = true) (l : List Nat) (t : Nat) : (trimP p l).getD t 0 < p := by rw [trimP_getD]; exact fred_lt hv
theorem red_ne {p : Nat} [NeZero p] {a : Nat} (h : a < p) (h0 : a ≠ 0) : F p a ≠ 0 := by
  rw [Ne, F_eq_zero, Nat.mod_eq_of_lt h]; exact h0
theorem trimP_red_id {p : Nat} (hv : vld p = true) {l : List Nat} (ht : trimZ l = l) (hr : ∀ t, l.getD t 0 < p) : trimP p l = l := by
  refine trimmed_ext (trimP_trim _ _) ht fun t => ?_
  rw [trimP_getD]; unfold fred; rw [if_pos hv, Nat.mod_eq_of_lt (hr t)]
theorem mul_deg {p : Nat} (hv : vld p = true) (a b : List Nat) (ha : 0 < (trimP p a).length) (hb : 0 < (trimP p b).length) :
    (trimP p (pmul p a b)).length + 1 = (trimP p a).length + (trimP p b).length := by
  haveI := nz_vld hv
  rw [trimP_red_id hv (pmul_trim p a b) (fun t => (pmul_getD hv a b t).2)]
  have hn : (tab ((trimP p a).length + (trimP p b).length - 1) (mout p (trimP p a) (trimP p b) (trimP p a).length)).length = (trimP p a).length + (trimP p b).length - 1 := tab_len _ _
  have htop : (pmul p a b).getD ((trimP p a).length + (trimP p b).length - 2) 0 ≠ 0 := by
    intro h0
    have h1 := (pmul_getD hv a b ((trimP p a).length + (trimP p b).length - 2)).1
    rw [h0, F_zero, ← cf_trimP hv a, ← cf_trimP hv b] at h1
    have h2 := mul_top (p := p) (f := cf p (trimP p a)) (g := cf p (trimP p b)) (m := (trimP p a).length - 1) (n := (trimP p b).length - 1) ((cf_deg _).mono (by omega)) ((cf_deg _).mono (by omega))
    rw [show (trimP p a).length - 1 + ((trimP p b).length - 1) = (trimP p a).length + (trimP p b).length - 2 by omega, ← h1] at h2
    rcases noZD hv h2.symm with h3 | h3
    · exact red_ne (trimP_red hv a _) (trimZ_last (trimP_trim p a) ha) h3
    · exact red_ne (trimP_red hv b _) (trimZ_last (trimP_trim p b) hb) h3
  unfold pmul at htop ⊢
  rw [if_neg (by omega)] at htop ⊢
  rw [trimZ_getD] at htop
  rw [trimZ_full (by rw [hn, show (trimP p a).length + (trimP p b).length - 1 - 1 = (trimP p a).length + (trimP p b).length - 2 by omega]; exact htop), hn]; omega
/-! ### values -/
section
variable {p : Nat} [NeZero p]
theorem F_horner (hv : vld p = true) (x : Nat) (l : List Nat) : F p (horner p x l) = ev l.length (cf p l) (F p x) := by
  induction l with
  | nil => exact F_zero
  | cons c l ih =>
    rw [horner, F_fadd hv, F_fmul hv, ih, List.length_cons, ev, cf_cons]
    have : cf p (c :: l) 0 = F p c := rfl
    rw [this]; grind
theorem ev_snoc (f : S p) (x : Fin p) : ∀ k, ev (k + 1) f x = ev k f x + f k * x ^ k := by
  intro k
  induction k generalizing f with
  | zero => simp only [ev]; grind
  | succ k ih => rw [ev, ih (tl f), ev]; simp only [tl]; grind
theorem F_pwK (hv : vld p = true) (x : Nat) : ∀ k, F p (pwK p x k) = (F p x) ^ k
  | 0 => by rw [pwK, F_one]; grind
  | k + 1 => by rw [pwK, F_fmul hv, F_pwK hv x k]; grind
theorem F_revK (hv : vld p = true) (x : Nat) (l : List Nat) : ∀ k, F p (revK p x l k) = ev k (cf p l) (F p x)
  | 0 => F_zero
  | k + 1 => by
    rw [revK, F_fadd hv, F_revK hv x l k, F_fmul hv, F_pwK hv, ev_snoc]; rfl
end
theorem horner_lt {p : Nat} (hv : vld p = true) (x : Nat) (l : List Nat) : horner p x l < p := by
  cases l with
  | nil => have := vld_bd hv; simp [horner]; omega
  | cons c l => exact fadd_lt hv
theorem revK_lt {p : Nat} (hv : vld p = true) (x : Nat) (l : List Nat) (k : Nat) : revK p x l k < p := by
  cases k with
  | zero => have := vld_bd hv; simp [revK]; omega
  | succ k => exact fadd_lt hv
theorem horner_inv {p : Nat} (hv : vld p = false) (x : Nat) (l : List Nat) : horner p x l = 0 := by
  cases l with
  | nil => rfl
  | cons c l => simp [horner, fadd, hv]
theorem revK_inv {p : Nat} (hv : vld p = false) (x : Nat) (l : List Nat) (k : Nat) : revK p x l k = 0 := by
  cases k with
  | zero => rfl
  | succ k => simp [revK, fadd, hv]
theorem eval_same (p x : Nat) (l : List Nat) : horner p x l = reval p x l := by
  cases hv : vld p
  · rw [horner_inv hv]; unfold reval; rw [revK_inv hv]
  · haveI := nz_vld hv
    refine F_inj (p := p) (horner_lt hv x l) (revK_lt hv x l _) ?_
    rw [F_horner hv]; unfold reval; rw [F_revK hv]
theorem eval_mul (p x : Nat) (a b : List Nat) : horner p x (pmul p a b) = fmul p (horner p x a) (horner p x b) := by
  cases hv : vld p
  · rw [horner_inv hv]; simp [fmul, hv]
  · haveI := nz_vld hv
    refine F_inj (p := p) (horner_lt hv x _) (fmul_lt hv) ?_
    rw [F_fmul hv, F_horner hv, F_horner hv, F_horner hv]
    have e : cf p (pmul p a b) = mulS (cf p a) (cf p b) := by apply S.ext; intro t; exact (pmul_getD hv a b t).1
    have h1 := ev_more (cf_deg (p := p) (pmul p a b)) (F p x) (max (pmul p a b).length (a.length + b.length)) (by omega)
    rw [← h1, e, ev_mul (cf_deg a) (cf_deg b) (F p x) _ (by omega)]
theorem eval_add (p x : Nat) (a b : List Nat) : horner p x (trimZ (addL p a b)) = fadd p (horner p x a) (horner p x b) := by
  cases hv : vld p
  · rw [horner_inv hv]; simp [fadd, hv]
  · haveI := nz_vld hv
    refine F_inj (p := p) (horner_lt hv x _) (fadd_lt hv) ?_
    rw [F_fadd hv, F_horner hv, F_horner hv, F_horner hv]
    have e : cf p (trimZ (addL p a b)) = addS (cf p a) (cf p b) := by rw [add_same, cf_radd hv]
    have h1 := ev_more (cf_deg (p := p) (trimZ (addL p a b))) (F p x) (max (trimZ (addL p a b)).length (max a.length b.length)) (by omega)
    rw [← h1, e, ev_add, ev_more (cf_deg a) (F p x) _ (by omega), ev_more (cf_deg b) (F p x) _ (by omega)]
end Go.Proofs.Ytgnngifnoaagjaa.Q
