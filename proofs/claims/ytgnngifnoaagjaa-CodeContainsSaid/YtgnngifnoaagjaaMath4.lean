/- Interpolation: both sums are the same, their values, and the polynomial through given points is one alone. -/
import Derived.Test.YtgnngifnoaagjaaMath3
set_option linter.unusedSectionVars false
namespace Go.Proofs.Ytgnngifnoaagjaa.Q
open Go.Proofs.Ytgnngifnoaagjaa
section
variable {p : Nat} [NeZero p]
/-- The product of X - x for the points of a list. -/
def prodL : List Nat → S p
  | [] => C 1
  | x :: l => mulS (lin (F p x)) (prodL l)
theorem mulS_one (f : S p) : mulS (C 1) f = f := by rw [mulS_C]; apply S.ext; intro t; simp only [smul]; grind
theorem prodL_app : ∀ l m : List Nat, prodL (p := p) (l ++ m) = mulS (prodL l) (prodL m)
  | [], m => by rw [List.nil_append, prodL, mulS_one]
  | x :: l, m => by rw [List.cons_append, prodL, prodL, prodL_app l m, mulS_assoc]
theorem prodL_deg : ∀ l : List Nat, DegLt (prodL (p := p) l) (l.length + 1)
  | [] => C_deg 1
  | x :: l => fun t ht => (lin_deg _).mul (prodL_deg l) t (by simp at ht; omega)
theorem vanS_prod (xs : List Nat) : ∀ k, k ≤ xs.length → vanS (p := p) xs k = prodL (xs.take k)
  | 0, _ => by simp [vanS, prodL]
  | k + 1, h => by
    rw [take_snoc xs k (by omega), prodL_app, vanS, vanS_prod xs k (by omega)]
    rw [mulS_comm (lin _)]
    congr 1
    show _ = mulS (lin _) (C 1)
    rw [mulS_comm, mulS_one]
theorem split_at (xs : List Nat) (i : Nat) (h : i < xs.length) : xs = xs.take i ++ xs.getD i 0 :: xs.drop (i + 1) := by
  rw [← drop_cons xs i h, List.take_append_drop]
/-- Synthetic division by X - x. -/
theorem syn (hv : vld p = true) (x : Nat) (V : List Nat) (h0 : horner p x V = 0) : mulS (lin (F p x)) (cf p (without p x V)) = cf p V := by
  rw [lin_mul]
  have hw : ∀ t, cf p (without p x V) t = F p (horner p x (V.drop (t + 1))) := by
    intro t
    simp only [cf, without, tab_getD, wq]
    by_cases h : t < V.length - 1
    · rw [if_pos h, if_pos (Nat.zero_le _)]
    · rw [if_neg h, List.drop_eq_nil_of_le (by omega)]; rfl
  have hs : ∀ t, F p (horner p x (V.drop t)) = cf p V t + F p (horner p x (V.drop (t + 1))) * F p x := by
    intro t
    by_cases h : t < V.length
    · rw [horner_drop p x V t h, F_fadd hv, F_fmul hv]; rfl
    · rw [List.drop_eq_nil_of_le (by omega), List.drop_eq_nil_of_le (by omega), cf_deg V t (by omega)]
      show F p 0 = 0 + F p 0 * F p x
      rw [F_zero]; grind
  apply S.ext; intro t
  cases t with
  | zero =>
    have := hs 0
    rw [List.drop_zero, h0, F_zero] at this
    simp only [subS, sh, smul, hw]; grind
  | succ t =>
    have := hs (t + 1)
    simp only [subS, sh, smul, hw]; grind
theorem lin_top (x : Fin p) : lin x 1 = 1 := by simp [lin]
/-- X - x can be cancelled. -/
theorem lin_cancel (hv : vld p = true) (x : Fin p) {f g : S p} {n : Nat} (hf : DegLt f n) (hg : DegLt g n) (h : mulS (lin x) f = mulS (lin x) g) : f = g := by
  have U := div_unique hv (b := lin x) (q := f) (r := zeroS) (q' := g) (r' := zeroS) (m := 1) (n := n) (lin_deg x) (by rw [lin_top]; exact F_one_ne hv) hf hg (fun _ _ => rfl) (fun _ _ => rfl) (by rw [mulS_comm f, mulS_comm g, h])
  exact U.1
theorem prodL_mid (xs : List Nat) (i : Nat) (h : i < xs.length) : prodL (p := p) xs = mulS (lin (F p (xs.getD i 0))) (prodL (xs.take i ++ xs.drop (i + 1))) := by
  conv => lhs; rw [split_at xs i h]
  rw [prodL_app, prodL, prodL_app, ← mulS_assoc, mulS_comm (prodL (xs.take i)), mulS_assoc]
theorem cf_van (hv : vld p = true) (xs : List Nat) : cf p (pvan p xs) = prodL xs := by
  unfold pvan; rw [cf_pvanK hv, vanS_prod _ _ (Nat.le_refl _), List.take_length]
theorem cf_rvan (hv : vld p = true) (xs : List Nat) : cf p (rvan p xs) = prodL xs := by
  unfold rvan; rw [cf_rvanK hv, vanS_prod _ _ (Nat.le_refl _), List.take_length]
theorem cf_without (hv : vld p = true) (xs : List Nat) (i : Nat) (h : i < xs.length) : cf p (without p (xs.getD i 0) (pvan p xs)) = prodL (xs.take i ++ xs.drop (i + 1)) := by
  have hz : horner p (xs.getD i 0) (pvan p xs) = 0 := (van_zero hv xs _).2 ⟨i, h, by
    refine F_inj (p := p) (fsub_lt hv) (by have := vld_bd hv; omega) ?_
    rw [F_fsub hv, F_zero]; grind⟩
  refine lin_cancel hv (F p (xs.getD i 0)) (n := xs.length) ?_ ?_ ?_
  · refine (cf_deg _).mono ?_; rw [without_len]; unfold pvan; rw [pvanK_len]; omega
  · refine (prodL_deg _).mono ?_; simp; omega
  · rw [syn hv _ _ hz, cf_van hv, prodL_mid xs i h]
end
/-- The points but the i-th. -/
def oth (xs : List Nat) (i : Nat) : List Nat := xs.take i ++ xs.drop (i + 1)
def rcoef (p : Nat) (xs ys : List Nat) (i : Nat) : Nat := fmul p (ys.getD i 0) (finv p (reval p (xs.getD i 0) (rvan p (oth xs i))))
def rintK (p : Nat) (xs ys : List Nat) : Nat → List Nat
  | 0 => []
  | i + 1 => radd p (rintK p xs ys i) (rscale p (rvan p (oth xs i)) (rcoef p xs ys i))
def rinter (p : Nat) (xs ys : List Nat) : List Nat := rintK p xs ys xs.length
theorem oth_len (xs : List Nat) (i : Nat) (h : i < xs.length) : (oth xs i).length = xs.length - 1 := by unfold oth; simp; omega
theorem rvan_le (p : Nat) (xs : List Nat) : (rvan p xs).length ≤ 2 * xs.length + 1 := rvanK_le p xs _
theorem rintK_le (p : Nat) (xs ys : List Nat) : ∀ k, k ≤ xs.length → (rintK p xs ys k).length ≤ 2 * xs.length
  | 0, _ => by simp [rintK]
  | k + 1, h => by
    rw [rintK]
    refine Nat.le_trans (radd_le _ _ _) ?_
    have h1 := rintK_le p xs ys k (by omega)
    have h2 := rscale_le p (rvan p (oth xs k)) (rcoef p xs ys k)
    have h3 := rvan_le p (oth xs k)
    rw [oth_len xs k (by omega)] at h3
    omega
section
variable {p : Nat} [NeZero p]
theorem rint_same (hv : vld p = true) (xs ys : List Nat) : ∀ k, k ≤ xs.length → Fs (p := p) (iout p xs ys k) = cf p (rintK p xs ys k)
  | 0, _ => by rw [rintK, cf_nil]; apply S.ext; intro t; exact F_zero
  | k + 1, h => by
    have ih := rint_same hv xs ys k (by omega)
    rw [rintK, cf_radd hv, cf_rscale hv, cf_rvan hv, ← ih]
    have hw := cf_without hv xs k (by omega)
    have hc : F p (fdiv p (ys.getD k 0) (horner p (xs.getD k 0) (without p (xs.getD k 0) (pvan p xs)))) = F p (rcoef p xs ys k) := by
      unfold rcoef fdiv
      congr 2
      congr 1
      rw [← eval_same]
      refine F_inj (p := p) (horner_lt hv _ _) (horner_lt hv _ _) ?_
      rw [F_horner hv, F_horner hv, hw, cf_rvan hv]
      have e1 := ev_more (p := p) (n := xs.length) (f := prodL (xs.take k ++ xs.drop (k + 1))) ((prodL_deg _).mono (by simp; omega)) (F p (xs.getD k 0))
      have hd1 : DegLt (prodL (p := p) (oth xs k)) (rvan p (oth xs k)).length := by rw [← cf_rvan hv]; exact cf_deg _
      have e2 := ev_more hd1 (F p (xs.getD k 0)) (max xs.length (rvan p (oth xs k)).length) (by omega)
      rw [without_len]; unfold pvan; rw [pvanK_len, Nat.add_sub_cancel, ← e2, ← e1 _ (Nat.le_max_left _ _)]
      rfl
    apply S.ext; intro t
    simp only [Fs, iout, irow, addS, smul]
    have hwt := congrFun hw t
    simp only [cf] at hwt
    by_cases h1 : t < (without p (xs.getD k 0) (pvan p xs)).length
    · rw [if_pos h1, F_fadd hv, F_fmul hv, hc, hwt]; rfl
    · rw [if_neg h1]
      have h0 : (without p (xs.getD k 0) (pvan p xs)).getD t 0 = 0 := by rw [List.getD_eq_getElem?_getD, List.getElem?_eq_none (by omega)]; rfl
      rw [h0, F_zero] at hwt
      have : prodL (p := p) (oth xs k) t = 0 := hwt.symm
      rw [this]; grind
end
theorem iout_lt {p : Nat} (hv : vld p = true) (xs ys : List Nat) : ∀ k t, iout p xs ys k t < p
  | 0, t => by have := vld_bd hv; simp only [iout]; omega
  | k + 1, t => by
    simp only [iout, irow]; split
    · exact fadd_lt hv
    · exact iout_lt hv xs ys k t
theorem iout_deg {p : Nat} (xs ys : List Nat) : ∀ k t, k ≤ xs.length → xs.length ≤ t → iout p xs ys k t = 0
  | 0, _, _, _ => rfl
  | k + 1, t, hk, h => by
    simp only [iout, irow]
    rw [if_neg (by rw [without_len]; unfold pvan; rw [pvanK_len]; omega)]
    exact iout_deg xs ys k t (by omega) h
theorem pinter_nf {p : Nat} (hv : vld p = true) (xs ys : List Nat) : Nf p (pinter p xs ys) := by
  refine ⟨trimZ_idem _, fun t => ?_⟩
  unfold pinter; rw [trimZ_getD, tab_getD]; split
  · exact iout_lt hv _ _ _ _
  · have := vld_bd hv; omega
theorem pinter_len (p : Nat) (xs ys : List Nat) : (pinter p xs ys).length ≤ xs.length := by
  unfold pinter; refine Nat.le_trans (trimZ_le _) ?_; rw [tab_len]; exact Nat.le_refl _
theorem rint_nf {p : Nat} (hv : vld p = true) (xs ys : List Nat) (k : Nat) : Nf p (rintK p xs ys k) := by
  cases k with
  | zero => exact Nf.nil hv
  | succ k => exact Nf.add hv _ _
theorem cf_pinter {p : Nat} [NeZero p] (xs ys : List Nat) : cf p (pinter p xs ys) = Fs (iout p xs ys xs.length) := by
  unfold pinter; rw [cf_trimZ, cf_tab_deg]
  intro t ht; simp only [Fs]; rw [iout_deg xs ys _ t (Nat.le_refl _) ht, F_zero]
theorem inter_same {p : Nat} (hv : vld p = true) (xs ys : List Nat) : pinter p xs ys = rinter p xs ys := by
  haveI := nz_vld hv
  refine (pinter_nf hv xs ys).ext (rint_nf hv xs ys _) ?_
  rw [cf_pinter, rint_same hv xs ys _ (Nat.le_refl _)]; rfl
/-- The points are different after reduction. -/
def Diff (p : Nat) (xs : List Nat) : Prop := ∀ i j, j < i → i < xs.length → fsub p (xs.getD i 0) (xs.getD j 0) ≠ 0
section
variable {p : Nat} [NeZero p]
theorem prodL_ev (hv : vld p = true) (x : Fin p) : ∀ (l : List Nat) s, l.length + 1 ≤ s → (ev s (prodL l) x = 0 ↔ ∃ y ∈ l, x = F p y)
  | [], s, hs => by
    have h1 := ev_more (C_deg (p := p) 1) x s (by simp at hs; omega)
    show ev s (C 1) x = 0 ↔ _
    rw [h1]
    have h2 : ev 1 (C (p := p) 1) x = 1 := by simp only [ev, C]; simp; grind
    rw [h2]
    constructor
    · intro h; exact absurd h (F_one_ne hv)
    · rintro ⟨y, hy, _⟩; simp at hy
  | y :: l, s, hs => by
    have hm := prodL_deg (p := p) (y :: l)
    rw [ev_more hm x s hs, ← ev_more hm x (l.length + 3) (by simp)]
    show ev (l.length + 3) (mulS _ _) x = 0 ↔ _
    rw [ev_mul (lin_deg (F p y)) (prodL_deg l) x (l.length + 3) (by omega), lin_ev]
    have ih := prodL_ev hv x l (l.length + 1) (Nat.le_refl _)
    constructor
    · intro h
      rcases noZD hv h with h2 | h2
      · exact ⟨y, by simp, by grind⟩
      · obtain ⟨z, hz, he⟩ := ih.1 h2
        exact ⟨z, by simp [hz], he⟩
    · rintro ⟨z, hz, he⟩
      rcases List.mem_cons.1 hz with h2 | h2
      · rw [he, h2]; grind
      · rw [ih.2 ⟨z, h2, he⟩]; grind
theorem Diff.ne (hv : vld p = true) {xs : List Nat} (h : Diff p xs) {i j : Nat} (hi : i < xs.length) (hj : j < xs.length) (hij : i ≠ j) : F p (xs.getD i 0) ≠ F p (xs.getD j 0) := by
  have key : ∀ i j, j < i → i < xs.length → F p (xs.getD i 0) ≠ F p (xs.getD j 0) := by
    intro i j h1 h2 e
    apply h i j h1 h2
    refine F_inj (p := p) (fsub_lt hv) (by have := vld_bd hv; omega) ?_
    rw [F_fsub hv, e, F_zero]; grind
  rcases Nat.lt_trichotomy i j with h1 | h1 | h1
  · exact fun e => key j i h1 hj e.symm
  · exact absurd h1 hij
  · exact key i j h1 hi
theorem oth_mem {xs : List Nat} {i j : Nat} (hi : i < xs.length) (hj : j < xs.length) (hij : i ≠ j) : xs.getD j 0 ∈ oth xs i := by
  unfold oth; rw [List.mem_append]
  have e : xs.getD j 0 = xs[j] := by rw [List.getD_eq_getElem?_getD, List.getElem?_eq_getElem hj]; rfl
  rw [e]
  rcases Nat.lt_or_ge j i with h | h
  · left; rw [List.mem_take_iff_getElem]; exact ⟨j, by omega, rfl⟩
  · right; rw [List.mem_drop_iff_getElem]; exact ⟨j - (i + 1), by omega, by congr 1; omega⟩
theorem oth_mem' {xs : List Nat} {i : Nat} {y : Nat} (hi : i < xs.length) (h : y ∈ oth xs i) : ∃ j, j < xs.length ∧ j ≠ i ∧ y = xs.getD j 0 := by
  unfold oth at h; rw [List.mem_append] at h
  rcases h with h | h
  · rw [List.mem_take_iff_getElem] at h
    obtain ⟨j, hj, e⟩ := h
    exact ⟨j, by omega, by omega, by rw [← e, List.getD_eq_getElem?_getD, List.getElem?_eq_getElem (by omega)]; rfl⟩
  · rw [List.mem_drop_iff_getElem] at h
    obtain ⟨j, hj, e⟩ := h
    exact ⟨i + 1 + j, by omega, by omega, by rw [← e, List.getD_eq_getElem?_getD, List.getElem?_eq_getElem (by omega)]; rfl⟩
/-- The value of the sum at a point. -/
theorem rint_ev (hv : vld p = true) {xs : List Nat} (ys : List Nat) (hd : Diff p xs) (j : Nat) (hj : j < xs.length) (s : Nat) (hs : xs.length ≤ s) :
    ∀ k, k ≤ xs.length → ev s (cf p (rintK p xs ys k)) (F p (xs.getD j 0)) = if j < k then F p (ys.getD j 0) else 0
  | 0, _ => by rw [rintK, cf_nil, ev_zeroS, if_neg (by omega)]
  | k + 1, hk => by
    rw [rintK, cf_radd hv, cf_rscale hv, cf_rvan hv, ev_add, ev_smul, rint_ev hv ys hd j hj s hs k (by omega)]
    have P := prodL_ev hv (F p (xs.getD j 0)) (oth xs k) s (by rw [oth_len xs k (by omega)]; omega)
    by_cases h1 : j = k
    · subst h1
      rw [if_neg (by omega), if_pos (by omega)]
      have hne : ev s (prodL (p := p) (oth xs j)) (F p (xs.getD j 0)) ≠ 0 := by
        intro h0
        obtain ⟨y, hy, e⟩ := P.1 h0
        obtain ⟨i, hi, hij, rfl⟩ := oth_mem' hj hy
        exact hd.ne hv hj hi (fun e => hij e.symm) e
      have hr : F p (reval p (xs.getD j 0) (rvan p (oth xs j))) = ev s (prodL (p := p) (oth xs j)) (F p (xs.getD j 0)) := by
        rw [← eval_same, F_horner hv, cf_rvan hv]
        have hd1 : DegLt (prodL (p := p) (oth xs j)) (rvan p (oth xs j)).length := by rw [← cf_rvan hv]; exact cf_deg _
        have hd2 : DegLt (prodL (p := p) (oth xs j)) s := (prodL_deg _).mono (by rw [oth_len xs j hj]; omega)
        rw [← ev_more hd1 _ (max s (rvan p (oth xs j)).length) (by omega), ev_more hd2 _ _ (Nat.le_max_left _ _)]
      have hi := F_finv hv (a := reval p (xs.getD j 0) (rvan p (oth xs j))) (by rw [hr]; exact hne)
      unfold rcoef; rw [F_fmul hv]
      rw [hr] at hi
      grind
    · rw [P.2 ⟨_, oth_mem (by omega) hj (fun e => h1 e.symm), rfl⟩]
      by_cases h2 : j < k
      · rw [if_pos h2, if_pos (by omega)]; grind
      · rw [if_neg h2, if_neg (by omega)]; grind
end
theorem inter_value {p : Nat} (hv : vld p = true) {xs : List Nat} (ys : List Nat) (hd : Diff p xs) (j : Nat) (hj : j < xs.length) : reval p (xs.getD j 0) (pinter p xs ys) = fred p (ys.getD j 0) := by
  haveI := nz_vld hv
  rw [← eval_same]
  refine F_inj (p := p) (horner_lt hv _ _) (fred_lt hv) ?_
  rw [F_horner hv, F_fred hv]
  have h1 := pinter_len p xs ys
  rw [← ev_more (cf_deg _) _ xs.length h1, inter_same hv]
  unfold rinter
  rw [rint_ev hv ys hd j hj xs.length (Nat.le_refl _) xs.length (Nat.le_refl _), if_pos hj]
section
variable {p : Nat} [NeZero p]
theorem root_factor (hv : vld p = true) (x : Nat) {f : S p} {n : Nat} (hf : DegLt f (n + 1)) (h : ev (n + 1) f (F p x) = 0) : ∃ q, DegLt q n ∧ f = mulS (lin (F p x)) q := by
  have e : cf p (tab (n + 1) (fun t => (f t).val)) = f := by
    rw [cf_tab_deg]
    · apply S.ext; intro t; exact F_of_val _
    · intro t ht; simp only [Fs]; rw [F_of_val]; exact hf t ht
  have h0 : horner p x (tab (n + 1) (fun t => (f t).val)) = 0 := by
    refine F_inj (p := p) (horner_lt hv _ _) (by have := vld_bd hv; omega) ?_
    rw [F_horner hv, tab_len, e, h, F_zero]
  refine ⟨cf p (without p x (tab (n + 1) (fun t => (f t).val))), ?_, ?_⟩
  · refine (cf_deg _).mono ?_; rw [without_len, tab_len]; omega
  · rw [syn hv x _ h0, e]
/-- As many different roots as coefficients: zero. -/
theorem roots (hv : vld p = true) : ∀ (l : List Nat) (f : S p), DegLt f l.length → (∀ y ∈ l, ev l.length f (F p y) = 0) → (l.Pairwise fun a b => F p a ≠ F p b) → f = zeroS
  | [], f, hf, _, _ => deg_zero hf
  | x :: l, f, hf, h, hp => by
    obtain ⟨q, hq, rfl⟩ := root_factor hv x hf (h x (by simp))
    rw [List.pairwise_cons] at hp
    have hz := roots hv l q hq (fun y hy => by
      have h1 := h y (by simp [hy])
      have e := ev_mul (lin_deg (F p x)) hq (F p y) (l.length + 2) (by omega)
      have e2 := ev_more hf (F p y) (l.length + 2) (by simp)
      rw [e2, h1, lin_ev] at e
      rcases noZD hv e.symm with h2 | h2
      · exact absurd (by grind) (hp.1 y hy)
      · exact h2) hp.2
    rw [hz, mulS_comm, mulS_zeroS]
theorem Diff.pairwise (hv : vld p = true) {xs : List Nat} (h : Diff p xs) : xs.Pairwise fun a b => F p a ≠ F p b := by
  rw [List.pairwise_iff_getElem]
  intro i j hi hj hij
  have := h.ne hv hi hj (by omega)
  rwa [List.getD_eq_getElem?_getD, List.getD_eq_getElem?_getD, List.getElem?_eq_getElem hi, List.getElem?_eq_getElem hj] at this
end
/-- The law of restoring. -/
theorem restores {p : Nat} (hv : vld p = true) (a xs : List Nat) (hd : Diff p xs) (hl : (trimP p a).length ≤ xs.length) : pinter p xs (xs.map fun x => horner p x a) = trimP p a := by
  haveI := nz_vld hv
  refine (pinter_nf hv _ _).ext (Nf.trim hv a) ?_
  have h1 := pinter_len p xs (xs.map fun x => horner p x a)
  have hz := roots hv xs (subS (cf p (pinter p xs (xs.map fun x => horner p x a))) (cf p (trimP p a))) (((cf_deg _).mono h1).sub ((cf_deg _).mono hl)) (fun y hy => by
    obtain ⟨j, hj, rfl⟩ := List.mem_iff_getElem.1 hy
    have ey : xs[j] = xs.getD j 0 := by rw [List.getD_eq_getElem?_getD, List.getElem?_eq_getElem hj]; rfl
    rw [ey, ev_sub, inter_same hv]
    unfold rinter
    rw [rint_ev hv _ hd j hj xs.length (Nat.le_refl _) xs.length (Nat.le_refl _), if_pos hj]
    have e3 : (xs.map fun x => horner p x a).getD j 0 = horner p (xs.getD j 0) a := by
      rw [List.getD_eq_getElem?_getD, List.getElem?_map, List.getElem?_eq_getElem hj, List.getD_eq_getElem?_getD, List.getElem?_eq_getElem hj]; rfl
    rw [e3, F_horner hv, ev_more (cf_deg (trimP p a)) _ xs.length hl, cf_trimP hv]
    have hdg : DegLt (cf p a) (trimP p a).length := by rw [← cf_trimP hv]; exact cf_deg _
    rw [ev_more hdg _ a.length (trimP_le _ _)]; grind) (hd.pairwise hv)
  apply S.ext; intro t
  have := congrFun hz t
  simp only [subS, zeroS] at this; grind
/-- The program's own test of difference. -/
theorem diff_nodup {p : Nat} (hv : vld p = true) (xs : List Nat) : Diff p xs ↔ (xs.map (fred p)).Nodup := by
  haveI := nz_vld hv
  have key : ∀ a b, fred p a = fred p b ↔ F p a = F p b := by
    intro a b; constructor
    · intro h; rw [← F_fred hv a, h, F_fred hv]
    · intro h; exact F_inj (p := p) (fred_lt hv) (fred_lt hv) (by rw [F_fred hv, F_fred hv, h])
  rw [List.nodup_iff_pairwise_ne, List.pairwise_map]
  constructor
  · intro h
    refine (h.pairwise hv).imp ?_
    intro a b hab e; exact hab ((key a b).1 e)
  · intro h i j hji hi e
    rw [List.pairwise_iff_getElem] at h
    have h2 := h j i (by omega) hi hji
    apply h2
    rw [key]
    have := F_fsub hv (xs.getD i 0) (xs.getD j 0)
    rw [e, F_zero, List.getD_eq_getElem?_getD, List.getD_eq_getElem?_getD, List.getElem?_eq_getElem hi, List.getElem?_eq_getElem (by omega : j < xs.length)] at this
    simp only [Option.getD_some] at this
    grind
end Go.Proofs.Ytgnngifnoaagjaa.Q
