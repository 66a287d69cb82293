/- From numbers to residues, from lists to sequences of coefficients. -/
import Derived.Test.YtgnngifnoaagjaaAlg
import Derived.Test.YtgnngifnoaagjaaPlain2
namespace Go.Proofs.Ytgnngifnoaagjaa.Q
open Go.Proofs.Ytgnngifnoaagjaa

theorem pr_vld {p : Nat} (h : vld p = true) : Pr p := by
  rcases vld_cases h with rfl | rfl | rfl | rfl | rfl | rfl | rfl
  · exact pr_17
  · exact pr_97
  · exact pr_193
  · exact pr_257
  · exact pr_12289
  · exact pr_65537
  · exact pr_big
theorem nz_vld {p : Nat} (h : vld p = true) : NeZero p := ⟨by have := vld_bd h; omega⟩
section
variable {p : Nat} [NeZero p]
def F (p : Nat) [NeZero p] (n : Nat) : Fin p := Fin.ofNat p n
theorem F_val (n : Nat) : (F p n).val = n % p := rfl
theorem F_eq {a b : Nat} : F p a = F p b ↔ a % p = b % p := by
  rw [Fin.ext_iff, F_val, F_val]
theorem F_of_val (x : Fin p) : F p x.val = x := by
  apply Fin.ext; rw [F_val, Nat.mod_eq_of_lt x.isLt]
theorem F_inj {a b : Nat} (ha : a < p) (hb : b < p) (h : F p a = F p b) : a = b := by
  rw [F_eq, Nat.mod_eq_of_lt ha, Nat.mod_eq_of_lt hb] at h; exact h
theorem F_zero : F p 0 = 0 := by apply Fin.ext; simp [F_val]
theorem F_one : F p 1 = 1 := by apply Fin.ext; rw [F_val]; rfl
theorem F_add (a b : Nat) : F p (a + b) = F p a + F p b := by
  apply Fin.ext; rw [Fin.val_add, F_val, F_val, F_val, Nat.add_mod]
theorem F_mul (a b : Nat) : F p (a * b) = F p a * F p b := by
  apply Fin.ext; rw [Fin.val_mul, F_val, F_val, F_val, Nat.mul_mod]
theorem F_mod (a : Nat) : F p (a % p) = F p a := by rw [F_eq, Nat.mod_mod]
theorem F_p : F p p = 0 := by rw [← F_mod, Nat.mod_self, F_zero]
theorem F_pow (a : Nat) : ∀ e, F p (a ^ e) = (F p a) ^ e
  | 0 => by rw [Nat.pow_zero, F_one]; grind
  | e + 1 => by rw [Nat.pow_succ, F_mul, F_pow a e]; grind
theorem F_fred (hv : vld p = true) (a : Nat) : F p (fred p a) = F p a := by unfold fred; rw [if_pos hv, F_mod]
theorem F_fadd (hv : vld p = true) (a b : Nat) : F p (fadd p a b) = F p a + F p b := by unfold fadd; rw [if_pos hv, F_mod, F_add]
theorem F_fmul (hv : vld p = true) (a b : Nat) : F p (fmul p a b) = F p a * F p b := by unfold fmul; rw [if_pos hv, F_mod, F_mul]
theorem F_fneg (hv : vld p = true) (a : Nat) : F p (fneg p a) = - F p a := by
  unfold fneg; rw [if_pos hv, F_mod]
  have h1 : F p (p - a % p) + F p (a % p) = 0 := by
    rw [← F_add, Nat.sub_add_cancel (Nat.le_of_lt (lt_of_mod hv)), F_p]
  rw [F_mod] at h1; grind
theorem F_fsub (hv : vld p = true) (a b : Nat) : F p (fsub p a b) = F p a - F p b := by
  unfold fsub; rw [F_fadd hv, F_fneg hv]; grind
theorem F_eq_zero {a : Nat} : F p a = 0 ↔ a % p = 0 := by rw [← F_zero, F_eq, Nat.zero_mod]
theorem noZD (hv : vld p = true) {x y : Fin p} (h : x * y = 0) : x = 0 ∨ y = 0 := by
  rw [← F_of_val x, ← F_of_val y, ← F_mul, F_eq_zero] at h
  rcases (pr_vld hv).euclid (Nat.dvd_of_mod_eq_zero h) with h1 | h1
  · left; rw [← F_of_val x, F_eq_zero]; exact Nat.mod_eq_zero_of_dvd h1
  · right; rw [← F_of_val y, F_eq_zero]; exact Nat.mod_eq_zero_of_dvd h1
theorem F_finv (hv : vld p = true) {a : Nat} (ha : F p a ≠ 0) : F p a * F p (finv p a) = 1 := by
  have hb := vld_bd hv
  unfold finv fpow; rw [if_pos hv, F_mod, ← F_mul, ← Nat.pow_succ', show (p - 2).succ = p - 1 by omega]
  have hnd : ¬ p ∣ a := fun h => ha (F_eq_zero.2 (Nat.mod_eq_zero_of_dvd h))
  rw [← F_mod, (pr_vld hv).fermat hnd, F_one]
theorem finv_zero (hv : vld p = true) {a : Nat} (ha : F p a = 0) : F p (finv p a) = 0 := by
  have hb := vld_bd hv
  unfold finv fpow; rw [if_pos hv, F_mod, F_pow, ha, show p - 2 = (p - 3) + 1 by omega]; grind
/-- The coefficients of a list. -/
def cf (p : Nat) [NeZero p] (l : List Nat) : S p := fun t => F p (l.getD t 0)
theorem cf_deg (l : List Nat) : DegLt (cf p l) l.length := fun t ht => by
  unfold cf; rw [List.getD_eq_getElem?_getD, List.getElem?_eq_none ht]; exact F_zero
theorem cf_cons (c : Nat) (l : List Nat) : tl (cf p (c :: l)) = cf p l := by
  apply S.ext; intro t; simp [tl, cf]
theorem cf_nil : cf p [] = zeroS := by apply S.ext; intro t; simp [cf, zeroS, F_zero]
end
/-! ### trimmed lists -/
theorem trimZ_getD (l : List Nat) (t : Nat) : (trimZ l).getD t 0 = l.getD t 0 := by
  induction l generalizing t with
  | nil => simp [trimZ]
  | cons x l ih =>
    rw [trimZ]
    split
    · rename_i h
      cases t with
      | zero => simp [h.1]
      | succ t =>
        have := ih t
        rw [h.2] at this
        simpa using this
    · cases t with
      | zero => simp
      | succ t => simpa using ih t
theorem trimZ_nil_iff (l : List Nat) : trimZ l = [] ↔ ∀ t, l.getD t 0 = 0 := by
  constructor
  · intro h t; rw [← trimZ_getD, h]; simp
  · intro h
    induction l with
    | nil => rfl
    | cons x l ih =>
      rw [trimZ, if_pos ⟨by simpa using h 0, ih (fun t => by simpa using h (t + 1))⟩]
theorem trimZ_ext {l m : List Nat} (h : ∀ t, l.getD t 0 = m.getD t 0) : trimZ l = trimZ m := by
  induction l generalizing m with
  | nil => rw [(trimZ_nil_iff m).2 (fun t => by rw [← h t]; simp)]; rfl
  | cons x l ih =>
    cases m with
    | nil => rw [(trimZ_nil_iff (x :: l)).2 (fun t => by rw [h t]; simp)]; rfl
    | cons y m =>
      have h0 : x = y := by simpa using h 0
      have h1 := ih (m := m) (fun t => by simpa using h (t + 1))
      rw [trimZ, trimZ, h0, h1]
theorem trimZ_idem (l : List Nat) : trimZ (trimZ l) = trimZ l := trimZ_ext (trimZ_getD l)
theorem trimmed_ext {l m : List Nat} (hl : trimZ l = l) (hm : trimZ m = m) (h : ∀ t, l.getD t 0 = m.getD t 0) : l = m := by
  rw [← hl, ← hm]; exact trimZ_ext h
theorem map_getD (f : Nat → Nat) (hf : f 0 = 0) (l : List Nat) (t : Nat) : (l.map f).getD t 0 = f (l.getD t 0) := by
  simp only [List.getD, List.getElem?_map]
  cases l[t]? <;> simp [hf]
theorem fred_zero (p : Nat) : fred p 0 = 0 := by unfold fred; split <;> simp
theorem trimP_getD (p : Nat) (l : List Nat) (t : Nat) : (trimP p l).getD t 0 = fred p (l.getD t 0) := by
  unfold trimP; rw [trimZ_getD, map_getD _ (fred_zero p)]
theorem fadd_zz (p : Nat) : fadd p 0 0 = 0 := by unfold fadd; split <;> simp
theorem fneg_z (p : Nat) : fneg p 0 = 0 := by unfold fneg; split <;> simp
theorem fsub_zz (p : Nat) : fsub p 0 0 = 0 := by unfold fsub; rw [fneg_z, fadd_zz]
theorem fmul_z (p x : Nat) : fmul p 0 x = 0 := by unfold fmul; split <;> simp
theorem addL_getD (p : Nat) (a b : List Nat) (t : Nat) : (addL p a b).getD t 0 = fadd p (a.getD t 0) (b.getD t 0) := by
  show (tab _ _).getD t 0 = _
  rw [tab_getD]
  split
  · rfl
  · rw [List.getD_eq_getElem?_getD, List.getD_eq_getElem?_getD, List.getElem?_eq_none (by omega), List.getElem?_eq_none (by omega)]; exact (fadd_zz p).symm
theorem subL_getD (p : Nat) (a b : List Nat) (t : Nat) : (subL p a b).getD t 0 = fsub p (a.getD t 0) (b.getD t 0) := by
  show (tab _ _).getD t 0 = _
  rw [tab_getD]
  split
  · rfl
  · rw [List.getD_eq_getElem?_getD, List.getD_eq_getElem?_getD, List.getElem?_eq_none (by omega), List.getElem?_eq_none (by omega)]; exact (fsub_zz p).symm
theorem fred_fadd (p a b : Nat) : fred p (fadd p a b) = fadd p a b := by unfold fred fadd; split <;> simp
theorem fred_fmul (p a b : Nat) : fred p (fmul p a b) = fmul p a b := by unfold fred fmul; split <;> simp
theorem fred_fred (p a : Nat) : fred p (fred p a) = fred p a := by unfold fred; split <;> simp
theorem radd_getD (p : Nat) (a b : List Nat) (t : Nat) : (radd p a b).getD t 0 = fadd p (a.getD t 0) (b.getD t 0) := by
  unfold radd; rw [trimP_getD, addL_getD, fred_fadd]
theorem rscale_getD (p : Nat) (a : List Nat) (n t : Nat) : (rscale p a n).getD t 0 = fmul p (a.getD t 0) n := by
  unfold rscale; rw [trimP_getD, map_getD (fun x => fmul p x n) (fmul_z p n), fred_fmul]
theorem trimP_trim (p : Nat) (l : List Nat) : trimZ (trimP p l) = trimP p l := trimZ_idem _
/-- Equal residues, both reduced. -/
theorem red_eq {p a b : Nat} [NeZero p] (ha : a < p) (hb : b < p) (h : F p a = F p b) : a = b := F_inj ha hb h
theorem fadd_lt {p a b : Nat} (h : vld p = true) : fadd p a b < p := by unfold fadd; rw [if_pos h]; exact lt_of_mod h
theorem fmul_lt {p a b : Nat} (h : vld p = true) : fmul p a b < p := by unfold fmul; rw [if_pos h]; exact lt_of_mod h
theorem fneg_lt {p a : Nat} (h : vld p = true) : fneg p a < p := by unfold fneg; rw [if_pos h]; exact lt_of_mod h
theorem fred_lt {p a : Nat} (h : vld p = true) : fred p a < p := by unfold fred; rw [if_pos h]; exact lt_of_mod h
theorem fsub_lt {p a b : Nat} (h : vld p = true) : fsub p a b < p := fadd_lt h
theorem fsub_mul (p x y : Nat) : fadd p x (fmul p y (fneg p 1)) = fsub p x y := by
  cases h : vld p
  · simp [fadd, fsub, h]
  · haveI := nz_vld h
    apply F_inj (p := p) (fadd_lt h) (fsub_lt h)
    rw [F_fadd h, F_fmul h, F_fneg h, F_fsub h, F_one]; grind
/-! ### PolySums -/
theorem add_same (p : Nat) (a b : List Nat) : trimZ (addL p a b) = radd p a b := by
  refine trimmed_ext (m := radd p a b) (trimZ_idem _) (trimP_trim _ _) fun t => ?_
  rw [trimZ_getD, addL_getD, radd_getD]
theorem sub_same (p : Nat) (a b : List Nat) : trimZ (subL p a b) = rsub p a b := by
  refine trimmed_ext (m := rsub p a b) (trimZ_idem _) (trimP_trim _ _) fun t => ?_
  rw [trimZ_getD, subL_getD]
  unfold rsub; rw [radd_getD, rscale_getD, fsub_mul]
theorem scale_same (p : Nat) (a : List Nat) (n : Nat) : trimZ (a.map fun x => fmul p x n) = rscale p a n := by
  refine trimmed_ext (m := rscale p a n) (trimZ_idem _) (trimP_trim _ _) fun t => ?_
  rw [trimZ_getD, map_getD (fun x => fmul p x n) (fmul_z p n), rscale_getD]
end Go.Proofs.Ytgnngifnoaagjaa.Q
