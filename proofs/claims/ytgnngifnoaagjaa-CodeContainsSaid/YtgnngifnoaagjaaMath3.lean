/- Division of lists: what both divisions return; Euclid's algorithm. -/
import Derived.Test.YtgnngifnoaagjaaMath2
set_option linter.unusedSectionVars false
namespace Go.Proofs.Ytgnngifnoaagjaa.Q
open Go.Proofs.Ytgnngifnoaagjaa
/-- The normal form. -/
def Nf (p : Nat) (l : List Nat) : Prop := trimZ l = l ∧ ∀ t, l.getD t 0 < p
theorem Nf.trim {p : Nat} (hv : vld p = true) (l : List Nat) : Nf p (trimP p l) := ⟨trimP_trim _ _, trimP_red hv l⟩
theorem Nf.id {p : Nat} {l : List Nat} (hv : vld p = true) (h : Nf p l) : trimP p l = l := trimP_red_id hv h.1 h.2
theorem Nf.nil {p : Nat} (hv : vld p = true) : Nf p [] := ⟨rfl, fun t => by have := vld_bd hv; simp; omega⟩
theorem Nf.mul {p : Nat} (hv : vld p = true) (a b : List Nat) : Nf p (rmul p a b) := ⟨rmul_trim _ _ _, rmul_lt hv _ _⟩
theorem Nf.add {p : Nat} (hv : vld p = true) (a b : List Nat) : Nf p (radd p a b) := ⟨trimP_trim _ _, radd_lt' hv _ _⟩
theorem Nf.sub {p : Nat} (hv : vld p = true) (a b : List Nat) : Nf p (rsub p a b) := Nf.add hv _ _
theorem Nf.scale {p : Nat} (hv : vld p = true) (a : List Nat) (n : Nat) : Nf p (rscale p a n) := ⟨trimP_trim _ _, trimP_red hv _⟩
section
variable {p : Nat} [NeZero p]
theorem Nf.ext {l m : List Nat} (h : Nf p l) (k : Nf p m) (e : cf p l = cf p m) : l = m := trimmed_ext h.1 k.1 fun t => F_inj (h.2 t) (k.2 t) (congrFun e t)
theorem Nf.len {l : List Nat} (hv : vld p = true) (h : Nf p l) {n : Nat} (d : DegLt (cf p l) n) : l.length ≤ n := DegLt.cf_len hv h.1 h.2 d
theorem Nf.lead {l : List Nat} (h : Nf p l) (hl : 0 < l.length) : cf p l (l.length - 1) ≠ 0 := red_ne (h.2 _) (trimZ_last h.1 hl)
theorem cf_tab (n : Nat) (R : Nat → Nat) : cf p (tab n R) = Fs (fun t => if t < n then R t else 0) := by
  apply S.ext; intro t; simp only [cf, Fs, tab_getD]
theorem cf_tab_deg (n : Nat) (R : Nat → Nat) (h : DegLt (Fs (p := p) R) n) : cf p (tab n R) = Fs R := by
  rw [cf_tab]; apply S.ext; intro t; simp only [Fs]
  by_cases ht : t < n
  · rw [if_pos ht]
  · rw [if_neg ht, F_zero]; exact (h t (by omega)).symm
theorem cf_rsub (hv : vld p = true) (a b : List Nat) : cf p (rsub p a b) = subS (cf p a) (cf p b) := by
  rw [← sub_same, cf_trimZ]; apply S.ext; intro t; simp only [cf, subS]; rw [subL_getD, F_fsub hv]
theorem cf_mono (c n : Nat) : cf p (shift [c] n) = mono (F p c) n := by
  rw [cf_shift]; apply S.ext; intro t; simp only [shN, cf, mono]
  by_cases h : n ≤ t
  · rw [if_pos h]
    by_cases h2 : t = n
    · subst h2; simp
    · rw [if_neg h2]
      obtain ⟨u, hu⟩ : ∃ u, t - n = u + 1 := ⟨t - n - 1, by omega⟩
      rw [hu]; simp [F_zero]
  · rw [if_neg h, if_neg (by omega)]
end
/-- A = q B + r. -/
def DvI (p : Nat) (A B q r : List Nat) : Prop := Nf p q ∧ Nf p r ∧ q.length ≤ A.length ∧ r.length ≤ A.length ∧ ∀ [NeZero p], addS (mulS (cf p q) (cf p B)) (cf p r) = cf p A
theorem DvI.start {p : Nat} (hv : vld p = true) {A : List Nat} (B : List Nat) (hA : Nf p A) : DvI p A B [] A := by
  refine ⟨Nf.nil hv, hA, Nat.zero_le _, Nat.le_refl _, ?_⟩
  intro; rw [cf_nil, mulS_zeroS]; apply S.ext; intro t; simp only [addS, zeroS]; grind
theorem dR_lt {p : Nat} (hv : vld p = true) (a b : List Nat) (n inv : Nat) (ha : ∀ t, a.getD t 0 < p) : ∀ c t, dR p a b n inv c t < p
  | 0, t => ha t
  | c + 1, t => by
    rw [dR]
    split
    · exact dR_lt hv a b n inv ha c t
    · unfold drow; split
      · exact fsub_lt hv
      · exact dR_lt hv a b n inv ha c t
theorem quo_spec {p : Nat} (hv : vld p = true) (a b : List Nat) (hb : 0 < (trimP p b).length) :
    DvI p (trimP p a) (trimP p b) (pquo p a b) (prem p a b) ∧ (prem p a b).length < (trimP p b).length := by
  haveI := nz_vld hv
  have hA := Nf.trim hv a
  have hB := Nf.trim hv b
  by_cases h : (trimP p a).length < (trimP p b).length
  · unfold pquo prem; rw [if_pos h, if_pos h]
    exact ⟨DvI.start hv _ hA, h⟩
  · have hn : dvN p a b + (trimP p b).length = (trimP p a).length + 1 := by unfold dvN; omega
    have D := dinv hv (trimP p a) (trimP p b) (dvN p a b) hb hn (hB.lead hb) (dvN p a b) 0 (by omega)
    obtain ⟨d1, d2⟩ := D
    have e1 : finv p ((trimP p b).getD ((trimP p b).length - 1) 0) = dvI p b := rfl
    rw [e1] at d1 d2
    have q1 : pquo p a b = trimZ (tab (dvN p a b) (dQ p (trimP p a) (trimP p b) (dvN p a b) (dvI p b) 0)) := by unfold pquo; rw [if_neg h]
    have r1 : prem p a b = trimZ (tab (trimP p a).length (dR p (trimP p a) (trimP p b) (dvN p a b) (dvI p b) (dvN p a b))) := by unfold prem; rw [if_neg h]
    have hp := vld_bd hv
    have nq : Nf p (pquo p a b) := by
      rw [q1]; refine ⟨trimZ_idem _, fun t => ?_⟩
      rw [trimZ_getD, tab_getD]; split
      · unfold dQ; split
        · unfold dfac; exact fmul_lt hv
        · omega
      · omega
    have nr : Nf p (prem p a b) := by
      rw [r1]; refine ⟨trimZ_idem _, fun t => ?_⟩
      rw [trimZ_getD, tab_getD]; split
      · exact dR_lt hv _ _ _ _ hA.2 _ _
      · omega
    have cq : cf p (pquo p a b) = Fs (fun t => if t < dvN p a b then dQ p (trimP p a) (trimP p b) (dvN p a b) (dvI p b) 0 t else 0) := by rw [q1, cf_trimZ, cf_tab]
    have cr : cf p (prem p a b) = Fs (dR p (trimP p a) (trimP p b) (dvN p a b) (dvI p b) (dvN p a b)) := by
      rw [r1, cf_trimZ, cf_tab_deg _ _ (d2.mono (by omega))]
    have hr : (prem p a b).length ≤ 0 + (trimP p b).length - 1 := nr.len hv (by rw [cr]; exact d2)
    refine ⟨⟨nq, nr, ?_, by omega, ?_⟩, by omega⟩
    · rw [q1]; refine Nat.le_trans (trimZ_le _) ?_; rw [tab_len]; omega
    · intro; rw [cq, cr]; exact d1
theorem DvI.unique {p : Nat} (hv : vld p = true) {A B q r q' r' : List Nat} (hB : Nf p B) (hb : 0 < B.length) (h : DvI p A B q r) (h' : DvI p A B q' r') (hr : r.length < B.length) (hr' : r'.length < B.length) : q = q' ∧ r = r' := by
  haveI := nz_vld hv
  obtain ⟨a1, a2, a3, a4, a5⟩ := h
  obtain ⟨b1, b2, b3, b4, b5⟩ := h'
  have U := div_unique hv (b := cf p B) (q := cf p q) (r := cf p r) (q' := cf p q') (r' := cf p r') (m := B.length - 1) (n := A.length)
    ((cf_deg B).mono (by omega)) (hB.lead hb) ((cf_deg q).mono a3) ((cf_deg q').mono b3) ((cf_deg r).mono (by omega)) ((cf_deg r').mono (by omega)) (a5.trans b5.symm)
  exact ⟨a1.ext b1 U.1, a2.ext b2 U.2⟩
theorem DvI.step {p : Nat} (hv : vld p = true) {A B q r : List Nat} (hB : Nf p B) (hb : 0 < B.length) (h : DvI p A B q r) (hr : B.length ≤ r.length) (T : List Nat)
    (hT : T = shift [fmul p (r.getD (r.length - 1) 0) (finv p (B.getD (B.length - 1) 0))] (r.length - B.length)) :
    DvI p A B (radd p q T) (rsub p r (rmul p T B)) ∧ (rsub p r (rmul p T B)).length < r.length := by
  haveI := nz_vld hv
  obtain ⟨a1, a2, a3, a4, a5⟩ := h
  have hTl : T.length = r.length - B.length + 1 := by rw [hT]; simp [shift]
  have cT : cf p T = mono (F p (fmul p (r.getD (r.length - 1) 0) (finv p (B.getD (B.length - 1) 0)))) (r.length - B.length) := by rw [hT, cf_mono]
  have cr : cf p (rsub p r (rmul p T B)) = subS (cf p r) (mulS (cf p T) (cf p B)) := by rw [cf_rsub hv, cf_rmul hv]
  have hd : DegLt (cf p (rsub p r (rmul p T B))) (r.length - 1) := by
    intro t ht
    rw [cr, cT, mulS_mono]
    simp only [subS, smul, shN]
    rw [if_pos (by omega)]
    rcases Nat.lt_or_ge t r.length with h1 | h1
    · obtain rfl : t = r.length - 1 := by omega
      have e : r.length - 1 - (r.length - B.length) = B.length - 1 := by omega
      rw [e, F_fmul hv]
      have hi := F_finv hv (a := B.getD (B.length - 1) 0) (hB.lead hb)
      simp only [cf]; grind
    · rw [cf_deg r t h1, cf_deg B _ (by omega)]; grind
  have hl := (Nf.sub hv r (rmul p T B)).len hv hd
  refine ⟨⟨Nf.add hv _ _, Nf.sub hv _ _, ?_, by omega, ?_⟩, by omega⟩
  · refine Nat.le_trans (radd_le _ _ _) ?_; omega
  · intro; rw [cr, cf_radd hv, mulS_add_l, ← a5]; apply S.ext; intro t; simp only [addS, subS]; grind
theorem DvI.same {p : Nat} (hv : vld p = true) {a b q r : List Nat} (hb : 0 < (trimP p b).length) (h : DvI p (trimP p a) (trimP p b) q r) (hr : r.length < (trimP p b).length) : q = pquo p a b ∧ r = prem p a b := by
  obtain ⟨k, k2⟩ := quo_spec hv a b hb
  exact DvI.unique hv (Nf.trim hv b) hb h k hr k2
/-- The law's last part. -/
theorem div_back {p : Nat} (hv : vld p = true) (a b : List Nat) (hb : 0 < (trimP p b).length) : radd p (rmul p (pquo p a b) b) (prem p a b) = trimP p a := by
  haveI := nz_vld hv
  obtain ⟨⟨_, _, _, _, k⟩, _⟩ := quo_spec hv a b hb
  refine (Nf.add hv _ _).ext (Nf.trim hv a) ?_
  rw [cf_radd hv, cf_rmul hv, ← k, cf_trimP hv b]

/-! ### Euclid -/
def eg (p : Nat) : Nat → List Nat → List Nat → List Nat
  | 0, a, _ => a
  | k + 1, a, b => if b.length = 0 then a else eg p k b (prem p a b)
def pgcd (p : Nat) (a b : List Nat) : List Nat := eg p (trimP p b).length (trimP p a) (trimP p b)
def monic (p : Nat) (g : List Nat) : List Nat := if g.length = 0 then [] else rscale p g (finv p (g.getD (g.length - 1) 0))
theorem eg_nil (p : Nat) (k : Nat) (a : List Nat) : eg p k a [] = a := by cases k <;> simp [eg]
theorem prem_lt {p : Nat} (hv : vld p = true) {b : List Nat} (hB : Nf p b) (a : List Nat) (h0 : b.length ≠ 0) : (prem p a b).length < b.length := by
  have := (quo_spec hv a b (by rw [hB.id hv]; omega)).2
  rwa [hB.id hv] at this
theorem prem_nf {p : Nat} (hv : vld p = true) {b : List Nat} (hB : Nf p b) (a : List Nat) (h0 : b.length ≠ 0) : Nf p (prem p a b) :=
  (quo_spec hv a b (by rw [hB.id hv]; omega)).1.2.1
theorem eg_zero {p : Nat} (hv : vld p = true) : ∀ k (a b : List Nat), Nf p b → b.length ≤ k → eg p k a b = [] → a = [] ∧ b = []
  | 0, a, b, _, hk, h => ⟨h, List.eq_nil_of_length_eq_zero (by omega)⟩
  | k + 1, a, b, hB, hk, h => by
    rw [eg] at h
    split at h
    · rename_i h0; exact ⟨h, List.eq_nil_of_length_eq_zero h0⟩
    · rename_i h0
      have h1 := prem_lt hv hB a h0
      have := eg_zero hv k b (prem p a b) (prem_nf hv hB a h0) (by omega) h
      exact absurd (by rw [this.1]; rfl) h0
theorem eg_nf {p : Nat} (hv : vld p = true) : ∀ k (a b : List Nat), Nf p a → Nf p b → Nf p (eg p k a b)
  | 0, _, _, h, _ => h
  | k + 1, a, b, hA, hB => by
    rw [eg]; split
    · exact hA
    · rename_i h0; exact eg_nf hv k b _ hB (prem_nf hv hB a h0)
section
variable {p : Nat} [NeZero p]
def Dv (f g : S p) : Prop := ∃ s n, DegLt s n ∧ g = mulS s f
theorem Dv.refl (f : S p) : Dv f f := ⟨C 1, 1, C_deg 1, by rw [mulS_C]; apply S.ext; intro t; simp only [smul]; grind⟩
theorem Dv.zero (f : S p) : Dv f zeroS := ⟨zeroS, 0, fun _ _ => rfl, (mulS_zeroS f).symm⟩
theorem Dv.add {f g h : S p} (a : Dv f g) (b : Dv f h) : Dv f (addS g h) := by
  obtain ⟨s, n, hs, rfl⟩ := a
  obtain ⟨t, m, ht, rfl⟩ := b
  exact ⟨addS s t, max n m, (hs.mono (by omega)).add (ht.mono (by omega)), (mulS_add_l _ _ _).symm⟩
theorem Dv.sub {f g h : S p} (a : Dv f g) (b : Dv f h) : Dv f (subS g h) := by
  obtain ⟨s, n, hs, rfl⟩ := a
  obtain ⟨t, m, ht, rfl⟩ := b
  exact ⟨subS s t, max n m, (hs.mono (by omega)).sub (ht.mono (by omega)), (mulS_sub_l _ _ _).symm⟩
theorem Dv.mul {f g : S p} (a : Dv f g) {q : S p} {m : Nat} (hq : DegLt q m) : Dv f (mulS q g) := by
  obtain ⟨s, n, hs, rfl⟩ := a
  exact ⟨mulS q s, m + n, fun t ht => hq.mul hs t (by omega), (mulS_assoc _ _ _).symm⟩
theorem Dv.scale {f g : S p} (a : Dv f g) (c : Fin p) : Dv f (smul c g) := by
  rw [← mulS_C]; exact a.mul (C_deg c)
theorem Dv.unscale {f g : S p} (a : Dv f g) {c d : Fin p} (h : d * c = 1) : Dv (smul c f) g := by
  obtain ⟨s, n, hs, rfl⟩ := a
  refine ⟨smul d s, n, hs.smul d, ?_⟩
  rw [mulS_smul_l, mulS_smul_r]; apply S.ext; intro t; simp only [smul]
  have : ∀ z : Fin p, d * (c * z) = z := fun z => by grind
  rw [this]
theorem rem_nil (hv : vld p = true) {a b : List Nat} (hb : 0 < (trimP p b).length) (h : Dv (cf p b) (cf p a)) : prem p a b = [] := by
  obtain ⟨s, n, hs, e⟩ := h
  obtain ⟨⟨k1, k2, k3, k4, k5⟩, k6⟩ := quo_spec hv a b hb
  have hB := Nf.trim hv b
  have U := div_unique hv (b := cf p (trimP p b)) (q := cf p (pquo p a b)) (r := cf p (prem p a b)) (q' := s) (r' := zeroS) (m := (trimP p b).length - 1) (n := max n (pquo p a b).length)
    ((cf_deg _).mono (by omega)) (hB.lead hb) ((cf_deg _).mono (by omega)) (hs.mono (by omega)) ((cf_deg _).mono (by omega)) (fun _ _ => rfl)
    (by rw [k5, cf_trimP hv, cf_trimP hv, e]; apply S.ext; intro t; simp only [addS, zeroS]; grind)
  exact k2.ext (Nf.nil hv) (by rw [U.2, cf_nil])
theorem eg_dvd (hv : vld p = true) : ∀ k (a b : List Nat), Nf p b → b.length ≤ k → Dv (cf p (eg p k a b)) (cf p a) ∧ Dv (cf p (eg p k a b)) (cf p b)
  | 0, a, b, _, hk => by
    obtain rfl : b = [] := List.eq_nil_of_length_eq_zero (by omega)
    exact ⟨Dv.refl _, by rw [cf_nil]; exact Dv.zero _⟩
  | k + 1, a, b, hB, hk => by
    rw [eg]; split
    · rename_i h0
      obtain rfl : b = [] := List.eq_nil_of_length_eq_zero h0
      exact ⟨Dv.refl _, by rw [cf_nil]; exact Dv.zero _⟩
    · rename_i h0
      have h1 := prem_lt hv hB a h0
      obtain ⟨i1, i2⟩ := eg_dvd hv k b (prem p a b) (prem_nf hv hB a h0) (by omega)
      obtain ⟨⟨_, _, _, _, k5⟩, _⟩ := quo_spec hv a b (by rw [hB.id hv]; omega)
      refine ⟨?_, i1⟩
      rw [← cf_trimP hv a, ← k5, hB.id hv]
      exact (i1.mul (cf_deg _)).add i2
theorem eg_com (hv : vld p = true) (c : S p) : ∀ k (a b : List Nat), Nf p b → Dv c (cf p a) → Dv c (cf p b) → Dv c (cf p (eg p k a b))
  | 0, a, b, _, h, _ => h
  | k + 1, a, b, hB, h, h' => by
    rw [eg]; split
    · exact h
    · rename_i h0
      refine eg_com hv c k b (prem p a b) (prem_nf hv hB a h0) h' ?_
      obtain ⟨⟨_, _, _, _, k5⟩, _⟩ := quo_spec hv a b (by rw [hB.id hv]; omega)
      have k5 := @k5 inferInstance
      rw [hB.id hv, cf_trimP hv] at k5
      have : cf p (prem p a b) = subS (cf p a) (mulS (cf p (pquo p a b)) (cf p b)) := by
        rw [← k5]; apply S.ext; intro t; simp only [addS, subS]; grind
      rw [this]
      exact h.sub (h'.mul (cf_deg _))
end
theorem pgcd_nf {p : Nat} (hv : vld p = true) (a b : List Nat) : Nf p (pgcd p a b) := eg_nf hv _ _ _ (Nf.trim hv a) (Nf.trim hv b)
theorem monic_cf {p : Nat} [NeZero p] (hv : vld p = true) {g : List Nat} (hg : g.length ≠ 0) : cf p (monic p g) = smul (F p (finv p (g.getD (g.length - 1) 0))) (cf p g) := by
  unfold monic; rw [if_neg hg, cf_rscale hv]
theorem F_one_ne {p : Nat} [NeZero p] (hv : vld p = true) : (1 : Fin p) ≠ 0 := by
  rw [← F_one]
  have hp := vld_bd hv
  exact red_ne (by omega) (by omega)
theorem monic_nil {p : Nat} (hv : vld p = true) {g : List Nat} (hN : Nf p g) (h : monic p g = []) : g = [] := by
  haveI := nz_vld hv
  by_cases hg : g.length = 0
  · exact List.eq_nil_of_length_eq_zero hg
  · exfalso
    have e := congrFun (monic_cf hv hg) (g.length - 1)
    rw [h, cf_nil] at e
    have hi := F_finv hv (a := g.getD (g.length - 1) 0) (hN.lead (by omega))
    simp only [zeroS, smul, cf] at e
    exact F_one_ne (p := p) hv (by grind)
theorem gcd_inv {p : Nat} (hv : vld p = false) (a b : List Nat) : monic p (pgcd p a b) = [] := by
  unfold pgcd; rw [inv_zero hv, inv_zero hv]; rfl
theorem gcd_zero {p : Nat} (hv : vld p = true) {a b : List Nat} (h : monic p (pgcd p a b) = []) : trimP p a = [] ∧ trimP p b = [] :=
  eg_zero hv _ _ _ (Nf.trim hv b) (Nat.le_refl _) (monic_nil hv (pgcd_nf hv a b) h)
theorem monic_nf {p : Nat} (hv : vld p = true) (g : List Nat) : Nf p (monic p g) := by
  unfold monic; split
  · exact Nf.nil hv
  · exact Nf.scale hv _ _
theorem gcd_divides {p : Nat} (hv : vld p = true) {a b : List Nat} (h : (monic p (pgcd p a b)).length ≠ 0) : prem p a (monic p (pgcd p a b)) = [] ∧ prem p b (monic p (pgcd p a b)) = [] := by
  haveI := nz_vld hv
  have hg : (pgcd p a b).length ≠ 0 := by
    intro e; apply h; unfold monic; rw [if_pos e]; rfl
  have hM := monic_nf hv (pgcd p a b)
  have hl : 0 < (trimP p (monic p (pgcd p a b))).length := by rw [hM.id hv]; omega
  have hi := F_finv hv (a := (pgcd p a b).getD ((pgcd p a b).length - 1) 0) ((pgcd_nf hv a b).lead (by omega))
  obtain ⟨d1, d2⟩ := eg_dvd hv _ (trimP p a) (trimP p b) (Nf.trim hv b) (Nat.le_refl _)
  rw [cf_trimP hv] at d1
  rw [cf_trimP hv] at d2
  refine ⟨rem_nil hv hl ?_, rem_nil hv hl ?_⟩
  · rw [monic_cf hv hg]; exact d1.unscale hi
  · rw [monic_cf hv hg]; exact d2.unscale hi
theorem gcd_common {p : Nat} (hv : vld p = true) (l m c : List Nat) (hc : 0 < (trimP p c).length) (h : (monic p (pgcd p (rmul p l c) (rmul p m c))).length ≠ 0) : prem p (monic p (pgcd p (rmul p l c) (rmul p m c))) c = [] := by
  haveI := nz_vld hv
  have hg : (pgcd p (rmul p l c) (rmul p m c)).length ≠ 0 := by
    intro e; apply h; unfold monic; rw [if_pos e]; rfl
  refine rem_nil hv hc ?_
  rw [monic_cf hv hg]
  refine Dv.scale ?_ _
  refine eg_com hv (cf p c) _ _ _ (Nf.trim hv _) ?_ ?_
  · rw [cf_trimP hv, cf_rmul hv]; exact (Dv.refl _).mul (cf_deg _)
  · rw [cf_trimP hv, cf_rmul hv]; exact (Dv.refl _).mul (cf_deg _)
end Go.Proofs.Ytgnngifnoaagjaa.Q
