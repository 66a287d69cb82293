/- Cm5 Cm6 Cm7, merged. -/
import Derived.Test.YtgnngifnoaagjaaGD
/- Plain law: the decoder of package code finds the word of the code that is near. -/
namespace Go.Proofs.Ytgnngifnoaagjaa
namespace Q
section
variable {p : Nat} [NeZero p]
theorem deg_ex {f : S p} : ∀ {n : Nat}, DegLt f n → f = zeroS ∨ ∃ m, m < n ∧ DegLt f (m + 1) ∧ f m ≠ 0
  | 0, h => .inl (deg_zero h)
  | n + 1, h => by
    by_cases h0 : f n = 0
    · rcases deg_ex (n := n) (fun t ht => by
        by_cases e : t = n
        · subst e; exact h0
        · exact h t (by omega)) with q | ⟨m, q1, q2, q3⟩
      · exact .inl q
      · exact .inr ⟨m, by omega, q2, q3⟩
    · exact .inr ⟨n, by omega, h, h0⟩
theorem mul_zero (hv : vld p = true) {f g : S p} {m n : Nat} (hf : DegLt f m) (hg : DegLt g n) (h : mulS f g = zeroS) : f = zeroS ∨ g = zeroS := by
  rcases deg_ex hf with q | ⟨a, _, a2, a3⟩
  · exact .inl q
  rcases deg_ex hg with q | ⟨b, _, b2, b3⟩
  · exact .inr q
  have := mul_top a2 b2
  rw [h] at this
  rcases noZD hv this.symm with q | q
  · exact absurd q a3
  · exact absurd q b3
theorem F_fpow (hv : vld p = true) (a e : Nat) : F p (fpow p a e) = F p a ^ e := by unfold fpow; rw [if_pos hv, F_mod, F_pow]
theorem mul_deg_lt {f g : S p} {m n : Nat} (hf : DegLt f m) (hg : DegLt g n) : DegLt (mulS f g) (m + n - 1) := fun t ht => DegLt.mul hf hg t (by omega)
theorem mulS_sub_r (f g h : S p) : mulS f (subS g h) = subS (mulS f g) (mulS f h) := by
  rw [mulS_comm, mulS_sub_l, mulS_comm g, mulS_comm h]
theorem subS_zero {f g : S p} (h : subS f g = zeroS) : f = g := by
  apply S.ext; intro t
  have := congrFun h t
  simp only [subS, zeroS] at this
  grind
end
/-- What the decoder keeps: a is the old rest, b the rest, c the old factor, d the factor. -/
structure GI (p N M : Nat) (R a b c d : List Nat) : Prop where
  na : Nf p a
  nb : Nf p b
  nc : Nf p c
  nd : Nf p d
  lt : b.length < a.length
  len : d.length + a.length = N + 2
  cd : c.length < d.length
  big : M + 2 ≤ 2 * a.length
  ca : ∀ [NeZero p], ∃ s n, DegLt s n ∧ cf p a = addS (mulS (cf p c) (cf p R)) (mulS s (cf p (cvan p N)))
  cb : ∀ [NeZero p], ∃ s n, DegLt s n ∧ cf p b = addS (mulS (cf p d) (cf p R)) (mulS s (cf p (cvan p N)))
theorem GI.step {p N M : Nat} (hv : vld p = true) {R a b c d : List Nat} (h : GI p N M R a b c d) (hb : M + 2 ≤ 2 * b.length) :
    GI p N M R b (prem p a b) d (trimZ (subL p c (pmul p (pquo p a b) d))) := by
  haveI := nz_vld hv
  have tb : trimP p b = b := h.nb.id hv
  have ta : trimP p a = a := h.na.id hv
  have td : trimP p d = d := h.nd.id hv
  have hb0 : b.length ≠ 0 := by omega
  obtain ⟨⟨q1, q2, _, _, q5⟩, q6⟩ := quo_spec hv a b (by rw [tb]; omega)
  rw [tb] at q6
  rw [ta, tb] at q5
  obtain ⟨q, hq⟩ : ∃ q, q = pquo p a b := ⟨_, rfl⟩
  obtain ⟨r, hr⟩ : ∃ r, r = prem p a b := ⟨_, rfl⟩
  rw [← hq, ← hr] at q5
  rw [← hq] at q1
  rw [← hr] at q2 q6
  rw [← hq, ← hr]
  have q5 : addS (mulS (cf p q) (cf p b)) (cf p r) = cf p a := q5
  have hq0 : 0 < q.length := by
    rcases Nat.eq_zero_or_pos q.length with e | e
    · exfalso
      have e2 : q = [] := List.eq_nil_of_length_eq_zero e
      rw [e2, cf_nil, mulS_zeroS] at q5
      have : r = a := q2.ext h.na (by rw [← q5]; apply S.ext; intro t; simp only [addS, zeroS]; grind)
      have e3 : r.length = a.length := by rw [this]
      have := h.lt
      omega
    · exact e
  have tq : trimP p q = q := q1.id hv
  have dq : DegLt (cf p q) (q.length - 1 + 1) := (cf_deg q).mono (by omega)
  have db : DegLt (cf p b) (b.length - 1 + 1) := (cf_deg b).mono (by omega)
  have hql : q.length + b.length = a.length + 1 := by
    have top := mul_top dq db
    have hne : mulS (cf p q) (cf p b) (q.length - 1 + (b.length - 1)) ≠ 0 := by
      rw [top]; intro h0
      rcases noZD hv h0 with h1 | h1
      · exact q1.lead hq0 h1
      · exact h.nb.lead (by omega) h1
    have hr0 : cf p r (q.length - 1 + (b.length - 1)) = 0 := cf_deg r _ (by omega)
    have hat : cf p a (q.length - 1 + (b.length - 1)) ≠ 0 := by
      rw [← q5]; simp only [addS]; rw [hr0]; intro h0; apply hne; grind
    have h1 : q.length - 1 + (b.length - 1) < a.length := by
      rcases Nat.lt_or_ge (q.length - 1 + (b.length - 1)) a.length with g | g
      · exact g
      · exact absurd (cf_deg a _ g) hat
    have h2 : a.length ≤ q.length + b.length - 1 := h.na.len hv (by
      rw [← q5]
      exact (mul_deg_lt (cf_deg q) (cf_deg b)).add ((cf_deg r).mono (by omega)))
    omega
  have nm : Nf p (pmul p q d) := by rw [mul_same]; exact Nf.mul hv _ _
  have hml : (pmul p q d).length + 1 = q.length + d.length := by
    have := mul_deg hv q d (by rw [tq]; exact hq0) (by rw [td]; have := h.cd; omega)
    rw [nm.id hv, tq, td] at this; exact this
  have es : trimZ (subL p c (pmul p q d)) = rsub p c (pmul p q d) := sub_same _ _ _
  have ns : Nf p (rsub p c (pmul p q d)) := Nf.sub hv _ _
  have cs : cf p (rsub p c (pmul p q d)) = subS (cf p c) (mulS (cf p q) (cf p d)) := by rw [cf_rsub hv, mul_same, cf_rmul hv]
  have hlt := h.lt
  have hcd := h.cd
  have hsl : (rsub p c (pmul p q d)).length = (pmul p q d).length := by
    have h1 : cf p (rsub p c (pmul p q d)) ((pmul p q d).length - 1) ≠ 0 := by
      rw [cf_rsub hv]
      have h2 := nm.lead (by omega)
      have h3 : cf p c ((pmul p q d).length - 1) = 0 := cf_deg c _ (by omega)
      simp only [subS]; rw [h3]; intro h0; apply h2; grind
    apply Nat.le_antisymm
    · exact ns.len hv (by rw [cf_rsub hv]; exact ((cf_deg c).mono (by omega)).sub (cf_deg _))
    · rcases Nat.lt_or_ge (rsub p c (pmul p q d)).length (pmul p q d).length with g | g
      · exact absurd (cf_deg _ _ (by omega)) h1
      · exact g
  rw [es]
  refine ⟨h.nb, q2, h.nd, ns, q6, by have := h.len; omega, by omega, hb, h.cb, ?_⟩
  intro inst
  obtain ⟨s1, n1, d1, e1⟩ := h.ca
  obtain ⟨s2, n2, d2, e2⟩ := h.cb
  refine ⟨subS s1 (mulS (cf p q) s2), max n1 (q.length + n2 - 1), (d1.mono (by omega)).sub ((mul_deg_lt (cf_deg q) d2).mono (by omega)), ?_⟩
  have e3 : cf p r = subS (cf p a) (mulS (cf p q) (cf p b)) := by rw [← q5]; apply S.ext; intro t; simp only [addS, subS]; grind
  rw [e3, cs, e1, e2, mulS_add_r, mulS_sub_l, mulS_sub_l, mulS_assoc, mulS_assoc]
  apply S.ext; intro t; simp only [addS, subS]; grind
theorem GI.run {p N M : Nat} (hv : vld p = true) {R : List Nat} : ∀ (f : Nat) (a b c d : List Nat), GI p N M R a b c d → b.length ≤ f → ∃ a' c', GI p N M R a' (gao p M f a b c d).1 c' (gao p M f a b c d).2 ∧ ¬ M + 2 ≤ 2 * (gao p M f a b c d).1.length
  | 0, a, b, c, d, h, hf => ⟨a, c, h, by show ¬ M + 2 ≤ 2 * b.length; omega⟩
  | f + 1, a, b, c, d, h, hf => by
    by_cases hb : M + 2 ≤ 2 * b.length
    · have hs := h.step hv hb
      have e : gao p M (f + 1) a b c d = gao p M f b (prem p a b) d (trimZ (subL p c (pmul p (pquo p a b) d))) := by rw [gao, if_pos hb]
      rw [e]
      exact GI.run hv f _ _ _ _ hs (by have := hs.lt; omega)
    · rw [gao_stop hb]
      exact ⟨a, c, h, hb⟩
section
variable {p k : Nat} [NeZero p] (hv : vld p = true) (hd : (p - 1) % 2 ^ k = 0)
include hv hd
/-- The points of a code. -/
theorem van_pt {i : Nat} (s : Nat) (hs : 2 ^ k + 1 ≤ s) : ev s (cf p (cvan p (2 ^ k))) (F p (dmK p (gent p) (rootN p (2 ^ k)) i)) = 0 := by
  have hpos := Nat.two_pow_pos k
  have hw := root_Rt hv hd
  have dc : DegLt (cf p (cvan p (2 ^ k))) (2 ^ k + 1) := by have := cf_deg (p := p) (cvan p (2 ^ k)); rwa [cvan_len] at this
  rw [ev_more dc _ s hs, ev_sg]
  have e : ∀ t, t < 2 ^ k + 1 → cf p (cvan p (2 ^ k)) t * (F p (dmK p (gent p) (rootN p (2 ^ k)) i)) ^ t = (if t = 0 then - (F p (gent p)) ^ (2 ^ k) else 0) + (if t = 2 ^ k then (F p (dmK p (gent p) (rootN p (2 ^ k)) i)) ^ (2 ^ k) else 0) := by
    intro t ht
    have hg : cf p (cvan p (2 ^ k)) t = if t = 2 ^ k then 1 else if t = 0 then - (F p (gent p)) ^ (2 ^ k) else 0 := by
      unfold cf cvan
      rw [List.getD_eq_getElem?_getD, List.getElem?_set]
      by_cases h1 : t = 2 ^ k
      · subst h1; rw [if_pos rfl, if_pos rfl]; simp [F_one]
      · rw [if_neg (fun q => h1 q.symm), if_neg h1, List.getElem?_set]
        by_cases h2 : t = 0
        · subst h2
          rw [if_pos rfl, if_pos rfl]
          simp [F_fneg hv, F_fpow hv]
        · rw [if_neg (fun q => h2 q.symm), if_neg h2]
          simp [List.getElem?_replicate]
          split <;> simp [F_zero]
    rw [hg]
    by_cases h1 : t = 2 ^ k
    · subst h1; rw [if_pos rfl, if_pos rfl, if_neg (by omega)]; grind
    · rw [if_neg h1, if_neg h1]
      by_cases h2 : t = 0
      · subst h2; rw [if_pos rfl]; grind
      · rw [if_neg h2]; grind
  rw [sg_congr _ e, sg_add, sg_one _ 0 _ (by omega) (fun i _ hi => by rw [if_neg hi]), sg_one _ (2 ^ k) _ (by omega) (fun i _ hi => by rw [if_neg hi]), if_pos rfl, if_pos rfl, F_dmK hv, mul_pow', hw.pow_one]
  grind
theorem poly_pt (l : List Nat) (hl : l.length = 2 ^ k) {i : Nat} (hi : i < 2 ^ k) : DegLt (cf p (cpoly p (2 ^ k) l)) (2 ^ k) ∧ ev (2 ^ k) (cf p (cpoly p (2 ^ k) l)) (F p (dmK p (gent p) (rootN p (2 ^ k)) i)) = F p (l.getD i 0) := by
  have hcf : cf p (cpoly p (2 ^ k) l) = cf p (rintl p l (gent p) (rootN p (2 ^ k)) (2 ^ k)) := cf_trimP hv _
  have hrl : (rintl p l (gent p) (rootN p (2 ^ k)) (2 ^ k)).length = 2 ^ k := by unfold rintl; rw [tab_len]
  refine ⟨by rw [hcf]; have := cf_deg (p := p) (rintl p l (gent p) (rootN p (2 ^ k)) (2 ^ k)); rw [hrl] at this; exact this, ?_⟩
  have h1 := int_value hv hd l hl (gent p) (by rw [gent_mod hv]; have := (gent_bd hv).1; omega) i hi
  have h2 := congrArg (F p) h1
  rw [F_horner hv, hrl, F_fred hv, gent_mod hv] at h2
  rw [hcf]; exact h2
theorem all_roots {f : S p} (hf : DegLt f (2 ^ k)) (h : ∀ i, i < 2 ^ k → ev (2 ^ k) f (F p (dmK p (gent p) (rootN p (2 ^ k)) i)) = 0) : f = zeroS := by
  refine roots hv (tab (2 ^ k) (dmK p (gent p) (rootN p (2 ^ k)))) f (by rw [tab_len]; exact hf) (fun y hy => ?_) ?_
  · unfold tab at hy
    obtain ⟨i, hi, rfl⟩ := List.mem_map.1 hy
    rw [tab_len]; exact h i (List.mem_range.1 hi)
  · unfold tab
    rw [List.pairwise_map]
    exact List.Pairwise.imp_of_mem (fun {a b} _ hb hab => pts_ne hv hd hab (List.mem_range.1 hb)) List.pairwise_lt_range
end
end Q
/-- The positions at which two lists differ. -/
def dif (a b : List Nat) (n : Nat) : List Nat := (List.range n).filter (fun i => decide (a.getD i 0 ≠ b.getD i 0))
theorem od_dif (a b : List Nat) : ∀ n, n ≤ a.length → n ≤ b.length → od a b n = (dif a b n).length
  | 0, _, _ => by simp [dif, od]
  | n + 1, ha, hb => by
    have ih := od_dif a b n (by omega) (by omega)
    rw [od_in a b n (by omega) (by omega)]
    unfold dif at ih ⊢
    rw [List.range_succ, List.filter_append, List.length_append]
    by_cases h : a.getD n 0 = b.getD n 0
    · rw [if_pos h, List.filter_cons_of_neg (by simpa using h)]; simp at ih ⊢; omega
    · rw [if_neg h, List.filter_cons_of_pos (by simpa using h)]; simp at ih ⊢; omega
theorem cword_len (p N : Nat) (f : List Nat) : (cword p N f).length = N := by unfold cword reva; rw [tab_len]
theorem cvan_nf {p N : Nat} (hv : vld p = true) (hN : 0 < N) : Q.Nf p (cvan p N) := by
  have hp := vld_bd hv
  have hg : ∀ t, (cvan p N).getD t 0 = if t = N then 1 else if t = 0 then fneg p (fpow p (gent p) N) else 0 := fun t => by
    unfold cvan
    rw [List.getD_eq_getElem?_getD, List.getElem?_set]
    by_cases h1 : t = N
    · subst h1; rw [if_pos rfl, if_pos rfl]; simp
    · rw [if_neg (fun q => h1 q.symm), if_neg h1, List.getElem?_set]
      by_cases h2 : t = 0
      · subst h2; rw [if_pos rfl, if_pos rfl]; simp
      · rw [if_neg (fun q => h2 q.symm), if_neg h2]
        simp [List.getElem?_replicate]
        split <;> simp
  constructor
  · exact Q.trimZ_full (by rw [cvan_len, hg, if_pos (by omega)]; decide)
  · intro t; rw [hg]
    split
    · omega
    · split
      · exact Q.fneg_lt hv
      · omega
theorem gao_start {p k K : Nat} (hv : vld p = true) (l : List Nat) (_hl : l.length = 2 ^ k) (hK : K ≤ 2 ^ k) :
    Q.GI p (2 ^ k) (2 ^ k + K) (cpoly p (2 ^ k) l) (cvan p (2 ^ k)) (cpoly p (2 ^ k) l) [] [1] := by
  have hp := vld_bd hv
  have hpos := Nat.two_pow_pos k
  have h1 : (cpoly p (2 ^ k) l).length ≤ 2 ^ k := by
    unfold cpoly rintl
    refine Nat.le_trans (trimP_le _ _) ?_
    rw [tab_len]; exact Nat.le_refl _
  refine ⟨cvan_nf hv hpos, Q.Nf.trim hv _, Q.Nf.nil hv, ⟨by decide, fun t => ?_⟩, by rw [cvan_len]; omega, by rw [cvan_len]; simp; omega, by simp, by rw [cvan_len]; omega, ?_, ?_⟩
  · cases t with
    | zero => simp; omega
    | succ t => simp; omega
  · intro inst
    refine ⟨Q.C 1, 1, Q.C_deg 1, ?_⟩
    rw [Q.cf_nil, Q.mulS_zeroS, Q.mulS_one]
    apply Q.S.ext; intro t; simp only [Q.addS, Q.zeroS]; grind
  · intro inst
    refine ⟨Q.zeroS, 0, fun _ _ => rfl, ?_⟩
    have e : Q.cf p [1] = Q.C 1 := by
      apply Q.S.ext; intro t; unfold Q.cf Q.C
      cases t with
      | zero => simp [Q.F_one]
      | succ t => simp [Q.F_zero]
    rw [e, Q.mulS_one, Q.mulS_zeroS]
    apply Q.S.ext; intro t; simp only [Q.addS, Q.zeroS]; grind
/-- Whatever is near is found. -/
theorem near_found {p k K : Nat} (hv : vld p = true) (hd : (p - 1) % 2 ^ k = 0) (hK : K ≤ 2 ^ k) (l : List Nat) (hl : l.length = 2 ^ k) (e : Int) (he : 2 * e ≤ (2 ^ k : Nat) - (K : Int)) (f : List Nat) (hf : f.length ≤ K) (hn : (dist (cword p (2 ^ k) f) (l.map (fred p)) : Int) ≤ e) :
    nearM p (2 ^ k) K l e = some (cword p (2 ^ k) f) := by
  haveI := Q.nz_vld hv
  have hpos := Nat.two_pow_pos k
  obtain ⟨a, c, hG, hS⟩ := Q.GI.run hv (cpoly p (2 ^ k) l).length _ _ _ _ (gao_start (K := K) hv l hl hK) (Nat.le_refl _)
  have eE : gao p (2 ^ k + K) (cpoly p (2 ^ k) l).length (cvan p (2 ^ k)) (cpoly p (2 ^ k) l) [] [1] = gaoE p (2 ^ k) K l := rfl
  rw [eE] at hG hS
  obtain ⟨r, hr⟩ : ∃ r, r = (gaoE p (2 ^ k) K l).1 := ⟨_, rfl⟩
  obtain ⟨u, hu⟩ : ∃ u, u = (gaoE p (2 ^ k) K l).2 := ⟨_, rfl⟩
  rw [← hr, ← hu] at hG
  rw [← hr] at hS
  -- the wrong positions
  have hdl : dist (cword p (2 ^ k) f) (l.map (fred p)) = (dif (cword p (2 ^ k) f) (l.map (fred p)) (2 ^ k)).length := by
    unfold dist
    rw [cword_len, List.length_map, hl, Nat.max_self]
    exact od_dif _ _ _ (by rw [cword_len]; exact Nat.le_refl _) (by rw [List.length_map, hl]; exact Nat.le_refl _)
  obtain ⟨J, hJ⟩ : ∃ J, J = (dif (cword p (2 ^ k) f) (l.map (fred p)) (2 ^ k)).map (dmK p (gent p) (rootN p (2 ^ k))) := ⟨_, rfl⟩
  have hJl : J.length = dist (cword p (2 ^ k) f) (l.map (fred p)) := by rw [hJ, List.length_map, hdl]
  have hlen := hG.len
  have hbig := hG.big
  have hcd := hG.cd
  -- the difference is zero
  have hz : Q.mulS (Q.prodL J) (Q.subS (Q.cf p r) (Q.mulS (Q.cf p f) (Q.cf p u))) = Q.zeroS := by
    have dJ := Q.prodL_deg (p := p) J
    have dfu := Q.mul_deg_lt (Q.cf_deg (p := p) f) (Q.cf_deg (p := p) u)
    have dD : Q.DegLt (Q.mulS (Q.prodL J) (Q.subS (Q.cf p r) (Q.mulS (Q.cf p f) (Q.cf p u)))) (2 ^ k) := by
      rw [Q.mulS_sub_r]
      exact ((Q.mul_deg_lt dJ (Q.cf_deg r)).mono (by omega)).sub ((Q.mul_deg_lt dJ dfu).mono (by omega))
    refine Q.all_roots hv hd dD fun i hi => ?_
    obtain ⟨s, n, ds, es⟩ := hG.cb
    obtain ⟨dP, eP⟩ := Q.poly_pt hv hd l hl hi
    obtain ⟨x, hx⟩ : ∃ x, x = Q.F p (dmK p (gent p) (rootN p (2 ^ k)) i) := ⟨_, rfl⟩
    rw [← hx] at eP
    rw [← hx]
    -- at a point
    have drf : Q.DegLt (Q.subS (Q.cf p r) (Q.mulS (Q.cf p f) (Q.cf p u))) (r.length + (f.length + u.length)) := ((Q.cf_deg r).mono (by omega)).sub (dfu.mono (by omega))
    have e1 := Q.ev_mul dJ drf x (J.length + 1 + (r.length + (f.length + u.length)) + 2 ^ k) (by omega)
    rw [Q.ev_more dD x _ (by omega)] at e1
    rw [e1]
    by_cases hw : (cword p (2 ^ k) f).getD i 0 = (l.map (fred p)).getD i 0
    · have er : Q.ev (r.length + (f.length + u.length)) (Q.subS (Q.cf p r) (Q.mulS (Q.cf p f) (Q.cf p u))) x = 0 := by
        rw [Q.ev_sub, Q.ev_mul (Q.cf_deg f) (Q.cf_deg u) x _ (by omega), Q.ev_len r _ (by omega)]
        have e2 : Q.ev r.length (Q.cf p r) x = Q.ev u.length (Q.cf p u) x * Q.F p (l.getD i 0) := by
          rw [← Q.ev_len r (r.length + (u.length + 2 ^ k) + (n + (2 ^ k + 1))) (by omega), es, Q.ev_add, Q.ev_mul (Q.cf_deg u) dP x _ (by omega), eP]
          rw [Q.ev_mul (n := 2 ^ k + 1) ds (by have := Q.cf_deg (p := p) (cvan p (2 ^ k)); rwa [cvan_len] at this) x _ (by omega), hx, Q.van_pt hv hd _ (Nat.le_refl _)]
          grind
        have e3 : Q.ev f.length (Q.cf p f) x = Q.F p (l.getD i 0) := by
          have h3 := congrArg (Q.F p) hw
          unfold cword at h3
          rw [Q.F_reva hv _ _ _ _ _ hi, Q.map_getD _ (Q.fred_zero p), Q.F_fred hv] at h3
          rw [hx, Q.F_dmK hv]; exact h3
        rw [e2, e3]; grind
      rw [er]; grind
    · have ej : Q.ev (J.length + 1) (Q.prodL J) x = 0 := (Q.prodL_ev hv x J _ (Nat.le_refl _)).2 ⟨dmK p (gent p) (rootN p (2 ^ k)) i, by
        rw [hJ]; exact List.mem_map.2 ⟨i, List.mem_filter.2 ⟨List.mem_range.2 hi, decide_eq_true hw⟩, rfl⟩, hx⟩
      rw [ej]; grind
  have hJ0 : Q.prodL (p := p) J ≠ Q.zeroS := fun h0 => by
    have : ∀ J : List Nat, Q.prodL (p := p) J J.length = 1 := by
      intro J
      induction J with
      | nil => simp [Q.prodL, Q.C]
      | cons y J ih =>
        show Q.mulS (Q.lin (Q.F p y)) (Q.prodL J) (J.length + 1) = 1
        have := Q.mul_top (m := 1) (n := J.length) (Q.lin_deg (Q.F p y)) (Q.prodL_deg J)
        rw [Nat.add_comm 1] at this
        rw [this, ih, Q.lin_top]; grind
    have h1 := this J
    rw [h0] at h1
    exact Q.F_one_ne hv h1.symm
  have hru : Q.cf p r = Q.mulS (Q.cf p f) (Q.cf p u) := by
    rcases Q.mul_zero hv (Q.prodL_deg J) (((Q.cf_deg (p := p) r).mono (Nat.le_max_left r.length (f.length + u.length - 1))).sub ((Q.mul_deg_lt (Q.cf_deg f) (Q.cf_deg u)).mono (Nat.le_max_right _ _))) hz with q | q
    · exact absurd q hJ0
    · exact Q.subS_zero q
  have tu : trimP p u = u := hG.nd.id hv
  have hu0 : 0 < (trimP p u).length := by rw [tu]; omega
  have hrem : prem p r u = [] := Q.rem_nil hv hu0 ⟨Q.cf p f, f.length, Q.cf_deg f, hru⟩
  have hback := Q.div_back hv r u hu0
  have hquo : Q.cf p (pquo p r u) = Q.cf p f := by
    have h1 := congrArg (Q.cf p) hback
    rw [Q.cf_radd hv, Q.cf_rmul hv, hrem, Q.cf_nil, Q.cf_trimP hv, hru] at h1
    have h2 : Q.mulS (Q.subS (Q.cf p (pquo p r u)) (Q.cf p f)) (Q.cf p u) = Q.zeroS := by
      rw [Q.mulS_sub_l, ← h1]; apply Q.S.ext; intro t; simp only [Q.addS, Q.subS, Q.zeroS]; grind
    rcases Q.mul_zero hv (((Q.cf_deg (p := p) (pquo p r u)).mono (Nat.le_max_left _ f.length)).sub ((Q.cf_deg f).mono (Nat.le_max_right _ _))) (Q.cf_deg u) h2 with q | q
    · exact Q.subS_zero q
    · exact absurd (congrFun q _) (hG.nd.lead (by omega))
  have hql : (pquo p r u).length ≤ K := by
    obtain ⟨⟨n1, _⟩, _⟩ := Q.quo_spec hv r u hu0
    exact n1.len hv (by rw [hquo]; exact (Q.cf_deg f).mono hf)
  have hcw : cword p (2 ^ k) (pquo p r u) = cword p (2 ^ k) f := Q.same_word hv hquo _
  unfold nearM
  rw [← hr, ← hu, if_neg (by omega), if_neg (by rw [hrem]; simp; omega), hcw, if_neg (by omega)]
/-- Whatever is found is near. -/
theorem near_sound {p N K : Nat} {l x : List Nat} {e : Int} (h : nearM p N K l e = some x) : ∃ f : List Nat, f.length ≤ K ∧ x = cword p N f ∧ (dist x (l.map (fred p)) : Int) ≤ e := by
  unfold nearM at h
  split at h
  · cases h
  split at h
  · cases h
  rename_i h1
  split at h
  · cases h
  rename_i h2
  injection h with h
  exact ⟨_, by omega, h.symm, by rw [← h]; omega⟩
end Go.Proofs.Ytgnngifnoaagjaa

/- Plain law: a combination of words of a code is a word of the code. -/
namespace Go.Proofs.Ytgnngifnoaagjaa
theorem cpoly_word {p k : Nat} (hv : vld p = true) (hd : (p - 1) % 2 ^ k = 0) (f : List Nat) (hf : f.length ≤ 2 ^ k) : cpoly p (2 ^ k) (cword p (2 ^ k) f) = trimP p f := by
  haveI := Q.nz_vld hv
  refine (Q.Nf.trim hv _).ext (Q.Nf.trim hv _) ?_
  show Q.cf p (cpoly p (2 ^ k) (cword p (2 ^ k) f)) = _
  rw [Q.cf_trimP hv]
  refine Q.subS_zero (Q.all_roots hv hd ?_ fun i hi => ?_)
  · exact (Q.poly_pt hv hd _ (cword_len _ _ _) (i := 0) (Nat.two_pow_pos k)).1.sub ((Q.cf_deg f).mono hf)
  · rw [Q.ev_sub, (Q.poly_pt hv hd _ (cword_len _ _ _) hi).2, Q.ev_len f _ hf]
    unfold cword
    rw [Q.F_reva hv _ _ _ _ _ hi, Q.F_dmK hv]
    grind
/-- c times A plus d times B. -/
def comb (p : Nat) (A B : List Nat) (c d : Nat) : List Nat := radd p (rscale p A c) (rscale p B d)
theorem comb_len (p : Nat) (A B : List Nat) (c d : Nat) : (comb p A B c d).length ≤ max A.length B.length := by
  unfold comb
  have h1 := radd_le p (rscale p A c) (rscale p B d)
  have h2 := rscale_le p A c
  have h3 := rscale_le p B d
  omega
theorem comb_word {p : Nat} (hv : vld p = true) (N : Nat) (A B : List Nat) (c d : Nat) (i : Nat) (hi : i < N) :
    (cword p N (comb p A B c d)).getD i 0 = fadd p (fmul p ((cword p N A).getD i 0) c) (fmul p ((cword p N B).getD i 0) d) := by
  haveI := Q.nz_vld hv
  have lt : ∀ f : List Nat, (cword p N f).getD i 0 < p := fun f => by unfold cword reva; rw [tab_get _ _ _ hi]; exact Q.horner_lt hv _ _
  have val : ∀ f : List Nat, Q.F p ((cword p N f).getD i 0) = Q.ev (f.length + (A.length + B.length)) (Q.cf p f) (Q.F p (gent p) * Q.F p (rootN p N) ^ i) := fun f => by
    rw [Q.ev_len f _ (by omega)]
    exact Q.F_reva hv f _ _ _ _ hi
  apply Q.F_inj (p := p) (lt _) (Q.fadd_lt hv)
  have hc := comb_len p A B c d
  rw [Q.F_fadd hv, Q.F_fmul hv, Q.F_fmul hv, val A, val B, val (comb p A B c d)]
  have e : ∀ f : List Nat, f.length ≤ A.length + B.length → Q.ev (f.length + (A.length + B.length)) (Q.cf p f) (Q.F p (gent p) * Q.F p (rootN p N) ^ i) = Q.ev (A.length + B.length) (Q.cf p f) (Q.F p (gent p) * Q.F p (rootN p N) ^ i) := fun f hf => by rw [Q.ev_len f _ (by omega), Q.ev_len f _ hf]
  rw [e A (by omega), e B (by omega), e _ (by omega)]
  unfold comb
  rw [Q.cf_radd hv, Q.cf_rscale hv, Q.cf_rscale hv, Q.ev_add, Q.ev_smul, Q.ev_smul]
  grind
theorem fold_two {p : Nat} (hv : vld p = true) (x y : List Nat) (N : Nat) (hx : x.length = N) (hy : y.length = N) (c d : Nat) :
    cFold p [x, y] [c, d] = tab N (fun i => fadd p (fmul p (x.getD i 0) c) (fmul p (y.getD i 0) d)) := by
  unfold cFold
  rw [if_pos ⟨hv, by simp, by simp, by
    unfold allLen
    refine decide_eq_true fun i hi => ?_
    have : i = 0 ∨ i = 1 := by simp at hi; omega
    rcases this with rfl | rfl
    · rfl
    · simp [hx, hy]⟩]
  simp only [List.getD_cons_zero, hx]
  refine tab_congr fun i _ => ?_
  show fadd p (fadd p 0 (fmul p (([x, y].getD 0 []).getD i 0) ([c, d].getD 0 0))) (fmul p (([x, y].getD 1 []).getD i 0) ([c, d].getD 1 0)) = _
  simp only [List.getD_cons_zero, List.getD_cons_succ]
  congr 1
  unfold fadd
  rw [if_pos hv, Nat.zero_add]
  exact Nat.mod_eq_of_lt (Q.fmul_lt hv)
theorem fold_word {p : Nat} (hv : vld p = true) (N : Nat) (A B : List Nat) (c d : Nat) : cFold p [cword p N A, cword p N B] [c, d] = cword p N (comb p A B c d) := by
  rw [fold_two hv _ _ N (cword_len _ _ _) (cword_len _ _ _), list_tab (cword p N (comb p A B c d)), cword_len]
  exact tab_congr fun i hi => (comb_word hv N A B c d i hi).symm
theorem fold_con {p : Nat} {n k : Int} (hc : cval p n k = true) (A B : List Nat) (hA : (A.length : Int) ≤ k) (hB : (B.length : Int) ≤ k) (c d : Nat) :
    cCon p n k (cFold p [cword p n.toNat A, cword p n.toNat B] [c, d]) = true := by
  obtain ⟨hv, e, K, N, he, hN, rfl, rfl, hK1, hK2, hNp, hd, ho⟩ := cval_spec hc
  rw [Int.toNat_natCast, fold_word hv]
  unfold cCon
  rw [hc, Bool.true_and, Int.toNat_natCast, cword_len, decide_eq_true rfl, Bool.true_and, decide_eq_true_iff]
  subst hN
  have h1 := comb_len p A B c d
  rw [cpoly_word hv hd _ (by omega)]
  have := trimP_le p (comb p A B c d)
  omega
end Go.Proofs.Ytgnngifnoaagjaa

/- Plain law: trying all polynomials finds what the decoder finds. -/
namespace Go.Proofs.Ytgnngifnoaagjaa
/-- The K digits of a number. -/
def digs (p K t : Nat) : List Nat := tab K (fun j => t / p ^ j % p)
theorem digs_len (p K t : Nat) : (digs p K t).length = K := tab_len _ _
theorem digs_zero (p K : Nat) : digs p K 0 = List.replicate K 0 := by
  rw [tab_zero]; exact tab_congr fun j _ => by simp
/-- Adding one: the first i digits are the greatest, the next one is not. -/
theorem succ_low {p q i j : Nat} (hj : j < i) : (q + 1) * p ^ i / p ^ j % p = 0 := by
  rcases Nat.eq_zero_or_pos p with h | h
  · subst h
    obtain ⟨d, rfl⟩ : ∃ d, i = j + 1 + d := ⟨i - (j + 1), by omega⟩
    rw [show j + 1 + d = d + j + 1 from by omega]; simp
  obtain ⟨d, rfl⟩ : ∃ d, i = j + (d + 1) := ⟨i - (j + 1), by omega⟩
  rw [Nat.pow_add, show (q + 1) * (p ^ j * p ^ (d + 1)) = ((q + 1) * p ^ d * p) * p ^ j from by rw [Nat.pow_succ]; simp only [Nat.mul_assoc, Nat.mul_comm, Nat.mul_left_comm], Nat.mul_div_cancel _ (Nat.pow_pos h), Nat.mul_mod_left]
theorem succ_div {p q : Nat} (hp : 0 < p) (hq : q % p ≠ p - 1) : (q + 1) / p = q / p ∧ (q + 1) % p = q % p + 1 := by
  have h1 := Nat.div_add_mod q p
  have h2 := Nat.mod_lt q hp
  have h3 : q + 1 = (q % p + 1) + p * (q / p) := by omega
  constructor
  · rw [h3, Nat.add_mul_div_left _ _ hp, Nat.div_eq_of_lt (by omega), Nat.zero_add]
  · rw [h3, Nat.add_mul_mod_self_left, Nat.mod_eq_of_lt (by omega)]
theorem succ_dig {p t i : Nat} (hp : 0 < p) (h1 : t % p ^ i = p ^ i - 1) (h2 : t / p ^ i % p ≠ p - 1) (j : Nat) :
    (t + 1) / p ^ j % p = if j < i then 0 else if j = i then t / p ^ i % p + 1 else t / p ^ j % p := by
  have hpi : 0 < p ^ i := Nat.pow_pos hp
  have e : t + 1 = (t / p ^ i + 1) * p ^ i := by
    have := Nat.div_add_mod t (p ^ i)
    rw [Nat.add_mul, Nat.one_mul, Nat.mul_comm]
    omega
  obtain ⟨q, hq⟩ : ∃ q, q = t / p ^ i := ⟨_, rfl⟩
  rw [← hq] at e h2
  obtain ⟨s1, s2⟩ := succ_div hp h2
  by_cases hj : j < i
  · rw [if_pos hj, e]; exact succ_low hj
  · rw [if_neg hj]
    obtain ⟨d, rfl⟩ : ∃ d, j = i + d := ⟨j - i, by omega⟩
    have e2 : (t + 1) / p ^ (i + d) = (q + 1) / p ^ d := by rw [e, Nat.pow_add, ← Nat.div_div_eq_div_mul, Nat.mul_div_cancel _ hpi]
    have e3 : t / p ^ (i + d) = q / p ^ d := by rw [hq, Nat.pow_add, ← Nat.div_div_eq_div_mul]
    rw [e2]
    cases d with
    | zero => rw [if_pos (by omega), ← hq]; simpa using s2
    | succ d =>
      rw [if_neg (by omega), e3, Nat.pow_succ, Nat.mul_comm, ← Nat.div_div_eq_div_mul, ← Nat.div_div_eq_div_mul, s1]
theorem low_step {p t i : Nat} (hp : 0 < p) (h1 : t % p ^ i = p ^ i - 1) (h2 : t / p ^ i % p = p - 1) : t % p ^ (i + 1) = p ^ (i + 1) - 1 := by
  have hpi : 0 < p ^ i := Nat.pow_pos hp
  rw [Nat.pow_succ, Nat.mod_mul, h1, h2]
  obtain ⟨r, rfl⟩ : ∃ r, p = r + 1 := ⟨p - 1, by omega⟩
  rw [Nat.add_sub_cancel, Nat.mul_add]; omega
/-- Every polynomial with at most K coefficients, reduced, has a number. -/
theorem dig_ex {p : Nat} (hp : 0 < p) : ∀ (K : Nat) (f : Nat → Nat), ∃ t, t < p ^ K ∧ ∀ j, j < K → t / p ^ j % p = f j % p
  | 0, _ => ⟨0, by simp, fun j hj => absurd hj (by omega)⟩
  | K + 1, f => by
    obtain ⟨t, h1, h2⟩ := dig_ex hp K (fun j => f (j + 1))
    have h3 := Nat.mod_lt (f 0) hp
    refine ⟨f 0 % p + p * t, ?_, fun j hj => ?_⟩
    · rw [Nat.pow_succ, Nat.mul_comm (p ^ K) p]
      have : p * (t + 1) ≤ p * p ^ K := Nat.mul_le_mul_left p h1
      rw [Nat.mul_add] at this; omega
    · cases j with
      | zero => simp [Nat.add_mul_mod_self_left]
      | succ j =>
        rw [Nat.pow_succ, Nat.mul_comm (p ^ j) p, ← Nat.div_div_eq_div_mul, Nat.add_mul_div_left _ _ hp, Nat.div_eq_of_lt h3, Nat.zero_add]
        exact h2 j (by omega)
/-- The first word within e, from number t on; f numbers are left. -/
def rnK (p N K : Nat) (w : List Nat) (e : Int) : Nat → Nat → Option (List Nat)
  | 0, _ => none
  | f + 1, t => if (dist (cword p N (digs p K t)) w : Int) ≤ e then some (cword p N (digs p K t)) else rnK p N K w e f (t + 1)
def rNear (p N K : Nat) (l : List Nat) (e : Int) : Option (List Nat) := rnK p N K (l.map (fred p)) e (p ^ K) 0
theorem rnK_spec (p N K : Nat) (w : List Nat) (e : Int) : ∀ f t, (∃ s, t ≤ s ∧ s < t + f ∧ rnK p N K w e f t = some (cword p N (digs p K s)) ∧ (dist (cword p N (digs p K s)) w : Int) ≤ e) ∨ (rnK p N K w e f t = none ∧ ∀ s, t ≤ s → s < t + f → ¬ (dist (cword p N (digs p K s)) w : Int) ≤ e)
  | 0, t => .inr ⟨rfl, fun s h1 h2 => absurd h2 (by omega)⟩
  | f + 1, t => by
    by_cases h : (dist (cword p N (digs p K t)) w : Int) ≤ e
    · exact .inl ⟨t, Nat.le_refl _, by omega, by rw [rnK, if_pos h], h⟩
    · have e1 : rnK p N K w e (f + 1) t = rnK p N K w e f (t + 1) := by rw [rnK, if_neg h]
      rcases rnK_spec p N K w e f (t + 1) with ⟨s, a1, a2, a3, a4⟩ | ⟨a1, a2⟩
      · exact .inl ⟨s, by omega, by omega, by rw [e1]; exact a3, a4⟩
      · refine .inr ⟨by rw [e1]; exact a1, fun s b1 b2 => ?_⟩
        by_cases hs : s = t
        · subst hs; exact h
        · exact a2 s (by omega) (by omega)
theorem near_same2 {p k K : Nat} (hv : vld p = true) (hd : (p - 1) % 2 ^ k = 0) (hK : K ≤ 2 ^ k) (l : List Nat) (hl : l.length = 2 ^ k) (e : Int) (he : 2 * e ≤ (2 ^ k : Nat) - (K : Int)) : rNear p (2 ^ k) K l e = nearM p (2 ^ k) K l e := by
  haveI := Q.nz_vld hv
  have hp := vld_bd hv
  unfold rNear
  rcases rnK_spec p (2 ^ k) K (l.map (fred p)) e (p ^ K) 0 with ⟨s, _, _, h1, h2⟩ | ⟨h1, h2⟩
  · rw [h1, near_found hv hd hK l hl e he _ (by rw [digs_len]; exact Nat.le_refl _) h2]
  · rw [h1]
    cases hn : nearM p (2 ^ k) K l e with
    | none => rfl
    | some x =>
      exfalso
      obtain ⟨f, hf, rfl, hx⟩ := near_sound hn
      obtain ⟨t, ht, hdg⟩ := dig_ex (p := p) (by omega) K (fun j => f.getD j 0)
      have hw : cword p (2 ^ k) (digs p K t) = cword p (2 ^ k) f := Q.same_word hv (by
        apply Q.S.ext; intro j
        unfold Q.cf
        rw [Q.F_eq]
        unfold digs
        rw [tab_getD]
        by_cases hj : j < K
        · rw [if_pos hj, hdg j hj, Nat.mod_mod]
        · rw [if_neg hj, List.getD_eq_getElem?_getD, List.getElem?_eq_none (by omega)]; simp) _
      exact h2 t (Nat.zero_le _) (by omega) (by rw [hw]; exact hx)
end Go.Proofs.Ytgnngifnoaagjaa
