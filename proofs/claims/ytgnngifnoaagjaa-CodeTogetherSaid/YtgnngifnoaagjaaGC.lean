/- Cm1 Cm2, merged. -/
import Derived.Test.YtgnngifnoaagjaaCd5
/- Plain law: two words of a code are equal or far from each other. -/
namespace Go.Proofs.Ytgnngifnoaagjaa
namespace Q
variable {p : Nat} [NeZero p]
theorem gent_ne (hv : vld p = true) : F p (gent p) ≠ 0 := fun h => by
  rw [F_eq_zero, gent_mod hv] at h
  have := (gent_bd hv).1
  omega
theorem Rt.pow_ne (hv : vld p = true) {w : Fin p} {k : Nat} (h : Rt w k) (i : Nat) : w ^ i ≠ 0 := fun h0 => by
  have h1 := Rt.pow_one h i
  obtain ⟨m, hm⟩ : ∃ m, 2 ^ k = m + 1 := ⟨2 ^ k - 1, by have := Nat.two_pow_pos k; omega⟩
  rw [h0, hm, pow_add', pow_one'] at h1
  exact F_one_ne hv (by grind)
/-- The points of a code are different. -/
theorem pts_ne (hv : vld p = true) {k : Nat} (h : (p - 1) % 2 ^ k = 0) {i j : Nat} (hij : i < j) (hj : j < 2 ^ k) : F p (dmK p (gent p) (rootN p (2 ^ k)) i) ≠ F p (dmK p (gent p) (rootN p (2 ^ k)) j) := by
  have hw := root_Rt hv h
  rw [F_dmK hv, F_dmK hv]
  intro he
  obtain ⟨d, rfl⟩ : ∃ d, j = i + (d + 1) := ⟨j - i - 1, by omega⟩
  rw [pow_add'] at he
  have hz : F p (gent p) * (F p (rootN p (2 ^ k)) ^ i * (F p (rootN p (2 ^ k)) ^ (d + 1) - 1)) = 0 := by grind
  rcases noZD hv hz with h1 | h1
  · exact gent_ne hv h1
  · rcases noZD hv h1 with h2 | h2
    · exact hw.pow_ne hv i h2
    · exact Rt.ne hv hw (d + 1) (by omega) (by omega) (by grind)
/-- The positions at which two lists agree. -/
def agr (a b : List Nat) (n : Nat) : List Nat := (List.range n).filter (fun i => decide (a.getD i 0 = b.getD i 0))
omit [NeZero p] in
theorem od_agr (a b : List Nat) : ∀ n, n ≤ a.length → n ≤ b.length → od a b n + (agr a b n).length = n
  | 0, _, _ => by simp [agr, od]
  | n + 1, ha, hb => by
    have ih := od_agr a b n (by omega) (by omega)
    rw [od_in a b n (by omega) (by omega)]
    unfold agr at ih ⊢
    rw [List.range_succ, List.filter_append, List.length_append]
    by_cases h : a.getD n 0 = b.getD n 0
    · rw [if_pos h, List.filter_cons_of_pos (by simpa using h)]; simp at ih ⊢; omega
    · rw [if_neg h, List.filter_cons_of_neg (by simpa using h)]; simp at ih ⊢; omega
theorem ev_len (l : List Nat) (K : Nat) (h : l.length ≤ K) (x : Fin p) : ev K (cf p l) x = ev l.length (cf p l) x := ev_more (cf_deg l) x K h
theorem same_word (hv : vld p = true) {l m : List Nat} (h : cf p l = cf p m) (N : Nat) : cword p N l = cword p N m := by
  unfold cword reva
  refine tab_congr fun i _ => F_inj (horner_lt hv _ _) (horner_lt hv _ _) ?_
  rw [F_horner hv, F_horner hv, ← ev_len l (l.length + m.length) (by omega), ← ev_len m (l.length + m.length) (by omega), h]
/-- Polynomials with fewer than K + 1 coefficients whose words agree at K positions are the same. -/
theorem near_same (hv : vld p = true) {k K : Nat} (h : (p - 1) % 2 ^ k = 0) {l m : List Nat} (hl : l.length ≤ K) (hm : m.length ≤ K) (hd : dist (cword p (2 ^ k) l) (cword p (2 ^ k) m) + K ≤ 2 ^ k) : cf p l = cf p m := by
  have l1 : (cword p (2 ^ k) l).length = 2 ^ k := by unfold cword reva; rw [tab_len]
  have l2 : (cword p (2 ^ k) m).length = 2 ^ k := by unfold cword reva; rw [tab_len]
  have e1 := od_agr (cword p (2 ^ k) l) (cword p (2 ^ k) m) (2 ^ k) (by omega) (by omega)
  unfold dist at hd
  rw [l1, l2, Nat.max_self] at hd
  obtain ⟨A, hA⟩ : ∃ A, A = agr (cword p (2 ^ k) l) (cword p (2 ^ k) m) (2 ^ k) := ⟨_, rfl⟩
  rw [← hA] at e1
  have hmem : ∀ i ∈ A.take K, i < 2 ^ k ∧ (cword p (2 ^ k) l).getD i 0 = (cword p (2 ^ k) m).getD i 0 := fun i hi => by
    have := List.mem_of_mem_take hi
    rw [hA] at this
    unfold agr at this
    rw [List.mem_filter, List.mem_range] at this
    exact ⟨this.1, of_decide_eq_true this.2⟩
  have hp : (A.take K).Pairwise (· < ·) := by
    refine List.Pairwise.sublist (List.take_sublist K A) ?_
    rw [hA]; unfold agr
    exact List.Pairwise.sublist List.filter_sublist List.pairwise_lt_range
  have hlen : ((A.take K).map (dmK p (gent p) (rootN p (2 ^ k)))).length = K := by rw [List.length_map, List.length_take]; omega
  have hz := roots hv ((A.take K).map (dmK p (gent p) (rootN p (2 ^ k)))) (subS (cf p l) (cf p m)) (by
      rw [hlen]; intro t ht
      have a1 := cf_deg (p := p) l t (by omega)
      have a2 := cf_deg (p := p) m t (by omega)
      simp only [subS]; rw [a1, a2]; grind) (by
      rw [hlen]; intro y hy
      obtain ⟨i, hi, rfl⟩ := List.mem_map.1 hy
      obtain ⟨h1, h2⟩ := hmem i hi
      have h3 := congrArg (F p) h2
      unfold cword at h3
      rw [F_reva hv _ _ _ _ _ h1, F_reva hv _ _ _ _ _ h1] at h3
      rw [ev_sub, F_dmK hv, ev_len l K hl, ev_len m K hm, h3]; grind) (by
      rw [List.pairwise_map]
      exact List.Pairwise.imp_of_mem (fun {a b} _ hb hab => pts_ne hv h hab (hmem b hb).1) hp)
  apply S.ext
  intro t
  have := congrFun hz t
  simp only [subS, zeroS] at this
  grind
end Q
/-- A coefficient, reduced, as the law reads it. -/
def fr (p : Nat) (l : List Nat) (i : Nat) : Nat := if i < l.length then l.getD i 0 % p else 0
def sameK (p : Nat) (l m : List Nat) : Nat → Bool
  | 0 => true
  | k + 1 => sameK p l m k && decide (fr p l k = fr p m k)
theorem fr_mod (p : Nat) (l : List Nat) (i : Nat) : fr p l i = l.getD i 0 % p := by
  unfold fr
  split
  · rfl
  · rename_i h; rw [List.getD_eq_getElem?_getD, List.getElem?_eq_none (by omega)]; simp
theorem sameK_iff (p : Nat) (l m : List Nat) : ∀ k, sameK p l m k = true ↔ ∀ i, i < k → fr p l i = fr p m i
  | 0 => by simp [sameK]
  | k + 1 => by
    simp only [sameK, Bool.and_eq_true, sameK_iff p l m k, decide_eq_true_eq]
    constructor
    · rintro ⟨h1, h2⟩ i hi
      by_cases h : i = k
      · subst h; exact h2
      · exact h1 i (by omega)
    · exact fun h => ⟨fun i hi => h i (by omega), h k (by omega)⟩
theorem separated {p N K : Nat} (hc : cval p N K = true) {l m : List Nat} (hl : l.length ≤ K) (hm : m.length ≤ K) :
    (sameK p l m K = true → dist (cword p N l) (cword p N m) = 0) ∧ (sameK p l m K = false → N + 1 ≤ dist (cword p N l) (cword p N m) + K) := by
  obtain ⟨hv, e, K', N', _, h2, h3, h4, _, h5, _, hd, _⟩ := cval_spec hc
  obtain rfl : N = N' := by omega
  obtain rfl : K = K' := by omega
  have : NeZero p := ⟨by have := vld_bd hv; omega⟩
  constructor
  · intro h
    have h6 := (sameK_iff p l m K).1 h
    rw [Q.same_word hv (l := l) (m := m) (by
      apply Q.S.ext
      intro t
      unfold Q.cf
      rw [Q.F_eq, ← fr_mod, ← fr_mod]
      by_cases ht : t < K
      · exact h6 t ht
      · unfold fr; rw [if_neg (by omega), if_neg (by omega)])]
    exact dist_self _
  · intro h
    apply Classical.byContradiction
    intro hf
    subst h2
    have h6 := Q.near_same hv hd hl hm (by omega)
    have h7 : sameK p l m K = true := (sameK_iff p l m K).2 fun i _ => by
      rw [fr_mod, fr_mod]; exact Q.F_eq.1 (congrFun h6 i)
    rw [h7] at h; cases h
end Go.Proofs.Ytgnngifnoaagjaa

/- Plain law: divided differences of an order from K on are 0 exactly if the degree is less than K. -/
namespace Go.Proofs.Ytgnngifnoaagjaa.Q
variable {p : Nat} [NeZero p]
/-- A table of divided differences of the values Y at the points x. -/
structure DD (N : Nat) (x : Nat → Nat) (Y : Nat → Fin p) (dd : Nat → Nat → Fin p) : Prop where
  start : ∀ t, t < N → dd 0 t = Y t
  step : ∀ o t, o + 1 ≤ t → t < N → ∃ u : Fin p, u * (F p (x t) - F p (x (t - (o + 1)))) = 1 ∧ dd (o + 1) t = (dd o t - dd o (t - 1)) * u
theorem ev_linmul (a x : Fin p) {f : S p} {n : Nat} (hf : DegLt f n) : ev (n + 2) (mulS (lin a) f) x = (x - a) * ev n f x := by
  rw [ev_mul (lin_deg a) hf x (n + 2) (by omega), lin_ev]
theorem neville {N : Nat} {x : Nat → Nat} {Y : Nat → Fin p} {dd : Nat → Nat → Fin p} (h : DD N x Y dd) : ∀ o t, o ≤ t → t < N →
    ∃ I : S p, DegLt I (o + 1) ∧ I o = dd o t ∧ ∀ j, t ≤ j + o → j ≤ t → ev (o + 1) I (F p (x j)) = Y j
  | 0, t, _, ht => ⟨C (Y t), C_deg _, by rw [h.start t ht]; simp [C], fun j h1 h2 => by
      obtain rfl : j = t := by omega
      simp [ev, C]; grind⟩
  | o + 1, t, hot, ht => by
    obtain ⟨I1, a1, b1, c1⟩ := neville h o t (by omega) ht
    obtain ⟨I0, a0, b0, c0⟩ := neville h o (t - 1) (by omega) (by omega)
    obtain ⟨u, hu, hd⟩ := h.step o t hot ht
    have hdeg : DegLt (smul u (subS (mulS (lin (F p (x (t - (o + 1))))) I1) (mulS (lin (F p (x t))) I0))) (o + 1 + 1) :=
      DegLt.smul (DegLt.sub (fun s hs => DegLt.mul (lin_deg _) a1 s (by omega)) (fun s hs => DegLt.mul (lin_deg _) a0 s (by omega))) u
    refine ⟨_, hdeg, ?_, fun j h1 h2 => ?_⟩
    · have z1 := a1 (o + 1) (by omega)
      have z0 := a0 (o + 1) (by omega)
      rw [hd, ← b1, ← b0, lin_mul, lin_mul]
      simp only [smul, subS, sh, z1, z0]
      grind
    · rw [← ev_more hdeg (F p (x j)) (o + 1 + 2) (by omega), ev_smul, ev_sub, ev_linmul _ _ a1, ev_linmul _ _ a0]
      by_cases e1 : j = t
      · subst e1
        rw [c1 j (by omega) (by omega)]; grind
      · by_cases e2 : j = t - (o + 1)
        · subst e2
          rw [c0 _ (by omega) (by omega)]; grind
        · rw [c1 j (by omega) (by omega), c0 j (by omega) (by omega)]; grind
theorem uniq (hv : vld p = true) {n : Nat} {x : Nat → Nat} (hx : ∀ i j, i < j → j < n → F p (x i) ≠ F p (x j)) {f g : S p} (hf : DegLt f n) (hg : DegLt g n) (h : ∀ j, j < n → ev n f (F p (x j)) = ev n g (F p (x j))) : f = g := by
  have hlen : ((List.range n).map x).length = n := by simp
  have hz := roots hv ((List.range n).map x) (subS f g) (by rw [hlen]; exact DegLt.sub hf hg) (by
    rw [hlen]; intro y hy
    obtain ⟨i, hi, rfl⟩ := List.mem_map.1 hy
    rw [ev_sub, h i (List.mem_range.1 hi)]; grind) (by
    rw [List.pairwise_map]
    exact List.Pairwise.imp_of_mem (fun {a b} _ hb hab => hx a b hab (List.mem_range.1 hb)) List.pairwise_lt_range)
  apply S.ext
  intro t
  have := congrFun hz t
  simp only [subS, zeroS] at this
  grind
theorem dd_same (hv : vld p = true) {N : Nat} {x : Nat → Nat} {Y : Nat → Fin p} {dd : Nat → Nat → Fin p} (h : DD N x Y dd) (hx : ∀ i j, i < j → j < N → F p (x i) ≠ F p (x j)) {f : S p} {n : Nat} (hn : n < N) (hf : DegLt f (n + 1)) (hy : ∀ j, j < N → ev (n + 1) f (F p (x j)) = Y j) : f n = dd n n := by
  obtain ⟨I, a, b, c⟩ := neville h n n (Nat.le_refl _) hn
  rw [← b, uniq hv (n := n + 1) (x := x) (fun i j h1 h2 => hx i j h1 (by omega)) hf a (fun j hj => by rw [hy j (by omega), c j (by omega) (by omega)])]
/-- Divided differences of an order from K on are 0 exactly if the degree is less than K. -/
theorem dd_deg (hv : vld p = true) {N K : Nat} {x : Nat → Nat} {Y : Nat → Fin p} {dd : Nat → Nat → Fin p} (h : DD N x Y dd) (hx : ∀ i j, i < j → j < N → F p (x i) ≠ F p (x j)) {f : S p} (hf : DegLt f N) (hy : ∀ j, j < N → ev N f (F p (x j)) = Y j) :
    DegLt f K ↔ ∀ t, K ≤ t → t < N → dd t t = 0 := by
  have hm : ∀ n, n ≤ N → DegLt f n → ∀ j, j < N → ev n f (F p (x j)) = Y j := fun n hn hd j hj => by rw [← ev_more hd _ N hn, hy j hj]
  constructor
  · intro hd t h1 h2
    have hd2 : DegLt f (t + 1) := hd.mono (by omega)
    rw [← dd_same hv h hx h2 hd2 (hm _ (by omega) hd2)]
    exact hd t h1
  · intro hz
    have key : ∀ d n, n + d = N → K ≤ n → DegLt f n := by
      intro d
      induction d with
      | zero => intro n hn _; rw [show n = N from by omega]; exact hf
      | succ d ih =>
        intro n hn hK
        have hd2 := ih (n + 1) (by omega) (by omega)
        have h0 := dd_same hv h hx (n := n) (by omega) hd2 (hm _ (by omega) hd2)
        rw [hz n hK (by omega)] at h0
        intro t ht
        by_cases e : t = n
        · subst e; exact h0
        · exact hd2 t (by omega)
    by_cases hKN : K ≤ N
    · exact key (N - K) K (by omega) (Nat.le_refl _)
    · exact hf.mono (by omega)
end Go.Proofs.Ytgnngifnoaagjaa.Q
