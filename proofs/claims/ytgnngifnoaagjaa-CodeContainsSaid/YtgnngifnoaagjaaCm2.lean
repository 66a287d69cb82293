/- Plain law: divided differences of an order from K on are 0 exactly if the degree is less than K. -/
import Derived.Test.YtgnngifnoaagjaaCm1
namespace Go.Proofs.Ytgnngifnoaagjaa.Q
variable {p : Nat} [NeZero p]
/-- A table of divided differences of the values Y at the points x. -/
structure DD (N : Nat) (x : Nat → Nat) (Y : Nat → Fin p) (dd : Nat → Nat → Fin p) : Prop where
  start : ∀ t, t < N → dd 0 t = Y t
  step : ∀ o t, o + 1 ≤ t → t < N → ∃ u : Fin p, u * (F p (x t) - F p (x (t - (o + 1)))) = 1 ∧ dd (o + 1) t = (dd o t - dd o (t - 1)) * u
theorem ev_linmul (a x : Fin p) {f : S p} {n : Nat} (hf : DegLt f n) : ev (n + 2) (mulS (lin a) f) x = (x - a) * ev n f x := by
  rw [ev_mul (lin_deg a) hf x (n + 2) (by omega), lin_ev]
theorem neville {N : Nat} {x : Nat → Nat} {Y : Nat → Fin p} {dd : Nat → Nat → Fin p} (h : DD N x Y dd) : ∀ o t, o ≤ t → t < N →
    ∃ I : S p, DegLt I (o + 1) ∧ I o = dd o t ∧ ∀ j, t ≤ j + o → j ≤ t → ev (o + 1) I (F p (x j)) = Y j
  | 0, t, _, ht => ⟨C (Y t), C_deg _, by rw [h.start t ht]; simp [C], fun j h1 h2 => by
      obtain rfl : j = t := by omega
      simp [ev, C]; grind⟩
  | o + 1, t, hot, ht => by
    obtain ⟨I1, a1, b1, c1⟩ := neville h o t (by omega) ht
    obtain ⟨I0, a0, b0, c0⟩ := neville h o (t - 1) (by omega) (by omega)
    obtain ⟨u, hu, hd⟩ := h.step o t hot ht
    have hdeg : DegLt (smul u (subS (mulS (lin (F p (x (t - (o + 1))))) I1) (mulS (lin (F p (x t))) I0))) (o + 1 + 1) :=
      DegLt.smul (DegLt.sub (fun s hs => DegLt.mul (lin_deg _) a1 s (by omega)) (fun s hs => DegLt.mul (lin_deg _) a0 s (by omega))) u
    refine ⟨_, hdeg, ?_, fun j h1 h2 => ?_⟩
    · have z1 := a1 (o + 1) (by omega)
      have z0 := a0 (o + 1) (by omega)
      rw [hd, ← b1, ← b0, lin_mul, lin_mul]
      simp only [smul, subS, sh, z1, z0]
      grind
    · rw [← ev_more hdeg (F p (x j)) (o + 1 + 2) (by omega), ev_smul, ev_sub, ev_linmul _ _ a1, ev_linmul _ _ a0]
      by_cases e1 : j = t
      · subst e1
        rw [c1 j (by omega) (by omega)]; grind
      · by_cases e2 : j = t - (o + 1)
        · subst e2
          rw [c0 _ (by omega) (by omega)]; grind
        · rw [c1 j (by omega) (by omega), c0 j (by omega) (by omega)]; grind
theorem uniq (hv : vld p = true) {n : Nat} {x : Nat → Nat} (hx : ∀ i j, i < j → j < n → F p (x i) ≠ F p (x j)) {f g : S p} (hf : DegLt f n) (hg : DegLt g n) (h : ∀ j, j < n → ev n f (F p (x j)) = ev n g (F p (x j))) : f = g := by
  have hlen : ((List.range n).map x).length = n := by simp
  have hz := roots hv ((List.range n).map x) (subS f g) (by rw [hlen]; exact DegLt.sub hf hg) (by
    rw [hlen]; intro y hy
    obtain ⟨i, hi, rfl⟩ := List.mem_map.1 hy
    rw [ev_sub, h i (List.mem_range.1 hi)]; grind) (by
    rw [List.pairwise_map]
    exact List.Pairwise.imp_of_mem (fun {a b} _ hb hab => hx a b hab (List.mem_range.1 hb)) List.pairwise_lt_range)
  apply S.ext
  intro t
  have := congrFun hz t
  simp only [subS, zeroS] at this
  grind
theorem dd_same (hv : vld p = true) {N : Nat} {x : Nat → Nat} {Y : Nat → Fin p} {dd : Nat → Nat → Fin p} (h : DD N x Y dd) (hx : ∀ i j, i < j → j < N → F p (x i) ≠ F p (x j)) {f : S p} {n : Nat} (hn : n < N) (hf : DegLt f (n + 1)) (hy : ∀ j, j < N → ev (n + 1) f (F p (x j)) = Y j) : f n = dd n n := by
  obtain ⟨I, a, b, c⟩ := neville h n n (Nat.le_refl _) hn
  rw [← b, uniq hv (n := n + 1) (x := x) (fun i j h1 h2 => hx i j h1 (by omega)) hf a (fun j hj => by rw [hy j (by omega), c j (by omega) (by omega)])]
/-- Divided differences of an order from K on are 0 exactly if the degree is less than K. -/
theorem dd_deg (hv : vld p = true) {N K : Nat} {x : Nat → Nat} {Y : Nat → Fin p} {dd : Nat → Nat → Fin p} (h : DD N x Y dd) (hx : ∀ i j, i < j → j < N → F p (x i) ≠ F p (x j)) {f : S p} (hf : DegLt f N) (hy : ∀ j, j < N → ev N f (F p (x j)) = Y j) :
    DegLt f K ↔ ∀ t, K ≤ t → t < N → dd t t = 0 := by
  have hm : ∀ n, n ≤ N → DegLt f n → ∀ j, j < N → ev n f (F p (x j)) = Y j := fun n hn hd j hj => by rw [← ev_more hd _ N hn, hy j hj]
  constructor
  · intro hd t h1 h2
    have hd2 : DegLt f (t + 1) := hd.mono (by omega)
    rw [← dd_same hv h hx h2 hd2 (hm _ (by omega) hd2)]
    exact hd t h1
  · intro hz
    have key : ∀ d n, n + d = N → K ≤ n → DegLt f n := by
      intro d
      induction d with
      | zero => intro n hn _; rw [show n = N from by omega]; exact hf
      | succ d ih =>
        intro n hn hK
        have hd2 := ih (n + 1) (by omega) (by omega)
        have h0 := dd_same hv h hx (n := n) (by omega) hd2 (hm _ (by omega) hd2)
        rw [hz n hK (by omega)] at h0
        intro t ht
        by_cases e : t = n
        · subst e; exact h0
        · exact hd2 t (by omega)
    by_cases hKN : K ≤ N
    · exact key (N - K) K (by omega) (Nat.le_refl _)
    · exact hf.mono (by omega)
end Go.Proofs.Ytgnngifnoaagjaa.Q
