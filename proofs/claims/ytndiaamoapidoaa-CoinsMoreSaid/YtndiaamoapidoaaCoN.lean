/- Plain law of layer 50: the fewest positions; what Select returns. -/
import Derived.Test.YtndiaamoapidoaaCoM
namespace Go.Proofs.Ytndiaamoapidoaa

theorem fw_spec (d : List Nat) (t : Nat) : ∀ s n : Nat, (∃ k, k ≤ d.length ∧ fw d t s n = ((n + k : Nat) : Int) ∧ t ≤ s + (d.take k).sum ∧ ∀ j, j < k → s + (d.take j).sum < t) ∨ (fw d t s n = -1 ∧ ∀ j, j ≤ d.length → s + (d.take j).sum < t) := by
  induction d with
  | nil =>
    intro s n
    by_cases h : t ≤ s
    · left; exact ⟨0, Nat.le_refl _, by simp only [fw, if_pos h]; rfl, by simpa using h, fun j hj => absurd hj (by omega)⟩
    · right; exact ⟨by simp only [fw, if_neg h], fun j _ => by simp; omega⟩
  | cons x r ih =>
    intro s n
    by_cases h : t ≤ s
    · left; exact ⟨0, Nat.zero_le _, by simp only [fw, if_pos h]; rfl, by simpa using h, fun j hj => absurd hj (by omega)⟩
    · have e : fw (x :: r) t s n = fw r t (s + x) (n + 1) := by simp only [fw, if_neg h]
      rcases ih (s + x) (n + 1) with ⟨k, h1, h2, h3, h4⟩ | ⟨h1, h2⟩
      · left
        refine ⟨k + 1, by simp; omega, by rw [e, h2]; congr 1; omega, by simp; omega, fun j hj => ?_⟩
        cases j with
        | zero => simp; omega
        | succ j => have := h4 j (by omega); simp; omega
      · right
        refine ⟨by rw [e, h1], fun j hj => ?_⟩
        cases j with
        | zero => simp; omega
        | succ j => have := h2 j (by simp at hj; omega); simp; omega
theorem perm_sum {l m : List Nat} (h : l.Perm m) : l.sum = m.sum := by
  induction h with
  | nil => rfl
  | cons x _ ih => simp [ih]
  | swap x y l => simp; omega
  | trans _ _ h1 h2 => exact h1.trans h2
theorem take_more (x k : Nat) : ∀ (d : List Nat), (∀ y ∈ d, y ≤ x) → (d.take (k + 1)).sum ≤ x + (d.take k).sum := by
  induction k with
  | zero =>
    intro d h
    cases d with
    | nil => simp
    | cons y r => have := h y (by simp); simp; omega
  | succ k ih =>
    intro d h
    cases d with
    | nil => simp
    | cons y r =>
      have := ih r (fun z hz => h z (List.mem_cons_of_mem _ hz))
      simp only [List.take_succ_cons, List.sum_cons] at this ⊢; omega
theorem top_max : ∀ (d s r : List Nat), d.Pairwise (· ≥ ·) → (s ++ r).Perm d → s.sum ≤ (d.take s.length).sum := by
  intro d
  induction d with
  | nil =>
    intro s r _ h
    have : s = [] := by
      have := h.length_eq
      simp at this
      exact this.1
    subst this; simp
  | cons x d ih =>
    intro s r hd h
    obtain ⟨hx, hd2⟩ := List.pairwise_cons.1 hd
    have hmem : x ∈ s ++ r := h.mem_iff.2 (by simp)
    by_cases hs : x ∈ s
    · have e := List.perm_cons_erase hs
      have h2 : (s.erase x ++ r).Perm d := List.Perm.cons_inv (((e.append_right r).symm).trans h)
      have := ih _ _ hd2 h2
      have hl := e.length_eq
      rw [perm_sum e, hl]
      simp only [List.sum_cons, List.length_cons, List.take_succ_cons]; omega
    · have hr : x ∈ r := by
        rcases List.mem_append.1 hmem with q | q
        · exact absurd q hs
        · exact q
      have e := List.perm_cons_erase hr
      have h2 : (s ++ r.erase x).Perm d := List.Perm.cons_inv ((List.perm_middle.symm.trans ((e.append_left s).symm)).trans h)
      have h3 := ih _ _ hd2 h2
      cases hk : s.length with
      | zero => rw [hk] at h3; simp at h3 ⊢; omega
      | succ k =>
        rw [hk] at h3
        have := take_more x k d (fun y hy => hx y hy)
        simp only [List.take_succ_cons, List.sum_cons]; omega
theorem sub_perm {s u : List Nat} (h : s.Sublist u) : ∃ r, (s ++ r).Perm u := by
  induction h with
  | slnil => exact ⟨[], by simp⟩
  | cons a _ ih =>
    obtain ⟨r, hr⟩ := ih
    exact ⟨a :: r, List.perm_middle.trans (hr.cons a)⟩
  | cons_cons a _ ih =>
    obtain ⟨r, hr⟩ := ih
    exact ⟨r, hr.cons a⟩
def valI (vs : List Nat) (m : List Int) : List Nat := m.map fun x => vs.getD x.toNat 0
theorem sumI_val (vs : List Nat) (m : List Int) : sumI vs m = (valI vs m).sum := by
  induction m with
  | nil => rfl
  | cons x r ih => show vs.getD x.toNat 0 + sumI vs r = _; rw [ih]; simp [valI]
theorem asc_sub {vs : List Nat} : ∀ {m : List Int} {p : Int}, -1 ≤ p → ascF vs.length p m = true → (valI vs m).Sublist (vs.drop (p + 1).toNat)
  | [], _, _, _ => List.nil_sublist _
  | x :: r, p, hp, h => by
    obtain ⟨h1, h2, h3⟩ := asc_cons.1 h
    have ih := asc_sub (m := r) (p := x) (by omega) h3
    have hx : x.toNat < vs.length := by omega
    have e : vs.drop x.toNat = vs.getD x.toNat 0 :: vs.drop (x + 1).toNat := by rw [drop_cons vs _ hx]; congr 2; omega
    have s1 : (valI vs (x :: r)).Sublist (vs.drop x.toNat) := by rw [e]; exact ih.cons_cons _
    refine s1.trans ?_
    rw [show x.toNat = (p + 1).toNat + (x.toNat - (p + 1).toNat) from by omega, ← List.drop_drop]
    exact List.drop_sublist _ _
theorem asc_weak {n p q : Int} {m : List Int} (h : ascF n p m = true) (hq : q ≤ p) : ascF n q m = true := by
  cases m with
  | nil => rfl
  | cons x r =>
    obtain ⟨h1, h2, h3⟩ := asc_cons.1 h
    exact asc_cons.2 ⟨by omega, h2, h3⟩
theorem sel_of_perm {vs : List Nat} : ∀ (c i : Nat), i + c = vs.length → ∀ s r : List Nat, (s ++ r).Perm (vs.drop i) → ∃ m, ascF vs.length ((i : Int) - 1) m = true ∧ m.length = s.length ∧ sumI vs m = s.sum
  | 0, i, hi, s, r, h => by
    rw [List.drop_eq_nil_of_le (by omega)] at h
    have : s = [] := by
      have := h.length_eq
      simp at this
      exact this.1
    subst this
    exact ⟨[], rfl, rfl, rfl⟩
  | c + 1, i, hi, s, r, h => by
    rw [drop_cons vs i (by omega)] at h
    have hmem : vs.getD i 0 ∈ s ++ r := h.mem_iff.2 (by simp)
    by_cases hs : vs.getD i 0 ∈ s
    · have e := List.perm_cons_erase hs
      have h2 : (s.erase (vs.getD i 0) ++ r).Perm (vs.drop (i + 1)) := List.Perm.cons_inv (((e.append_right r).symm).trans h)
      obtain ⟨m, a1, a2, a3⟩ := sel_of_perm c (i + 1) (by omega) _ _ h2
      rw [show ((i + 1 : Nat) : Int) - 1 = (i : Int) from by omega] at a1
      refine ⟨(i : Int) :: m, asc_cons.2 ⟨by omega, by omega, a1⟩, ?_, ?_⟩
      · have := e.length_eq; simp only [List.length_cons] at this ⊢; omega
      · rw [perm_sum e]
        show vs.getD ((i : Int)).toNat 0 + sumI vs m = _
        rw [a3]; simp
    · have hr : vs.getD i 0 ∈ r := by
        rcases List.mem_append.1 hmem with q | q
        · exact absurd q hs
        · exact q
      have e := List.perm_cons_erase hr
      have h2 : (s ++ r.erase (vs.getD i 0)).Perm (vs.drop (i + 1)) := List.Perm.cons_inv ((List.perm_middle.symm.trans ((e.append_left s).symm)).trans h)
      obtain ⟨m, a1, a2, a3⟩ := sel_of_perm c (i + 1) (by omega) _ _ h2
      exact ⟨m, asc_weak a1 (by omega), a2, a3⟩
/-- A selection. -/
abbrev Sel (vs : List Nat) (m : List Int) : Prop := ascF vs.length (-1) m = true
theorem Sel.perm {vs : List Nat} {m : List Int} (h : Sel vs m) : ∃ r, (valI vs m ++ r).Perm vs := by
  obtain ⟨r, hr⟩ := sub_perm (asc_sub (Int.le_refl _) h)
  exact ⟨r, by simpa using hr⟩
theorem Sel.ofPerm {vs s r : List Nat} (h : (s ++ r).Perm vs) : ∃ m, Sel vs m ∧ m.length = s.length ∧ sumI vs m = s.sum := sel_of_perm vs.length 0 (by omega) s r (by simpa using h)
theorem Sel.len {vs : List Nat} {m : List Int} (h : Sel vs m) : m.length ≤ vs.length := by
  have := asc_len h (by omega); omega
theorem Sel.le {vs : List Nat} {m : List Int} (h : Sel vs m) : sumI vs m ≤ ((dsc vs).take m.length).sum := by
  obtain ⟨r, hr⟩ := h.perm
  have := top_max (dsc vs) (valI vs m) r (dsc_sorted vs) (hr.trans (dsc_perm vs).symm)
  rw [sumI_val]
  simpa [valI] using this
theorem Sel.top (vs : List Nat) (k : Nat) (hk : k ≤ vs.length) : ∃ m, Sel vs m ∧ m.length = k ∧ sumI vs m = ((dsc vs).take k).sum := by
  obtain ⟨m, h1, h2, h3⟩ := Sel.ofPerm (vs := vs) (s := (dsc vs).take k) (r := (dsc vs).drop k) (by rw [List.take_append_drop]; exact dsc_perm vs)
  exact ⟨m, h1, by rw [h2, List.length_take, dsc_len]; omega, h3⟩
theorem few_spec (vs : List Nat) (t : Nat) : (∃ k : Nat, k ≤ vs.length ∧ fewM vs t = k ∧ (∃ m, Sel vs m ∧ m.length = k ∧ t ≤ sumI vs m) ∧ ∀ m, Sel vs m → m.length < k → sumI vs m < t) ∨ (fewM vs t = -1 ∧ ∀ m, Sel vs m → sumI vs m < t) := by
  rcases fw_spec (dsc vs) t 0 0 with ⟨k, h1, h2, h3, h4⟩ | ⟨h1, h2⟩
  · left
    rw [dsc_len] at h1
    refine ⟨k, h1, by unfold fewM; rw [h2]; congr 1; omega, ?_, fun m hm hl => ?_⟩
    · obtain ⟨m, a1, a2, a3⟩ := Sel.top vs k h1
      exact ⟨m, a1, a2, by omega⟩
    · have := hm.le
      have := h4 m.length hl
      omega
  · right
    refine ⟨h1, fun m hm => ?_⟩
    have := hm.le
    have := h2 m.length (by rw [dsc_len]; exact hm.len)
    omega

structure Best (vs : List Nat) (t k : Nat) (l : List Int) : Prop where
  few : fewM vs t = k
  sel : Sel vs l
  len : l.length = k
  enough : t ≤ sumI vs l
  less : ∀ m, Sel vs m → m.length < k → sumI vs m < t
  least : ∀ m, Sel vs m → m.length = k → t ≤ sumI vs m → sumI vs l ≤ sumI vs m
  first : ∀ m, Sel vs m → m.length = k → t ≤ sumI vs m → lexI m l = true → sumI vs l < sumI vs m
theorem sel_spec (vs : List Nat) (t : Nat) (most : Int) (h0 : exE vs = 0) (hm : 0 ≤ most) :
    (selE vs t most = 15 ∧ selL vs t most = [] ∧ (fewM vs t < 0 ∨ most < fewM vs t) ∧ ∀ m, Sel vs m → (m.length : Int) ≤ most → sumI vs m < t) ∨
    (∃ k : Nat, (k : Int) ≤ most ∧ selE vs t most = 0 ∧ Best vs t k (selL vs t most)) := by
  have neg : (fewM vs t < 0 ∨ most < fewM vs t) → selE vs t most = 15 ∧ selL vs t most = [] := fun h => by
    constructor
    · unfold selE; rw [if_neg (fun q => q h0), if_neg (by omega), if_pos h]
    · unfold selL; rw [if_pos (.inr (.inr h))]
  rcases few_spec vs t with ⟨k, h1, h2, h3, h4⟩ | ⟨h1, h2⟩
  · by_cases hk : (k : Int) ≤ most
    · right
      obtain ⟨e1, e2⟩ := sel_ok h0 h2 hk
      obtain ⟨l, q1, q2, q3, q4, q5⟩ := best_ok vs t k h3
      rw [q1] at e1
      have e3 : selL vs t most = l := e1
      rw [e3]
      exact ⟨k, hk, e2, h2, q2, q3, q4, h4, fun m a b c => (q5 m a b c).1, fun m a b c => (q5 m a b c).2⟩
    · left
      have hn : fewM vs t < 0 ∨ most < fewM vs t := .inr (by omega)
      obtain ⟨e1, e2⟩ := neg hn
      exact ⟨e1, e2, hn, fun m hm hl => h4 m hm (by omega)⟩
  · left
    have hn : fewM vs t < 0 ∨ most < fewM vs t := .inl (by omega)
    obtain ⟨e1, e2⟩ := neg hn
    exact ⟨e1, e2, hn, fun m hm _ => h2 m hm⟩
end Go.Proofs.Ytndiaamoapidoaa
