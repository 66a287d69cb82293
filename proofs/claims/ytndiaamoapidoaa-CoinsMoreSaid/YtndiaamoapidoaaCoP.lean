/- Plain law of layer 50: the document's Select returns the best selection; more; replacing. -/
import Derived.Test.YtndiaamoapidoaaCoO
namespace Go.Proofs.Ytndiaamoapidoaa

theorem asc_mono {n n' : Int} (hn : n ≤ n') : ∀ {l : List Int} {p : Int}, ascF n p l = true → ascF n' p l = true
  | [], _, _ => rfl
  | x :: r, p, h => by
    obtain ⟨h1, h2, h3⟩ := asc_cons.1 h
    exact asc_cons.2 ⟨h1, by omega, asc_mono hn h3⟩
theorem asc_snoc {n : Int} : ∀ {l : List Int} {p : Int}, ascF n p l = true → p < n → ascF (n + 1) p (l ++ [n]) = true
  | [], p, _, hp => asc_cons.2 ⟨hp, by omega, rfl⟩
  | x :: r, p, h, hp => by
    obtain ⟨h1, h2, h3⟩ := asc_cons.1 h
    exact asc_cons.2 ⟨h1, by omega, asc_snoc h3 h2⟩
theorem asc_split {n : Int} : ∀ {l : List Int} {p : Int}, ascF (n + 1) p l = true → ascF n p l = true ∨ ∃ m, l = m ++ [n] ∧ ascF n p m = true
  | [], _, _ => .inl rfl
  | x :: r, p, h => by
    obtain ⟨h1, h2, h3⟩ := asc_cons.1 h
    by_cases hx : x = n
    · subst hx
      cases r with
      | nil => exact .inr ⟨[], rfl, rfl⟩
      | cons y s => obtain ⟨q1, q2, _⟩ := asc_cons.1 h3; omega
    · rcases asc_split h3 with q | ⟨m, rfl, q⟩
      · exact .inl (asc_cons.2 ⟨h1, by omega, q⟩)
      · exact .inr ⟨x :: m, rfl, asc_cons.2 ⟨h1, by omega, q⟩⟩
theorem bitsI_sel (s : Nat) : ∀ k : Nat, ascF k (-1) (bitsI s k) = true
  | 0 => rfl
  | k + 1 => by
    unfold bitsI
    split
    · exact asc_snoc (bitsI_sel s k) (by omega)
    · exact asc_mono (by omega) (bitsI_sel s k)
theorem bitsI_high (s n : Nat) : ∀ k, k ≤ n → bitsI (s + 2 ^ n) k = bitsI s k
  | 0, _ => rfl
  | k + 1, h => by
    obtain ⟨d, rfl⟩ : ∃ d, n = k + 1 + d := ⟨n - (k + 1), by omega⟩
    have e : (s + 2 ^ (k + 1 + d)) / 2 ^ k = s / 2 ^ k + 2 * 2 ^ d := by
      rw [show 2 ^ (k + 1 + d) = (2 * 2 ^ d) * 2 ^ k from by rw [Nat.pow_add, Nat.pow_succ]; rw [Nat.mul_assoc, Nat.mul_comm (2 ^ k), Nat.mul_assoc]]
      exact Nat.add_mul_div_right _ _ (Nat.two_pow_pos k)
    unfold bitsI
    rw [e, show (s / 2 ^ k + 2 * 2 ^ d) % 2 = s / 2 ^ k % 2 from by omega, bitsI_high s _ k (by omega)]
theorem bitsI_onto : ∀ (n : Nat) (m : List Int), ascF n (-1) m = true → ∃ s, s < 2 ^ n ∧ bitsI s n = m
  | 0, [], _ => ⟨0, by decide, rfl⟩
  | 0, x :: r, h => by obtain ⟨h1, h2, _⟩ := asc_cons.1 h; omega
  | n + 1, m, h => by
    rcases asc_split (n := (n : Int)) (by simpa using h) with q | ⟨m', rfl, q⟩
    · obtain ⟨s, hs, e⟩ := bitsI_onto n m q
      refine ⟨s, by rw [Nat.pow_succ]; omega, ?_⟩
      unfold bitsI
      rw [Nat.div_eq_of_lt hs, if_neg (by decide)]; exact e
    · obtain ⟨s, hs, e⟩ := bitsI_onto n m' q
      refine ⟨s + 2 ^ n, by rw [Nat.pow_succ]; omega, ?_⟩
      unfold bitsI
      rw [show (s + 2 ^ n) / 2 ^ n = 1 from by rw [Nat.add_div_right _ (Nat.two_pow_pos n), Nat.div_eq_of_lt hs], if_pos (by decide), bitsI_high s n n (Nat.le_refl _), e]

theorem lexI_trans : ∀ {a b c : List Int}, lexI a b = true → lexI b c = true → lexI a c = true
  | x :: r, y :: s, z :: u, h1, h2 => by
    unfold lexI at h1 h2 ⊢
    by_cases e1 : x = y
    · subst e1
      rw [if_pos rfl] at h1
      by_cases e2 : x = z
      · rw [if_pos e2] at h2 ⊢; exact lexI_trans h1 h2
      · rw [if_neg e2] at h2 ⊢; exact h2
    · rw [if_neg e1] at h1
      have h1 := of_decide_eq_true h1
      by_cases e2 : y = z
      · subst e2
        rw [if_neg e1]; exact decide_eq_true h1
      · rw [if_neg e2] at h2
        have h2 := of_decide_eq_true h2
        rw [if_neg (by omega)]; exact decide_eq_true (by omega)
theorem lexI_total : ∀ {a b : List Int}, a.length = b.length → lexI a b = false → lexI b a = false → a = b
  | [], [], _, _, _ => rfl
  | x :: r, y :: s, hl, h1, h2 => by
    unfold lexI at h1 h2
    by_cases e : x = y
    · subst e
      rw [if_pos rfl] at h1 h2
      rw [lexI_total (by simpa using hl) h1 h2]
    · rw [if_neg e] at h1
      rw [if_neg (fun q => e q.symm)] at h2
      have h1 := of_decide_eq_false h1
      have h2 := of_decide_eq_false h2
      omega
theorem betI_iff {vs : List Nat} {l m : List Int} : betI vs l m = true ↔ l.length < m.length ∨ (l.length = m.length ∧ (sumI vs l < sumI vs m ∨ (sumI vs l = sumI vs m ∧ lexI l m = true))) := by
  unfold betI
  by_cases h1 : l.length = m.length
  · rw [if_pos h1]
    by_cases h2 : sumI vs l = sumI vs m
    · rw [if_pos h2]
      constructor
      · intro h; exact .inr ⟨h1, .inr ⟨h2, h⟩⟩
      · rintro (h | ⟨_, h | ⟨_, h⟩⟩)
        · omega
        · omega
        · exact h
    · rw [if_neg h2, decide_eq_true_iff]
      constructor
      · intro h; exact .inr ⟨h1, .inl h⟩
      · rintro (h | ⟨_, h | ⟨h, _⟩⟩)
        · omega
        · exact h
        · exact absurd h h2
  · rw [if_neg h1, decide_eq_true_iff]
    constructor
    · exact .inl
    · rintro (h | ⟨h, _⟩)
      · exact h
      · exact absurd h h1
theorem betI_trans {vs : List Nat} {a b c : List Int} (h1 : betI vs a b = true) (h2 : betI vs b c = true) : betI vs a c = true := by
  rw [betI_iff] at h1 h2 ⊢
  rcases h1 with h1 | ⟨h1, h1 | ⟨h1', h1''⟩⟩
  · left; omega
  · rcases h2 with h2 | ⟨h2, h2' | ⟨h2', _⟩⟩
    · left; omega
    · right; exact ⟨by omega, .inl (by omega)⟩
    · right; exact ⟨by omega, .inl (by omega)⟩
  · rcases h2 with h2 | ⟨h2, h2' | ⟨h2', h2''⟩⟩
    · left; omega
    · right; exact ⟨by omega, .inl (by omega)⟩
    · right; exact ⟨by omega, .inr ⟨by omega, lexI_trans h1'' h2''⟩⟩
theorem betI_total {vs : List Nat} {a b : List Int} (h1 : betI vs a b = false) (h2 : betI vs b a = false) : a = b := by
  have n1 : ¬ betI vs a b = true := by rw [h1]; decide
  have n2 : ¬ betI vs b a = true := by rw [h2]; decide
  rw [betI_iff] at n1 n2
  have e1 : a.length = b.length := by omega
  have e2 : sumI vs a = sumI vs b := by omega
  refine lexI_total e1 ?_ ?_
  · cases h : lexI a b
    · rfl
    · exact absurd (.inr ⟨e1, .inr ⟨e2, h⟩⟩) n1
  · cases h : lexI b a
    · rfl
    · exact absurd (.inr ⟨e1.symm, .inr ⟨e2.symm, h⟩⟩) n2
/-- A selection that may be taken. -/
def Fit (vs : List Nat) (t : Nat) (most : Int) (m : List Int) : Prop := (m.length : Int) ≤ most ∧ t ≤ sumI vs m
theorem rsel_spec (vs : List Nat) (t : Nat) (most : Int) : ∀ s : Nat,
    (rsel vs t most s = none ∧ ∀ j, j < s → ¬ Fit vs t most (bitsI j vs.length)) ∨
    (∃ j, j < s ∧ rsel vs t most s = some (bitsI j vs.length) ∧ Fit vs t most (bitsI j vs.length) ∧ ∀ i, i < s → Fit vs t most (bitsI i vs.length) → betI vs (bitsI i vs.length) (bitsI j vs.length) = false)
  | 0 => .inl ⟨rfl, fun j hj => absurd hj (by omega)⟩
  | s + 1 => by
    have ih := rsel_spec vs t most s
    by_cases hf : Fit vs t most (bitsI s vs.length)
    · rcases ih with ⟨e, h⟩ | ⟨j, hj, e, hfj, h⟩
      · right
        refine ⟨s, by omega, rsel_take (by rw [e]; exact takeB_none hf.1 hf.2), hf, fun i hi hfi => ?_⟩
        by_cases hi2 : i = s
        · subst hi2
          cases hb : betI vs (bitsI i vs.length) (bitsI i vs.length)
          · rfl
          · rw [betI_iff] at hb
            rcases hb with q | ⟨_, q | ⟨_, q⟩⟩
            · omega
            · omega
            · rw [lexI_irr] at q; cases q
        · exact absurd hfi (h i (by omega))
      · right
        cases hb : betI vs (bitsI s vs.length) (bitsI j vs.length)
        · refine ⟨j, by omega, by rw [rsel_keep (by rw [e, takeB_some hf.1 hf.2]; exact hb), e], hfj, fun i hi hfi => ?_⟩
          by_cases hi2 : i = s
          · subst hi2; exact hb
          · exact h i (by omega) hfi
        · refine ⟨s, by omega, rsel_take (by rw [e, takeB_some hf.1 hf.2]; exact hb), hf, fun i hi hfi => ?_⟩
          cases hb2 : betI vs (bitsI i vs.length) (bitsI s vs.length)
          · rfl
          · by_cases hi2 : i = s
            · subst hi2
              rw [betI_iff] at hb2
              rcases hb2 with q | ⟨_, q | ⟨_, q⟩⟩
              · omega
              · omega
              · rw [lexI_irr] at q; cases q
            · have := betI_trans hb2 hb
              rw [h i (by omega) hfi] at this; cases this
    · have hk : rsel vs t most (s + 1) = rsel vs t most s := by
        refine rsel_keep ?_
        by_cases q : ((bitsI s vs.length).length : Int) ≤ most
        · exact takeB_low (fun q2 => hf ⟨q, q2⟩)
        · exact takeB_long q
      rcases ih with ⟨e, h⟩ | ⟨j, hj, e, hfj, h⟩
      · left
        refine ⟨hk.trans e, fun j hj => ?_⟩
        by_cases hi2 : j = s
        · subst hi2; exact hf
        · exact h j (by omega)
      · right
        refine ⟨j, by omega, hk.trans e, hfj, fun i hi hfi => ?_⟩
        by_cases hi2 : i = s
        · subst hi2; exact absurd hfi hf
        · exact h i (by omega) hfi
theorem rsel_sel (vs : List Nat) (t : Nat) (most : Int) (h0 : exE vs = 0) (hm : 0 ≤ most) :
    (selE vs t most = 15 ∧ selL vs t most = [] ∧ rsel vs t most (2 ^ vs.length) = none) ∨ (selE vs t most = 0 ∧ rsel vs t most (2 ^ vs.length) = some (selL vs t most)) := by
  rcases sel_spec vs t most h0 hm with ⟨e1, e2, e3, e4⟩ | ⟨k, hk, e1, hB⟩
  · left
    refine ⟨e1, e2, ?_⟩
    rcases rsel_spec vs t most (2 ^ vs.length) with ⟨e, _⟩ | ⟨j, hj, e, hf, _⟩
    · exact e
    · have := e4 _ (bitsI_sel j vs.length) hf.1
      have := hf.2
      omega
  · right
    refine ⟨e1, ?_⟩
    obtain ⟨s, hs, es⟩ := bitsI_onto vs.length _ hB.sel
    have hfs : Fit vs t most (selL vs t most) := ⟨by rw [hB.len]; exact hk, hB.enough⟩
    rcases rsel_spec vs t most (2 ^ vs.length) with ⟨e, h⟩ | ⟨j, hj, e, hf, h⟩
    · exact absurd hfs (es ▸ h s hs)
    · rw [e]
      have n1 := h s hs (by rw [es]; exact hfs)
      rw [es] at n1
      have n2 : betI vs (bitsI j vs.length) (selL vs t most) = false := by
        cases hb : betI vs (bitsI j vs.length) (selL vs t most)
        · rfl
        · have hsj : Sel vs (bitsI j vs.length) := bitsI_sel j vs.length
          rw [betI_iff] at hb
          rcases hb with q | ⟨q, q2⟩
          · have := hB.less _ hsj (by have := hB.len; omega)
            have := hf.2; omega
          · have a1 := hB.least _ hsj (by have := hB.len; omega) hf.2
            rcases q2 with q2 | ⟨q2, q3⟩
            · omega
            · have := hB.first _ hsj (by have := hB.len; omega) hf.2 q3
              omega
      rw [betI_total n1 n2]

theorem Best.mono {vs : List Nat} {t t' k k' : Nat} {l l' : List Int} (h : Best vs t k l) (h' : Best vs t' k' l') (ht : t ≤ t') : k ≤ k' := by
  rcases Nat.lt_or_ge k' k with q | q
  · have := h.less l' h'.sel (by rw [h'.len]; exact q)
    have := h'.enough
    omega
  · exact q
theorem sumI_more {vs : List Nat} {x : Nat} : ∀ {l : List Int} {p : Int}, -1 ≤ p → ascF vs.length p l = true → sumI (vs ++ [x]) l = sumI vs l
  | [], _, _, _ => rfl
  | y :: r, p, hp, h => by
    obtain ⟨h1, h2, h3⟩ := asc_cons.1 h
    show (vs ++ [x]).getD y.toNat 0 + _ = vs.getD y.toNat 0 + _
    rw [sumI_more (by omega) h3]
    congr 1
    rw [List.getD_eq_getElem?_getD, List.getD_eq_getElem?_getD, List.getElem?_append_left (by omega)]
theorem Sel.more {vs : List Nat} {x : Nat} {l : List Int} (h : Sel vs l) : Sel (vs ++ [x]) l ∧ sumI (vs ++ [x]) l = sumI vs l :=
  ⟨asc_mono (by simp; omega) h, sumI_more (Int.le_refl _) h⟩
theorem Best.more {vs : List Nat} {t k k' x : Nat} {l l' : List Int} (h : Best vs t k l) (h' : Best (vs ++ [x]) t k' l') : k' ≤ k := by
  rcases Nat.lt_or_ge k k' with q | q
  · have := h'.less l h.sel.more.1 (by rw [h.len]; exact q)
    rw [h.sel.more.2] at this
    have := h.enough
    omega
  · exact q
theorem exE_more {vs : List Nat} {x : Nat} (h : exE vs = 0) (hl : vs.length < 24) (hx : x ≤ 4294967295) : exE (vs ++ [x]) = 0 := by
  obtain ⟨_, h2⟩ := exE_zero h
  have h2 := of_decide_eq_true h2
  unfold exE
  rw [if_neg (by simp; omega), if_pos]
  refine decide_eq_true fun i hi => ?_
  rcases List.mem_append.1 (getD_mem hi) with q | q
  · obtain ⟨j, hj, e⟩ := getD_of_mem q
    rw [← e]; exact h2 j hj
  · have : (vs ++ [x]).getD i 0 = x := by simpa using q
    omega

/-- A position put in at its place. -/
def insI (y : Int) : List Int → List Int
  | [] => [y]
  | x :: r => if y < x then y :: x :: r else x :: insI y r
theorem insI_perm (y : Int) : ∀ l : List Int, (insI y l).Perm (y :: l)
  | [] => .refl _
  | x :: r => by
    unfold insI
    split
    · exact .refl _
    · exact ((insI_perm y r).cons x).trans (.swap y x r)
theorem insI_asc {n y : Int} (hn : y < n) : ∀ {l : List Int} {p : Int}, ascF n p l = true → p < y → y ∉ l → ascF n p (insI y l) = true
  | [], p, _, hp, _ => asc_cons.2 ⟨hp, hn, rfl⟩
  | x :: r, p, h, hp, hy => by
    obtain ⟨h1, h2, h3⟩ := asc_cons.1 h
    unfold insI
    split
    · rename_i q
      exact asc_cons.2 ⟨hp, hn, asc_cons.2 ⟨q, h2, h3⟩⟩
    · rename_i q
      have : y ≠ x := fun e => hy (by simp [e])
      exact asc_cons.2 ⟨h1, h2, insI_asc hn h3 (by omega) (fun e => hy (List.mem_cons_of_mem _ e))⟩
theorem insI_lex {n y x : Int} (hyx : y < x) : ∀ {l : List Int} {p : Int}, ascF n p l = true → x ∈ l → y ∉ l → lexI (insI y (l.erase x)) l = true
  | z :: r, p, h, hx, hy => by
    obtain ⟨h1, h2, h3⟩ := asc_cons.1 h
    by_cases e : z = x
    · subst e
      rw [List.erase_cons_head]
      cases r with
      | nil => simp only [insI, lexI, if_neg (show ¬ y = z by omega)]; exact decide_eq_true hyx
      | cons u s =>
        obtain ⟨q1, _, _⟩ := asc_cons.1 h3
        simp only [insI, if_pos (show y < u by omega), lexI, if_neg (show ¬ y = z by omega)]; exact decide_eq_true hyx
    · have hxr : x ∈ r := by
        rcases List.mem_cons.1 hx with q | q
        · exact absurd q.symm e
        · exact q
      rw [List.erase_cons_tail (by simp [e])]
      by_cases q : y < z
      · simp only [insI, if_pos q, lexI, if_neg (show ¬ y = z by omega)]; exact decide_eq_true q
      · simp only [insI, if_neg q, lexI, if_true]
        exact insI_lex hyx h3 hxr (fun e => hy (List.mem_cons_of_mem _ e))
theorem Best.swap {vs : List Nat} {t k : Nat} {l : List Int} (h : Best vs t k l) {x : Int} (hx : x ∈ l) {j : Nat} (hj : j < vs.length) (hjl : (j : Int) ∉ l) :
    vs.getD x.toNat 0 ≤ sumI vs l ∧ ¬ (vs.getD j 0 < vs.getD x.toNat 0 ∧ t ≤ sumI vs l - vs.getD x.toNat 0 + vs.getD j 0) ∧ ¬ (vs.getD j 0 = vs.getD x.toNat 0 ∧ (j : Int) < x) := by
  have hp := List.perm_cons_erase hx
  have hs : sumI vs l = vs.getD x.toNat 0 + sumI vs (l.erase x) := sumI_perm hp
  have h1 : Sel vs (l.erase x) := asc_sublist List.erase_sublist h.sel
  have h2 : Sel vs (insI j (l.erase x)) := insI_asc (by omega) h1 (by omega) (fun q => hjl (List.mem_of_mem_erase q))
  have h3 := insI_perm (j : Int) (l.erase x)
  have h4 : sumI vs (insI j (l.erase x)) = vs.getD j 0 + sumI vs (l.erase x) := by rw [sumI_perm h3]; simp [sumI]
  have h5 : (insI (j : Int) (l.erase x)).length = k := by
    have a := h3.length_eq
    have b := hp.length_eq
    simp only [List.length_cons] at a b
    rw [← h.len]; omega
  refine ⟨by omega, fun ⟨q1, q2⟩ => ?_, fun ⟨q1, q2⟩ => ?_⟩
  · have := h.least _ h2 h5 (by omega)
    omega
  · have := h.first _ h2 h5 (by have := h.enough; omega) (insI_lex q2 h.sel hx hjl)
    omega
end Go.Proofs.Ytndiaamoapidoaa
