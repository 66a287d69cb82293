/- Plain law of layer 50: what the statements ask of the best selection. -/
import Derived.Test.YtndiaamoapidoaaCoN
namespace Go.Proofs.Ytndiaamoapidoaa

theorem rE_ok {vs : List Nat} {most : Int} (h : rE vs most = 0) : exE vs = 0 ∧ 0 ≤ most := by
  unfold rE at h; unfold exE
  split at h
  · cases h
  · rename_i h1
    split at h
    · rename_i h2
      split at h
      · cases h
      · rename_i h3
        exact ⟨by rw [if_neg h1, if_pos h2], by omega⟩
    · cases h
theorem asc_sublist {n : Int} {m l : List Int} (hs : m.Sublist l) : ∀ {p : Int}, ascF n p l = true → ascF n p m = true := by
  induction hs with
  | slnil => exact fun h => h
  | cons a _ ih =>
    intro p h
    obtain ⟨h1, _, h3⟩ := asc_cons.1 h
    exact asc_weak (ih h3) (by omega)
  | cons_cons a _ ih =>
    intro p h
    obtain ⟨h1, h2, h3⟩ := asc_cons.1 h
    exact asc_cons.2 ⟨h1, h2, ih h3⟩
theorem sumI_perm {vs : List Nat} {l m : List Int} (h : l.Perm m) : sumI vs l = sumI vs m := by
  rw [sumI_val, sumI_val]; exact perm_sum (h.map _)
theorem Best.pays {vs : List Nat} {t k : Nat} {l : List Int} (h : Best vs t k l) : ∀ x ∈ l, sumI vs l - t < vs.getD x.toNat 0 := fun x hx => by
  have hp := List.perm_cons_erase hx
  have h1 : Sel vs (l.erase x) := asc_sublist List.erase_sublist h.sel
  have h2 := hp.length_eq
  have h3 : sumI vs l = vs.getD x.toNat 0 + sumI vs (l.erase x) := sumI_perm hp
  have h4 := h.less _ h1 (by have := h.len; simp only [List.length_cons] at h2; omega)
  have := h.enough
  omega
theorem exE_rev (vs : List Nat) : exE vs.reverse = exE vs := by
  have : smallL vs.reverse = smallL vs := by
    unfold smallL
    rw [Bool.eq_iff_iff, decide_eq_true_iff, decide_eq_true_iff]
    constructor
    · intro h i hi
      obtain ⟨j, hj, e⟩ := getD_of_mem (List.mem_reverse.2 (getD_mem hi))
      rw [← e]; exact h j hj
    · intro h i hi
      obtain ⟨j, hj, e⟩ := getD_of_mem (List.mem_reverse.1 (getD_mem hi))
      rw [← e]; exact h j hj
  unfold exE
  rw [List.length_reverse, this]
theorem few_rev (vs : List Nat) (t : Nat) : fewM vs.reverse t = fewM vs t := by
  unfold fewM
  rw [dsc_eq ((dsc_perm vs).trans (List.reverse_perm vs).symm) (dsc_sorted vs)]
theorem sel_swap {vs us : List Nat} (hp : vs.Perm us) {m : List Int} (h : Sel vs m) : ∃ m', Sel us m' ∧ m'.length = m.length ∧ sumI us m' = sumI vs m := by
  obtain ⟨r, hr⟩ := h.perm
  obtain ⟨m', h1, h2, h3⟩ := Sel.ofPerm (hr.trans hp)
  exact ⟨m', h1, by rw [h2]; simp [valI], by rw [h3, sumI_val]⟩
structure SelPair (vs us : List Nat) (e f : Int) (l m : List Int) : Prop where
  err : e = f
  sel : Sel vs l
  sel2 : Sel us m
  len : l.length = m.length
  sum : sumI vs l = sumI us m
theorem sel_pair (vs : List Nat) (t : Nat) (most : Int) (h0 : exE vs = 0) (hm : 0 ≤ most) : SelPair vs vs.reverse (selE vs t most) (selE vs.reverse t most) (selL vs t most) (selL vs.reverse t most) := by
  have hf := few_rev vs t
  rcases sel_spec vs t most h0 hm with ⟨a1, a2, a3, a4⟩ | ⟨k, a1, a2, a3⟩
  · rcases sel_spec vs.reverse t most ((exE_rev vs).trans h0) hm with ⟨b1, b2, b3, b4⟩ | ⟨k2, b1, b2, b3⟩
    · rw [a1, a2, b1, b2]; exact ⟨rfl, rfl, rfl, rfl, rfl⟩
    · have := b3.few; rw [hf] at this; omega
  · rcases sel_spec vs.reverse t most ((exE_rev vs).trans h0) hm with ⟨b1, b2, b3, b4⟩ | ⟨k2, b1, b2, b3⟩
    · have := a3.few; rw [hf] at b3; omega
    · have hk : k2 = k := by have q1 := a3.few; have q2 := b3.few; rw [hf] at q2; omega
      subst hk
      refine ⟨by rw [a2, b2], a3.sel, b3.sel, by rw [a3.len, b3.len], ?_⟩
      apply Nat.le_antisymm
      · obtain ⟨m', q1, q2, q3⟩ := sel_swap (List.reverse_perm vs) b3.sel
        have := a3.least m' q1 (by rw [q2, b3.len]) (by rw [q3]; exact b3.enough)
        omega
      · obtain ⟨m', q1, q2, q3⟩ := sel_swap (List.reverse_perm vs).symm a3.sel
        have := b3.least m' q1 (by rw [q2, a3.len]) (by rw [q3]; exact a3.enough)
        omega
end Go.Proofs.Ytndiaamoapidoaa
