/- Plain law of layer 50: what the search finds. -/
import Derived.Test.YtndiaamoapidoaaCP1
namespace Go.Proofs.Ytndiaamoapidoaa

theorem sumI_app (vs : List Nat) (l m : List Int) : sumI vs (l ++ m) = sumI vs l + sumI vs m := by
  induction l with
  | nil => simp [sumI]
  | cons x r ih => simp only [List.cons_append, sumI, ih]; omega
theorem lexI_app (l m p : List Int) : lexI (p ++ l) (p ++ m) = lexI l m := by
  induction p with
  | nil => rfl
  | cons x r ih => simp only [List.cons_append, lexI, if_true, ih]
theorem lexI_irr (l : List Int) : lexI l l = false := by
  induction l with
  | nil => rfl
  | cons x r ih => simp only [lexI, if_true, ih]

/-- What going through the selections K makes of the best one. -/
def OkB (vs : List Nat) (t : Nat) (K : List Int → Prop) (B B' : Bst) : Prop :=
  (∀ m, K m → t ≤ sumI vs m → ∃ b, B' = some b ∧ b.2 ≤ sumI vs m) ∧
  (B' = B ∨ ∃ l, K l ∧ B' = some (l, sumI vs l) ∧ t ≤ sumI vs l ∧ (∀ b, B = some b → sumI vs l < b.2) ∧ ∀ m, K m → lexI m l = true → t ≤ sumI vs m → sumI vs l < sumI vs m)
theorem OkB.seq {vs : List Nat} {t : Nat} {K1 K2 K : List Int → Prop} {B B1 B2 : Bst} (h1 : OkB vs t K1 B B1) (h2 : OkB vs t K2 B1 B2) (hK : ∀ m, K m ↔ K1 m ∨ K2 m) (hlex : ∀ l m, K1 l → K2 m → lexI m l = false) : OkB vs t K B B2 := by
  constructor
  · intro m hm ht
    rcases (hK m).1 hm with hm | hm
    · obtain ⟨b, rfl, hb⟩ := h1.1 m hm ht
      rcases h2.2 with e | ⟨l, _, e, _, hlt, _⟩
      · exact ⟨b, e, hb⟩
      · exact ⟨_, e, by have := hlt b rfl; simp only; omega⟩
    · exact h2.1 m hm ht
  · rcases h2.2 with e | ⟨l, hl, e, htl, hlt, hfirst⟩
    · subst e
      rcases h1.2 with e | ⟨l, hl, e, htl, hlt, hfirst⟩
      · exact .inl e
      · refine .inr ⟨l, (hK l).2 (.inl hl), e, htl, hlt, fun m hm hlx htm => ?_⟩
        rcases (hK m).1 hm with hm | hm
        · exact hfirst m hm hlx htm
        · rw [hlex l m hl hm] at hlx; cases hlx
    · refine .inr ⟨l, (hK l).2 (.inr hl), e, htl, fun b hb => ?_, fun m hm hlx htm => ?_⟩
      · rcases h1.2 with e1 | ⟨l1, _, e1, _, hlt1, _⟩
        · exact hlt b (e1.trans hb)
        · have q1 := hlt1 b hb
          have q2 := hlt _ e1
          simp only at q2; omega
      · rcases (hK m).1 hm with hm | hm
        · obtain ⟨b, hb, hle⟩ := h1.1 m hm htm
          have := hlt b hb; omega
        · exact hfirst m hm hlx htm
theorem OkB.none {vs : List Nat} {t : Nat} {K : List Int → Prop} {B : Bst} (h : ∀ m, ¬ K m) : OkB vs t K B B := ⟨fun m hm => absurd hm (h m), .inl rfl⟩
theorem OkB.congr {vs : List Nat} {t : Nat} {K K' : List Int → Prop} {B B' : Bst} (h : OkB vs t K B B') (hK : ∀ m, K' m ↔ K m) : OkB vs t K' B B' :=
  ⟨fun m hm => h.1 m ((hK m).1 hm), by
    rcases h.2 with e | ⟨l, hl, e, a, b, c⟩
    · exact .inl e
    · exact .inr ⟨l, (hK l).2 hl, e, a, b, fun m hm => c m ((hK m).1 hm)⟩⟩
theorem OkB.done {vs : List Nat} {t : Nat} {K : List Int → Prop} {B : Bst} (h : B.isSome = true ∧ lst B = t) : OkB vs t K B B := by
  refine ⟨fun m _ ht => ?_, .inl rfl⟩
  cases B with
  | none => cases h.1
  | some b => exact ⟨b, rfl, by have : b.2 = t := h.2
                                omega⟩
theorem OkB.one {vs : List Nat} {t : Nat} {B : Bst} {now : List Int} : OkB vs t (fun m => m = now) B (updB t B now (sumI vs now)) := by
  unfold updB
  split
  · rename_i h
    refine ⟨fun m hm _ => ⟨_, rfl, by rw [hm]; exact Nat.le_refl _⟩, .inr ⟨now, rfl, rfl, h.1, fun b hb => ?_, fun m hm hlx => ?_⟩⟩
    · subst hb
      rcases h.2 with e | e
      · cases e
      · exact e
    · rw [hm, lexI_irr] at hlx; cases hlx
  · rename_i h
    refine ⟨fun m hm ht => ?_, .inl rfl⟩
    cases B with
    | none => exact absurd ⟨hm ▸ ht, .inl rfl⟩ h
    | some b =>
      refine ⟨b, rfl, ?_⟩
      rw [hm]
      rcases Nat.lt_or_ge (sumI vs now) b.2 with q | q
      · exact absurd ⟨hm ▸ ht, .inr q⟩ h
      · exact q

theorem asc_len {n p : Int} {l : List Int} (h : ascF n p l = true) (hp : p < n) : p + l.length < n := by
  induction l generalizing p with
  | nil => simp; exact hp
  | cons y r ih =>
    unfold ascF at h
    split at h
    · cases h
    · have := ih h (by omega)
      simp only [List.length_cons]; omega
theorem asc_cons {n p x : Int} {r : List Int} : ascF n p (x :: r) = true ↔ p < x ∧ x < n ∧ ascF n x r = true := by
  conv => lhs; unfold ascF
  split
  · constructor
    · intro h; cases h
    · rintro ⟨h1, h2, _⟩; omega
  · constructor
    · intro h; exact ⟨by omega, by omega, h⟩
    · exact fun h => h.2.2
theorem lexI_head {x y : Int} (h : x < y) (a b : List Int) : lexI (y :: b) (x :: a) = false := by
  unfold lexI
  rw [if_neg (by omega), decide_eq_false (by omega)]

/-- The selections that go on from now. -/
def Ext' (n : Nat) (m : Nat) (p : Int) (now : List Int) (s : List Int) : Prop := ∃ c, s = now ++ c ∧ ascF n p c = true ∧ c.length = m
theorem lo_ok {vs : List Nat} {t m : Nat} {now : List Int} {f : Nat → Bst → Bst} (hf : ∀ (j : Nat) (B : Bst), OkB vs t (Ext' vs.length m j (now ++ [(j : Int)])) B (f j B)) : ∀ (k i : Nat) (B : Bst), i + k ≤ vs.length →
    OkB vs t (fun s => ∃ (x : Nat) (r : List Int), s = now ++ ((x : Int) :: r) ∧ i ≤ x ∧ x < i + k ∧ ascF vs.length x r = true ∧ r.length = m) B (lo f k i B)
  | 0, i, B, _ => OkB.none (by rintro s ⟨x, r, _, h1, h2, _⟩; omega)
  | k + 1, i, B, hk => by
    refine OkB.seq (hf i B) (lo_ok hf k (i + 1) (f i B) (by omega)) (fun s => ?_) ?_
    · constructor
      · rintro ⟨x, r, rfl, h1, h2, h3, h4⟩
        by_cases e : x = i
        · subst e; left; exact ⟨r, by simp, h3, h4⟩
        · right; exact ⟨x, r, rfl, by omega, by omega, h3, h4⟩
      · rintro (⟨c, rfl, h3, h4⟩ | ⟨x, r, rfl, h1, h2, h3, h4⟩)
        · exact ⟨i, c, by simp, Nat.le_refl _, by omega, h3, h4⟩
        · exact ⟨x, r, rfl, by omega, by omega, h3, h4⟩
    · rintro l s ⟨c, rfl, _, _⟩ ⟨x, r, rfl, h1, _, _, _⟩
      rw [List.append_assoc, lexI_app]
      exact lexI_head (by omega) _ _
theorem from_ok (vs : List Nat) (t : Nat) : ∀ (m i : Nat) (sum : Nat) (now : List Int) (B : Bst), sum = sumI vs now → OkB vs t (Ext' vs.length m ((i : Int) - 1) now) B (fromM vs t m i sum now B)
  | 0, i, sum, now, B, hs => by
    unfold fromM
    split
    · rename_i h; exact OkB.done h
    · rw [hs]
      refine OkB.congr OkB.one fun s => ?_
      constructor
      · rintro ⟨c, rfl, _, hc⟩
        rw [List.eq_nil_of_length_eq_zero hc, List.append_nil]
      · rintro rfl; exact ⟨[], by simp, rfl, rfl⟩
  | m + 1, i, sum, now, B, hs => by
    unfold fromM
    split
    · rename_i h; exact OkB.done h
    · by_cases hk : i + m ≤ vs.length
      · refine OkB.congr (lo_ok (m := m) (now := now) (fun j B => ?_) (vs.length - (i + m)) i B (by omega)) fun s => ?_
        · have := from_ok vs t m (j + 1) (sum + vs.getD j 0) (now ++ [(j : Int)]) B (by rw [sumI_app, hs]; simp [sumI])
          rw [show ((j + 1 : Nat) : Int) - 1 = (j : Int) from by omega] at this
          exact this
        · constructor
          · rintro ⟨c, rfl, h1, h2⟩
            cases c with
            | nil => cases h2
            | cons x r =>
              obtain ⟨q1, q2, q3⟩ := asc_cons.1 h1
              have q4 := asc_len q3 q2
              have q5 : r.length = m := by simpa using h2
              refine ⟨x.toNat, r, by rw [show ((x.toNat : Nat) : Int) = x from by omega], by omega, by omega, ?_, q5⟩
              rw [show ((x.toNat : Nat) : Int) = x from by omega]; exact q3
          · rintro ⟨x, r, rfl, h1, h2, h3, h4⟩
            exact ⟨_, rfl, asc_cons.2 ⟨by omega, by omega, h3⟩, by simp [h4]⟩
      · rw [show vs.length - (i + m) = 0 from by omega]
        refine OkB.none ?_
        rintro s ⟨c, rfl, h1, h2⟩
        cases c with
        | nil => cases h2
        | cons x r =>
          obtain ⟨q1, q2, q3⟩ := asc_cons.1 h1
          have q4 := asc_len q3 q2
          have q5 : r.length = m := by simpa using h2
          omega

/-- The best selection of k positions. -/
theorem best_ok (vs : List Nat) (t k : Nat) (hex : ∃ m, ascF vs.length (-1) m = true ∧ m.length = k ∧ t ≤ sumI vs m) :
    ∃ l, fromM vs t k 0 0 [] none = some (l, sumI vs l) ∧ ascF vs.length (-1) l = true ∧ l.length = k ∧ t ≤ sumI vs l ∧
      ∀ m, ascF vs.length (-1) m = true → m.length = k → t ≤ sumI vs m → sumI vs l ≤ sumI vs m ∧ (lexI m l = true → sumI vs l < sumI vs m) := by
  have h := from_ok vs t k 0 0 [] none rfl
  have hK : ∀ m, ascF vs.length (-1) m = true → m.length = k → Ext' vs.length k (((0 : Nat) : Int) - 1) [] m := fun m h1 h2 => ⟨m, rfl, h1, h2⟩
  obtain ⟨m, h1, h2, h3⟩ := hex
  obtain ⟨b, hb, _⟩ := h.1 m (hK m h1 h2) h3
  rcases h.2 with e | ⟨l, ⟨c, hc, q1, q2⟩, e, htl, _, hfirst⟩
  · rw [hb] at e; cases e
  · have hlc : l = c := by simpa using hc
    subst hlc
    refine ⟨l, e, q1, q2, htl, fun m' a1 a2 a3 => ⟨?_, fun hlx => hfirst m' (hK m' a1 a2) hlx a3⟩⟩
    obtain ⟨b', hb', hle⟩ := h.1 m' (hK m' a1 a2) a3
    rw [e] at hb'
    injection hb' with hb'
    rw [← hb'] at hle
    exact hle
end Go.Proofs.Ytndiaamoapidoaa
