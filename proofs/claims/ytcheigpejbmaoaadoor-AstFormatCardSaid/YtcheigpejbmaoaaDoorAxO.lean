/- Slices of records, opened: what a reading says of where the elements lie. -/
import Derived.Test.YtcheigpejbmaoaaDoorTyO
import Derived.Test.YtcheigpejbmaoaaDoorAxB
import Derived.SizedLaws
namespace Go.Proofs.YtcheigpejbmaoaaDoor
open Go.ChangeShapes Go.WideShapes Go.ChangeAt Go.RowKit Go.Joins
theorem choose_list {T : Type} (p : Nat → T → Prop) : ∀ n, (∀ i, i < n → ∃ x, p i x) → ∃ l : List T, l.length = n ∧ ∀ (i : Nat) x, l[i]? = some x → p i x
  | 0, _ => ⟨[], rfl, fun i x h => by simp at h⟩
  | n + 1, h => by
    obtain ⟨l, hl, hp⟩ := choose_list p n (fun i hi => h i (by omega))
    obtain ⟨x, hx⟩ := h n (by omega)
    refine ⟨l ++ [x], by simp [hl], fun i u hu => ?_⟩
    rcases Nat.lt_or_ge i n with q | q
    · rw [List.getElem?_append_left (by omega)] at hu
      exact hp i u hu
    · have hi : i < (l ++ [x]).length := by
        rcases Nat.lt_or_ge i (l ++ [x]).length with q' | q'
        · exact q'
        · rw [List.getElem?_eq_none q'] at hu; cases hu
      simp [hl] at hi
      obtain rfl : i = n := by omega
      rw [List.getElem?_append_right (by omega), hl, Nat.sub_self] at hu
      simp at hu
      rw [← hu]; exact hx
/-- The cells of an element of a slice. -/
def AtG (w : World) (k : Nat) (a : Option Addr) (i : Nat) (cs : List Value) : Prop := ∃ b o, a = some ⟨b, o, none⟩ ∧ ∀ (j : Nat) v, cs[j]? = some v → w.cell? ⟨b, o + i * k + j, none⟩ = some v
theorem weightsAll_in {H : Type} {P : Program} {e : TypeId} : ∀ {l : List (DataW H)} {d : DataW H}, d ∈ l → ∀ n ∈ d.weights P e, n ∈ DataW.weightsAll P e l
  | [], _, h, _, _ => by cases h
  | x :: l, d, h, n, hn => by
    show n ∈ x.weights P e ++ DataW.weightsAll P e l
    rw [List.mem_append]
    rcases List.mem_cons.1 h with rfl | h'
    · exact .inl hn
    · exact .inr (weightsAll_in h' n hn)
section
variable {H : Type} {enc : TypeId × Value → H} {P : Program} {W : World}
theorem slice_of {T : Type} {t e : TypeId} {k : Nat} (csT : T → List Value) (In : T → Prop) (ht : P.underlying t = some (.slice e)) (hk : P.cellsOf e = k) (hk1 : 1 ≤ k) (hb1 : 1 ≤ P.bytesOf e)
    {fuel : Nat} {cs : List Value} {y : DataW H × List MemPlace} (hel : ∀ m, m < fuel → ∀ cs y, DataW.trod enc P W 0 (fun _ => true) true m e cs = some y → (∀ n ∈ y.1.weights P e, n ≤ reachBytes) → ∃ x : T, cs = csT x ∧ In x)
    (h : DataW.trod enc P W 0 (fun _ => true) true fuel t cs = some y) (hw : ∀ n ∈ y.1.weights P t, n ≤ reachBytes) :
    ∃ (a : Option Addr) (c : Nat) (l : List T), cs = [.slice a l.length c] ∧ l.length ≤ c ∧ c ≤ maxLen ∧ l.length ≤ 140737488355328 ∧ ∀ (i : Nat) x, l[i]? = some x → AtG W k a i (csT x) ∧ In x := by
  rcases DataW.trod_slice ht h with ⟨hcs, _⟩ | ⟨a, len, cap, elems, rest, n, hf, hcs, hy, _, hlc, hcm, hlen, hE, _, _⟩
  · exact ⟨none, 0, [], hcs, Nat.le_refl _, Nat.zero_le _, Nat.zero_le _, fun i x hi => by simp at hi⟩
  · have hy1 : y.1 = .slice (elems.map (·.1)) (rest.map (·.1)) := by rw [hy]
    have hws : y.1.weights P t = ((elems.map (·.1)).length + (rest.map (·.1)).length) * P.bytesOf e :: (DataW.weightsAll P e (elems.map (·.1)) ++ DataW.weightsAll P e (rest.map (·.1))) := by
      rw [hy1]; simp only [DataW.weights, ht]
    have hb : len ≤ reachBytes := by
      have h1 := hw _ (by rw [hws]; exact List.mem_cons_self ..)
      simp only [List.length_map, hlen] at h1
      calc len ≤ len + rest.length := Nat.le_add_right _ _
        _ = (len + rest.length) * 1 := (Nat.mul_one _).symm
        _ ≤ (len + rest.length) * P.bytesOf e := Nat.mul_le_mul_left _ hb1
        _ ≤ reachBytes := h1
    have hall : ∀ i, i < len → ∃ x : T, AtG W k (some a) i (csT x) ∧ In x := fun i hi => by
      have h1 := hE i hi
      rw [List.getElem?_eq_getElem (by omega)] at h1
      rw [Option.bind_eq_some_iff] at h1
      obtain ⟨cs', h2, h3⟩ := h1
      obtain ⟨x, rfl, hin⟩ := hel n (by omega) cs' _ h3 (fun m hm => hw m (by
        rw [hws]
        refine List.mem_cons_of_mem _ (List.mem_append_left _ (weightsAll_in (List.mem_map.2 ⟨_, List.getElem_mem (by omega), rfl⟩) m hm))))
      rw [hk] at h2
      obtain ⟨_, hl2, hc⟩ := World.cells?_some h2
      have hs : a.spot = none := by
        have h1' := hE 0 (by omega)
        rw [List.getElem?_eq_getElem (by omega), Option.bind_eq_some_iff] at h1'
        obtain ⟨cs0, h2', _⟩ := h1'
        rw [hk] at h2'
        obtain ⟨_, hl0, hc0⟩ := World.cells?_some h2'
        have h4 := hc0 0 (by omega)
        rw [List.getElem?_eq_getElem (by omega), Nat.zero_mul, Addr.add_zero', Addr.add_zero'] at h4
        unfold World.cell? at h4
        cases hsp : a.spot with
        | none => rfl
        | some q =>
          split at h4
          · simp [hsp] at h4
          · cases h4
      obtain ⟨b, o, sp⟩ := a
      simp only at hs
      subst hs
      refine ⟨x, ⟨b, o, rfl, fun j v hj => ?_⟩, hin⟩
      have hjk : j < k := by
        rcases Nat.lt_or_ge j (csT x).length with q | q
        · omega
        · rw [List.getElem?_eq_none q] at hj; cases hj
      have h5 := hc j hjk
      rw [hj, Addr.add_lit, Addr.add_lit] at h5
      exact h5
    obtain ⟨l, hl, hp⟩ := choose_list _ len hall
    refine ⟨some a, cap, l, by rw [hcs, hl], by omega, hcm, ?_, hp⟩
    have := reachBytes_lt
    omega
end
end Go.Proofs.YtcheigpejbmaoaaDoor
