/- Plain: the steps of elimination, one by one, as the walk needs them. -/
import Derived.Test.YtcnbinjoeilfgaaLn5
namespace Go.Proofs.Ytcnbinjoeilfgaa
open Go.RowKit
structure ElOk (p W n : Nat) (s : ElS) : Prop where
  len : s.1.length = n
  red : Redd p W s.1
  piv : s.2.1.length ≤ n
  fac : s.2.2 < p
theorem stepE_skip {p c : Nat} {rows : List (List Nat)} {piv : List Nat} {fac : Nat} (h : findE rows c piv.length = rows.length) : stepE p c (rows, piv, fac) = (rows, piv, fac) := by
  unfold stepE; rw [if_pos h]
theorem stepE_go {p c F t fac1 n : Nat} {rows R1 : List (List Nat)} {piv : List Nat} {fac : Nat} (ht : t = piv.length) (hn : rows.length = n) (hF : F = findE rows c t) (hne : F ≠ n) (hR : R1 = swR rows F t) (hfac : fac1 = if F = t then fac else fneg p fac) :
    stepE p c (rows, piv, fac) = (elK p c t (nrR p R1 c t) n, piv ++ [c], fmul p fac1 (pivV R1 c t)) := by
  subst ht hn hF hR hfac
  unfold stepE; rw [if_neg hne]
theorem ElOk.step {p W n c : Nat} {s : ElS} (hv : vld p = true) (h : ElOk p W n s) : ElOk p W n (stepE p c s) := by
  obtain ⟨rows, piv, fac⟩ := s
  obtain ⟨h1, h2, h3, h4⟩ := h
  simp only at h1 h2 h3 h4
  have sp := findE_spec (rows := rows) (c := c) (t := piv.length) (by omega)
  by_cases e : findE rows c piv.length = rows.length
  · rw [stepE_skip e]; exact ⟨h1, h2, h3, h4⟩
  · rw [stepE_go rfl h1 rfl (by omega) rfl rfl]
    have hF : findE rows c piv.length < rows.length := by have := sp.2.1; omega
    have ht : piv.length < rows.length := by have := sp.1; omega
    refine ⟨by simp only; rw [elK_len, nrR_len, swR_len]; exact h1, ?_, by simp; omega, Q.fmul_lt hv⟩
    exact Redd.el hv (Redd.nr hv (Redd.sw h2 hF ht) c (by rw [swR_len]; exact ht)) c _ _
theorem elimE_ok {p W n : Nat} {r0 : List (List Nat)} (hv : vld p = true) (hr : Redd p W r0) (hn : r0.length = n) : ∀ c, ElOk p W n (elimE p r0 c)
  | 0 => ⟨hn, hr, Nat.zero_le _, by have := vld_bd hv; show 1 < p; omega⟩
  | c + 1 => ElOk.step hv (elimE_ok hv hr hn c)
theorem findP_more {rows : List (List Nat)} {c k n F : Nat} (hk : k < n) (h : findP rows c (n - k) k = F) (hz : (rows.getD k []).getD c 0 = 0) : findP rows c (n - (k + 1)) (k + 1) = F := by
  obtain ⟨m, hm⟩ : ∃ m, n - k = m + 1 := ⟨n - k - 1, by omega⟩
  rw [hm] at h
  rw [show n - (k + 1) = m by omega]
  unfold findP at h; rw [if_pos hz] at h; exact h
theorem findP_here {rows : List (List Nat)} {c k n F : Nat} (hk : k < n) (h : findP rows c (n - k) k = F) (hz : (rows.getD k []).getD c 0 ≠ 0) : F = k := by
  obtain ⟨m, hm⟩ : ∃ m, n - k = m + 1 := ⟨n - k - 1, by omega⟩
  rw [hm] at h
  unfold findP at h; rw [if_neg hz] at h; exact h.symm
theorem findP_none {rows : List (List Nat)} {c n F : Nat} (h : findP rows c (n - n) n = F) : F = n := by
  rw [Nat.sub_self] at h; exact h.symm
theorem swR_ne {rows : List (List Nat)} {k t : Nat} (h : k ≠ t) : (rows.set k (rows.getD t [])).set t (rows.getD k []) = swR rows k t := by unfold swR; rw [if_neg h]
theorem swR_eq (rows : List (List Nat)) (t : Nat) : rows = swR rows t t := by unfold swR; rw [if_pos rfl]
theorem nrK_len (p inv : Nat) (r : List Nat) (j : Nat) : (nrK p inv r j).length = r.length := by unfold nrK; rw [tab_len]
theorem nrK_zero (p inv : Nat) (r : List Nat) : nrK p inv r 0 = r := by
  unfold nrK
  rw [tab_congr (G := fun k => r.getD k 0) (fun k _ => by rw [if_neg (by omega)])]
  exact (list_tab r).symm
theorem nrK_at {p inv : Nat} {r : List Nat} {j : Nat} (h : j < r.length) : (nrK p inv r j).getD j 0 = r.getD j 0 := by
  unfold nrK; rw [tab_get _ _ _ h, if_neg (by omega)]
theorem nrK_step (p inv : Nat) (r : List Nat) (j : Nat) : (nrK p inv r j).set j (fmul p (r.getD j 0) inv) = nrK p inv r (j + 1) := by
  unfold nrK
  refine tab_upd fun s _ => ?_
  by_cases e : s = j
  · subst e; rw [if_pos (by omega), if_pos rfl]
  · rw [if_neg e]
    by_cases h : s < j
    · rw [if_pos h, if_pos (by omega)]
    · rw [if_neg h, if_neg (by omega)]
theorem elJ_len (p x : Nat) (t r : List Nat) (j : Nat) : (elJ p x t r j).length = r.length := by unfold elJ; rw [tab_len]
theorem elJ_zero (p x : Nat) (t r : List Nat) : elJ p x t r 0 = r := by
  unfold elJ
  rw [tab_congr (G := fun k => r.getD k 0) (fun k _ => by rw [if_neg (by omega)])]
  exact (list_tab r).symm
theorem elJ_at {p x : Nat} {t r : List Nat} {j : Nat} (h : j < r.length) : (elJ p x t r j).getD j 0 = r.getD j 0 := by
  unfold elJ; rw [tab_get _ _ _ h, if_neg (by omega)]
theorem elJ_step (p x : Nat) (t r : List Nat) (j : Nat) : (elJ p x t r j).set j (fsub p (r.getD j 0) (fmul p x (t.getD j 0))) = elJ p x t r (j + 1) := by
  unfold elJ
  refine tab_upd fun s _ => ?_
  by_cases e : s = j
  · subst e; rw [if_pos (by omega), if_pos rfl]
  · rw [if_neg e]
    by_cases h : s < j
    · rw [if_pos h, if_pos (by omega)]
    · rw [if_neg h, if_neg (by omega)]
theorem elK_zero (p c t : Nat) (R : List (List Nat)) : elK p c t R 0 = R := by
  unfold elK
  apply List.ext_getElem
  · simp
  · intro i h1 h2
    simp [List.getD, h2]
theorem elK_set {p c t i : Nat} {R : List (List Nat)} (hi : i < R.length) : (elK p c t R i).set i (elRow p c t R i) = elK p c t R (i + 1) := by
  apply List.ext_getElem
  · rw [List.length_set, elK_len, elK_len]
  · intro k h1 h2
    have hk : k < R.length := by rw [elK_len] at h2; exact h2
    have e1 := set_getD (elK p c t R i) [] (elRow p c t R i) i k (by rw [elK_len]; exact hi)
    rw [elK_get hk] at e1
    have e2 := elK_get (p := p) (c := c) (t := t) (i := i + 1) hk
    rw [List.getD_eq_getElem?_getD, List.getElem?_eq_getElem h1, Option.getD_some] at e1
    rw [List.getD_eq_getElem?_getD, List.getElem?_eq_getElem h2, Option.getD_some] at e2
    rw [e1, e2]
    by_cases e : k = i
    · subst e; rw [if_pos rfl, if_pos (by omega)]
    · rw [if_neg e]
      by_cases h : k < i
      · rw [if_pos h, if_pos (by omega)]
      · rw [if_neg h, if_neg (by omega)]
theorem elK_keep {p c t i : Nat} {R : List (List Nat)} (hi : i < R.length) (h : i = t ∨ (R.getD i []).getD c 0 = 0) : elK p c t R (i + 1) = elK p c t R i := by
  rw [← elK_set hi]
  have e : elRow p c t R i = (elK p c t R i).getD i [] := by
    rw [elK_get hi, if_neg (by omega)]; unfold elRow; rw [if_pos h]
  rw [e]
  apply List.ext_getElem
  · rw [List.length_set]
  · intro k h1 h2
    have e1 := set_getD (elK p c t R i) [] ((elK p c t R i).getD i []) i k (by rw [elK_len]; exact hi)
    rw [List.getD_eq_getElem?_getD, List.getElem?_eq_getElem h1, Option.getD_some] at e1
    rw [e1]
    by_cases e : k = i
    · subst e; rw [if_pos rfl, List.getD_eq_getElem?_getD, List.getElem?_eq_getElem h2, Option.getD_some]
    · rw [if_neg e, List.getD_eq_getElem?_getD, List.getElem?_eq_getElem h2, Option.getD_some]
theorem elK_do {p c t i W : Nat} {R : List (List Nat)} (hi : i < R.length) (hit : i ≠ t) (hz : (R.getD i []).getD c 0 ≠ 0) (hW : (R.getD i []).length = W) :
    (elK p c t R i).set i (elJ p ((R.getD i []).getD c 0) (R.getD t []) (R.getD i []) W) = elK p c t R (i + 1) := by
  rw [← elK_set hi]
  congr 1
  subst hW
  unfold elRow; rw [if_neg (fun q => q.elim hit hz)]
theorem elK_row {p c t i : Nat} {R : List (List Nat)} (hi : i < R.length) : (elK p c t R i).getD i [] = R.getD i [] := by rw [elK_get hi, if_neg (by omega)]
theorem elK_top {p c t i : Nat} {R : List (List Nat)} (ht : t < R.length) : (elK p c t R i).getD t [] = R.getD t [] := by
  rw [elK_get ht]
  split
  · unfold elRow; rw [if_pos (.inl rfl)]
  · rfl
theorem set_self {α : Type} {l : List α} {i : Nat} {d : α} (_hi : i < l.length) : l.set i (l.getD i d) = l := by
  apply List.ext_getElem
  · rw [List.length_set]
  · intro k h1 h2
    rw [List.getElem_set]
    by_cases e : i = k
    · subst e; rw [if_pos rfl]; simp [List.getD, h2]
    · rw [if_neg e]
theorem set_at {α : Type} {l : List α} {i : Nat} {d x : α} (hi : i < l.length) : (l.set i x).getD i d = x := by rw [set_getD _ _ _ _ _ hi, if_pos rfl]
theorem set_off {α : Type} {l : List α} {i k : Nat} {d x : α} (hi : i < l.length) (h : k ≠ i) : (l.set i x).getD k d = l.getD k d := by rw [set_getD _ _ _ _ _ hi, if_neg h]
theorem nrR_set {p W c t : Nat} {R : List (List Nat)} (hW : (R.getD t []).length = W) : R.set t (nrK p (finv p (pivV R c t)) (R.getD t []) W) = nrR p R c t := by
  subst hW; rfl
/-- The state as the outer loop has it. -/
def ElRel (p gm hb width : Nat) (r0 : List (List Nat)) (w0 : World) (s8 s9 s22 : Value) (wr : World) : Prop :=
  ∃ (c : Nat) (L : List SlC), s22 = .int .i64 c ∧ c ≤ width ∧ s9 = .int .u64 (((elimE p r0 c).2.2 : Nat) : Int) ∧ EInv w0 p hb gm L (elimE p r0 c).1 s8 ((elimE p r0 c).2.1.map Int.ofNat) wr
def FdRel (rows : List (List Nat)) (c F n : Nat) (w1 : World) (s : Value) (wr : World) : Prop :=
  ∃ k : Nat, s = .int .i64 k ∧ k ≤ n ∧ findP rows c (n - k) k = F ∧ wr = w1
def NrRel (w0 : World) (p hb gm inv t W : Nat) (L : List SlC) (R : List (List Nat)) (v : Value) (pl : List Int) (s : Value) (wr : World) : Prop :=
  ∃ j : Nat, s = .int .i64 j ∧ j ≤ W ∧ EInv w0 p hb gm L (R.set t (nrK p inv (R.getD t []) j)) v pl wr
def ElkRel (w0 : World) (p hb gm c t n : Nat) (L : List SlC) (R : List (List Nat)) (v : Value) (pl : List Int) (s : Value) (wr : World) : Prop :=
  ∃ i : Nat, s = .int .i64 i ∧ i ≤ n ∧ EInv w0 p hb gm L (elK p c t R i) v pl wr
def EljRel (w0 : World) (p hb gm i x W : Nat) (tr r : List Nat) (L : List SlC) (E : List (List Nat)) (v : Value) (pl : List Int) (s : Value) (wr : World) : Prop :=
  ∃ j : Nat, s = .int .i64 j ∧ j ≤ W ∧ EInv w0 p hb gm L (E.set i (elJ p x tr r j)) v pl wr
end Go.Proofs.Ytcnbinjoeilfgaa
