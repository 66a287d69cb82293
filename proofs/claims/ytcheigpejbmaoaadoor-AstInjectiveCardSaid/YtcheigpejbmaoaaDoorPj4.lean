/- Plain: the text of a well-formed program determines it. -/
import Derived.Test.YtcheigpejbmaoaaDoorPj3
import Derived.Test.YtcheigpejbmaoaaDoorTx1
import Derived.Test.YtcheigpejbmaoaaDoorAxC
namespace Go.Proofs.YtcheigpejbmaoaaDoor
open Go.RowKit
theorem nm_inj {n m : ByteArray} (hn : nameOk n = true) (hm : nameOk m = true) {s t : List UInt8} (hs : ∀ c u, s = c :: u → nb c = false) (ht : ∀ c u, t = c :: u → nb c = false) (h : n.data.toList ++ s = m.data.toList ++ t) : n = m ∧ s = t := by
  obtain ⟨a1, a2⟩ := takeW _ s (nameOk_all hn) hs
  obtain ⟨b1, b2⟩ := takeW _ t (nameOk_all hm) ht
  rw [h] at a1 a2
  have e := a1.symm.trans b1
  refine ⟨?_, a2.symm.trans b2⟩
  rw [← Lib.mk_data n, ← Lib.mk_data m, e]
theorem dg_inj {u v : Nat} {s t : List UInt8} (hs : ∀ c w, s = c :: w → dgt c = false) (ht : ∀ c w, t = c :: w → dgt c = false) (h : Lib.decDigits u ++ s = Lib.decDigits v ++ t) : u = v ∧ s = t := by
  obtain ⟨a1, a2⟩ := takeW _ s (dec_dig u) hs
  obtain ⟨b1, b2⟩ := takeW _ t (dec_dig v) ht
  rw [h] at a1 a2
  exact ⟨dec_inj (a1.symm.trans b1), a2.symm.trans b2⟩
theorem hdc {p : UInt8 → Bool} {b : Bool} {c : UInt8} (h : p c = b) (t : List UInt8) : ∀ d u, c :: t = d :: u → p d = b := fun d u e => by injection e with e1 e2; rw [← e1]; exact h
theorem tyB_hd (n : Int) (s : List UInt8) (hs : ∀ c u, s = c :: u → nb c = false ∧ c ≠ 91) : ∀ c u, tyB n ++ s = c :: u → dgt c = false := by
  intro c u e
  unfold tyB at e
  by_cases h : 0 < n
  · rw [if_pos h] at e
    injection e with e1 e2
    rw [← e1]; decide
  · rw [if_neg h] at e
    have := (hs c u e).1
    cases hd : dgt c
    · rfl
    · rw [dgt_nb hd] at this; cases this
theorem tyB_inj {n m : Int} (hn : 0 ≤ n) (hm : 0 ≤ m) {s t : List UInt8} (hs : ∀ c u, s = c :: u → nb c = false ∧ c ≠ 91) (ht : ∀ c u, t = c :: u → nb c = false ∧ c ≠ 91) (h : tyB n ++ s = tyB m ++ t) : n = m ∧ s = t := by
  unfold tyB at h
  by_cases h1 : 0 < n
  · rw [if_pos h1] at h
    by_cases h2 : 0 < m
    · rw [if_pos h2] at h
      simp only [List.append_assoc, List.cons_append, List.nil_append, List.cons.injEq, true_and] at h
      obtain ⟨q1, q2⟩ := dg_inj (hdc (p := dgt) (b := false) (by decide) _) (hdc (p := dgt) (b := false) (by decide) _) h
      simp only [List.cons.injEq, true_and] at q2
      exact ⟨by omega, q2⟩
    · rw [if_neg h2] at h
      exact absurd rfl (ht 91 _ h.symm).2
  · rw [if_neg h1] at h
    by_cases h2 : 0 < m
    · rw [if_pos h2] at h
      exact absurd rfl (hs 91 _ h).2
    · rw [if_neg h2] at h
      exact ⟨by omega, h⟩
theorem ty_inj {x y : Ty} (hx : tyOk x.k x.b x.n = true) (hy : tyOk y.k y.b y.n = true) {s t : List UInt8} (hs : ∀ c u, s = c :: u → nb c = false ∧ c ≠ 91) (ht : ∀ c u, t = c :: u → nb c = false ∧ c ≠ 91) (h : tyTx x.k x.b x.n ++ s = tyTx y.k y.b y.n ++ t) : x = y ∧ s = t := by
  obtain ⟨k, b, n⟩ := x
  obtain ⟨k', b', n'⟩ := y
  simp only at hx hy h
  unfold tyOk at hx hy
  simp only [Bool.and_eq_true, decide_eq_true_eq] at hx hy
  obtain ⟨n0, n1, hk⟩ := hx
  obtain ⟨m0, m1, hk'⟩ := hy
  unfold tyTx at h
  rw [List.append_assoc, List.append_assoc] at h
  have A : ∀ (k b : Int), (if k = 1 ∨ k = 2 then decide (b = 0) else if k = 3 then decide (1 ≤ b) && decide (b ≤ 62) else false) = true → (k = 1 ∧ b = 0) ∨ (k = 2 ∧ b = 0) ∨ (k = 3 ∧ 1 ≤ b) := fun k b h => by
    by_cases h1 : k = 1 ∨ k = 2
    · rw [if_pos h1] at h
      have := of_decide_eq_true h
      omega
    · rw [if_neg h1] at h
      by_cases h3 : k = 3
      · rw [if_pos h3] at h
        simp only [Bool.and_eq_true, decide_eq_true_eq] at h
        omega
      · rw [if_neg h3] at h; cases h
  rcases A k b hk with ⟨rfl, rfl⟩ | ⟨rfl, rfl⟩ | ⟨rfl, hb⟩ <;> rcases A k' b' hk' with ⟨rfl, rfl⟩ | ⟨rfl, rfl⟩ | ⟨rfl, hb'⟩
  · have h' : tyB n ++ s = tyB n' ++ t := by simpa [tyA] using h
    obtain ⟨rfl, q⟩ := tyB_inj n0 m0 hs ht h'
    exact ⟨rfl, q⟩
  · simp [tyA] at h
  · simp [tyA] at h
  · simp [tyA] at h
  · have h' : tyB n ++ s = tyB n' ++ t := by simpa [tyA] using h
    obtain ⟨rfl, q⟩ := tyB_inj n0 m0 hs ht h'
    exact ⟨rfl, q⟩
  · simp [tyA] at h
  · simp [tyA] at h
  · simp [tyA] at h
  · have h' : Lib.decDigits b.toNat ++ (tyB n ++ s) = Lib.decDigits b'.toNat ++ (tyB n' ++ t) := by simpa [tyA] using h
    obtain ⟨e1, e2⟩ := dg_inj (tyB_hd n s hs) (tyB_hd n' t ht) h'
    obtain ⟨rfl, q⟩ := tyB_inj n0 m0 hs ht e2
    obtain rfl : b = b' := by omega
    exact ⟨rfl, q⟩
theorem lines_inj {T : Type} (sep : UInt8) (tx : T → List UInt8) (ok : T → Bool) (eq : T → T → Bool) (st : List UInt8 → Prop) (hst : ∀ x s, ok x = true → st (tx x ++ s)) :
    ∀ (l l' : List T) (s t : List UInt8), (∀ x ∈ l, ∀ y s t, ok x = true → ok y = true → tx x ++ (sep :: s) = tx y ++ (sep :: t) → eq x y = true ∧ s = t) → l.all ok = true → l'.all ok = true → ¬ st s → ¬ st t → linesL sep tx l ++ s = linesL sep tx l' ++ t → eqL eq l l' = true ∧ s = t
  | [], [], s, t, _, _, _, _, _, h => ⟨rfl, h⟩
  | [], y :: l', s, t, _, _, h2, h3, _, h => by
    rw [List.all_cons, Bool.and_eq_true] at h2
    have h' : s = (tx y ++ (sep :: linesL sep tx l')) ++ t := h
    rw [List.append_assoc] at h'
    exact absurd (hst y _ h2.1) (by rw [← h']; exact h3)
  | x :: l, [], s, t, _, h1, _, _, h4, h => by
    rw [List.all_cons, Bool.and_eq_true] at h1
    have h' : (tx x ++ (sep :: linesL sep tx l)) ++ s = t := h
    rw [List.append_assoc] at h'
    exact absurd (hst x _ h1.1) (by rw [h']; exact h4)
  | x :: l, y :: l', s, t, hi, h1, h2, h3, h4, h => by
    rw [List.all_cons, Bool.and_eq_true] at h1 h2
    have h' : (tx x ++ (sep :: linesL sep tx l)) ++ s = (tx y ++ (sep :: linesL sep tx l')) ++ t := h
    rw [List.append_assoc, List.append_assoc, List.cons_append, List.cons_append] at h'
    obtain ⟨q1, q2⟩ := hi x (List.mem_cons_self ..) y _ _ h1.1 h2.1 h'
    obtain ⟨q3, q4⟩ := lines_inj sep tx ok eq st hst l l' s t (fun u hu => hi u (List.mem_cons_of_mem _ hu)) h1.2 h2.2 h3 h4 q2
    exact ⟨by rw [eqL_cons, q1, q3]; rfl, q4⟩
theorem okS_kind {x : S} (h : okS x = true) : (x.kind = 1 ∧ (if x.typed = true then tyOk x.t.k x.t.b x.t.n else eqT x.t ⟨0, 0, 0⟩) = true ∧ nameOk x.name = true ∧ okE x.e = true ∧ x.lo = 0 ∧ x.hi = 0 ∧ x.body = []) ∨
    (x.kind = 2 ∧ x.name.size = 0 ∧ x.typed = false ∧ x.t = ⟨0, 0, 0⟩ ∧ okE x.e = true ∧ x.lo = 0 ∧ x.hi = 0 ∧ x.body = []) ∨
    (x.kind = 3 ∧ nameOk x.name = true ∧ x.typed = false ∧ x.t = ⟨0, 0, 0⟩ ∧ emE x.e = true ∧ 0 ≤ x.lo ∧ 0 ≤ x.hi ∧ x.body.all okS = true) := by
  rw [okS_eq] at h
  by_cases h1 : x.kind = 1
  · rw [if_pos h1] at h
    simp only [Bool.and_eq_true, decide_eq_true_eq] at h
    obtain ⟨a, b, c, d, e, f⟩ := h
    exact .inl ⟨h1, a, b, c, d, e, List.length_eq_zero_iff.1 f⟩
  rw [if_neg h1] at h
  by_cases h2 : x.kind = 2
  · rw [if_pos h2] at h
    simp only [Bool.and_eq_true, decide_eq_true_eq, Bool.not_eq_true'] at h
    obtain ⟨a, ⟨b, b2⟩, c, d, e, f⟩ := h
    exact .inr (.inl ⟨h2, a, b, eqT_eq b2, c, d, e, List.length_eq_zero_iff.1 f⟩)
  rw [if_neg h2] at h
  by_cases h3 : x.kind = 3
  · rw [if_pos h3] at h
    simp only [Bool.and_eq_true, decide_eq_true_eq, Bool.not_eq_true', lpN] at h
    obtain ⟨a, ⟨b, b2⟩, c, ⟨d, _⟩, ⟨e, _⟩, f⟩ := h
    exact .inr (.inr ⟨h3, a, b, eqT_eq b2, c, d, e, f⟩)
  rw [if_neg h3] at h; cases h
theorem emE_eq {x y : E} (hx : emE x = true) (hy : emE y = true) : eqE x y = true := by
  unfold emE at hx hy
  simp only [Bool.and_eq_true, decide_eq_true_eq] at hx hy
  obtain ⟨a, b, c, d⟩ := hx
  obtain ⟨a', b', c', d'⟩ := hy
  rw [eqE_eq, a, b, size0 c, List.length_eq_zero_iff.1 d, a', b', size0 c', List.length_eq_zero_iff.1 d']
  rfl
/-- A text at which a statement begins. -/
def stS (s : List UInt8) : Prop := ∃ c t, s = c :: t ∧ (c = 108 ∨ c = 97 ∨ c = 102)
theorem txS_st (x : S) (s : List UInt8) (h : okS x = true) : stS (txS x ++ s) := by
  rw [txS_eq]
  rcases okS_kind h with h | h | h
  · rw [if_pos h.1]; exact ⟨_, _, rfl, .inl rfl⟩
  · rw [if_neg (by rw [h.1]; decide), if_pos h.1]; exact ⟨_, _, rfl, .inr (.inl rfl)⟩
  · rw [if_neg (by rw [h.1]; decide), if_neg (by rw [h.1]; decide), if_pos h.1]; exact ⟨_, _, rfl, .inr (.inr rfl)⟩
theorem semi (s : List UInt8) : fol 1 (59 :: s) := fol1 (by decide) s
theorem ty_opt {x y : S} (hx : (if x.typed = true then tyOk x.t.k x.t.b x.t.n else eqT x.t ⟨0, 0, 0⟩) = true) (hy : (if y.typed = true then tyOk y.t.k y.t.b y.t.n else eqT y.t ⟨0, 0, 0⟩) = true) {s t : List UInt8}
    (h : (if x.typed = true then [58, 32] ++ tyTx x.t.k x.t.b x.t.n else []) ++ (32 :: s) = (if y.typed = true then [58, 32] ++ tyTx y.t.k y.t.b y.t.n else []) ++ (32 :: t)) : x.typed = y.typed ∧ x.t = y.t ∧ s = t := by
  have H : ∀ u : List UInt8, ∀ c v, 32 :: u = c :: v → nb c = false ∧ c ≠ 91 := fun u c v e => by injection e with e1 e2; subst e1; decide
  cases h1 : x.typed <;> cases h2 : y.typed
  · rw [h1] at hx h; rw [h2] at hy h
    simp only [Bool.false_eq_true, if_false, List.nil_append, List.cons.injEq, true_and] at hx hy h
    exact ⟨rfl, (eqT_eq hx).trans (eqT_eq hy).symm, h⟩
  · rw [h1, h2] at h
    simp at h
  · rw [h1, h2] at h
    simp at h
  · rw [h1] at hx h; rw [h2] at hy h
    simp only [if_true, List.append_assoc, List.cons_append, List.nil_append, List.cons.injEq, true_and] at hx hy h
    obtain ⟨q1, q2⟩ := ty_inj hx hy (H s) (H t) h
    injection q2 with _ q2
    exact ⟨rfl, q1, q2⟩
theorem txS_inj : ∀ (m : Nat) (x : S), S.sz x < m → ∀ (y : S) (s t : List UInt8), okS x = true → okS y = true → txS x ++ s = txS y ++ t → eqS x y = true ∧ s = t
  | 0, _, h, _, _, _, _, _, _ => absurd h (by omega)
  | m + 1, x, hm, y, s, t, hx, hy, h => by
    rw [txS_eq, txS_eq y] at h
    rw [eqS_eq]
    rcases okS_kind hx with ⟨k, q⟩ | ⟨k, q⟩ | ⟨k, q⟩ <;> rcases okS_kind hy with ⟨k', q'⟩ | ⟨k', q'⟩ | ⟨k', q'⟩ <;> rw [k, k'] at h ⊢
    · obtain ⟨a1, a2, a3, a4, a5, a6⟩ := q
      obtain ⟨b1, b2, b3, b4, b5, b6⟩ := q'
      simp only [if_true, List.append_assoc, List.cons_append, List.nil_append, List.cons.injEq, true_and] at h
      obtain ⟨c1, c2⟩ := nm_inj a2 b2 (fun c u e => by
        cases ht : x.typed
        · rw [ht] at e
          simp at e
          rw [← e.1]; decide
        · rw [ht] at e
          simp at e
          rw [← e.1]; decide) (fun c u e => by
        cases ht : y.typed
        · rw [ht] at e
          simp at e
          rw [← e.1]; decide
        · rw [ht] at e
          simp at e
          rw [← e.1]; decide) h
      obtain ⟨d1, d2, d3⟩ := ty_opt a1 b1 c2
      simp only [List.cons.injEq, true_and] at d3
      obtain ⟨e1, e2⟩ := txB_inj a3 b3 (semi s) (semi t) d3
      injection e2 with _ e2
      refine ⟨?_, e2⟩
      rw [c1, d1, d2, a4, a5, a6, b4, b5, b6, e1, eqT_refl]
      simp [strEq, eqL]
    · simp at h
    · simp at h
    · simp at h
    · obtain ⟨a1, a2, a3, a4, a5, a6, a7⟩ := q
      obtain ⟨b1, b2, b3, b4, b5, b6, b7⟩ := q'
      simp only [show ¬ ((2 : Int) = 1) from by decide, if_false, if_true, List.append_assoc, List.cons_append, List.nil_append, List.cons.injEq, true_and] at h
      obtain ⟨e1, e2⟩ := txB_inj a4 b4 (semi s) (semi t) h
      injection e2 with _ e2
      refine ⟨?_, e2⟩
      rw [a2, a3, a5, a6, a7, b2, b3, b5, b6, b7, e1, size0 a1, size0 b1, eqT_refl]
      simp [strEq, eqL]
    · simp at h
    · simp at h
    · simp at h
    · obtain ⟨a1, a2, a3, a4, a5, a6, a7⟩ := q
      obtain ⟨b1, b2, b3, b4, b5, b6, b7⟩ := q'
      simp only [show ¬ ((3 : Int) = 1) from by decide, show ¬ ((3 : Int) = 2) from by decide, if_false, if_true, List.append_assoc, List.cons_append, List.nil_append, List.cons.injEq, true_and] at h
      obtain ⟨c1, c2⟩ := nm_inj a1 b1 (hdc (p := nb) (b := false) (by decide) _) (hdc (p := nb) (b := false) (by decide) _) h
      simp only [List.cons.injEq, true_and] at c2
      obtain ⟨d1, d2⟩ := dg_inj (hdc (p := dgt) (b := false) (by decide) _) (hdc (p := dgt) (b := false) (by decide) _) c2
      simp only [List.cons.injEq, true_and] at d2
      obtain ⟨e1, e2⟩ := dg_inj (hdc (p := dgt) (b := false) (by decide) _) (hdc (p := dgt) (b := false) (by decide) _) d2
      simp only [List.cons.injEq, true_and] at e2
      rw [txSs_lines, txSs_lines] at e2
      have ns : ∀ u : List UInt8, ¬ stS (125 :: u) := fun u ⟨c, v, e, hc⟩ => by injection e with e3 _; subst e3; revert hc; decide
      obtain ⟨f1, f2⟩ := lines_inj 32 txS okS eqS stS txS_st x.body y.body (125 :: s) (125 :: t) (fun u hu v s t ho hv he => by
        obtain ⟨i, hi, rfl⟩ := List.mem_iff_getElem.1 hu
        obtain ⟨g1, g2⟩ := txS_inj m _ (by have := S.sz_arg (e := x) (List.getElem?_eq_getElem hi); omega) v _ _ ho hv he
        injection g2 with _ g2
        exact ⟨g1, g2⟩) a7 b7 (ns s) (ns t) e2
      injection f2 with _ f2
      refine ⟨?_, f2⟩
      have hlo : x.lo = y.lo := by omega
      have hhi : x.hi = y.hi := by omega
      rw [c1, a2, a3, b2, b3, hlo, hhi, f1, emE_eq a4 b4, eqT_refl]
      simp [strEq]
theorem body_inj {l l' : List S} (h1 : l.all okS = true) (h2 : l'.all okS = true) (sep : UInt8) {s t : List UInt8} (hs : ¬ stS s) (ht : ¬ stS t) (h : linesL sep txS l ++ s = linesL sep txS l' ++ t) : eqL eqS l l' = true ∧ s = t :=
  lines_inj sep txS okS eqS stS txS_st l l' s t (fun u _ v s t ho hv he => by
    obtain ⟨g1, g2⟩ := txS_inj _ u (Nat.lt_succ_self _) v _ _ ho hv he
    injection g2 with _ g2
    exact ⟨g1, g2⟩) h1 h2 hs ht h
theorem txP_inj {x y : P} (hx : okP x = true) (hy : okP y = true) {s t : List UInt8} (hs : ∀ c u, s = c :: u → nb c = false ∧ c ≠ 91) (ht : ∀ c u, t = c :: u → nb c = false ∧ c ≠ 91) (h : txP x ++ s = txP y ++ t) : eqP x y = true ∧ s = t := by
  unfold okP at hx hy
  rw [Bool.and_eq_true] at hx hy
  unfold txP at h
  simp only [List.append_assoc, List.cons_append, List.nil_append] at h
  obtain ⟨c1, c2⟩ := nm_inj hx.1 hy.1 (hdc (p := nb) (b := false) (by decide) _) (hdc (p := nb) (b := false) (by decide) _) h
  simp only [List.cons.injEq, true_and] at c2
  obtain ⟨d1, d2⟩ := ty_inj hx.2 hy.2 hs ht c2
  refine ⟨?_, d2⟩
  unfold eqP
  rw [c1, d1, eqT_refl]; simp [strEq]
theorem txP_ne {x : P} (h : okP x = true) : ∃ c t, txP x = c :: t ∧ c ≠ 41 := by
  unfold okP at h
  rw [Bool.and_eq_true] at h
  obtain ⟨c, t, e, hl⟩ := nameOk_hd h.1
  unfold txP
  rw [e]
  refine ⟨c, _, rfl, ?_⟩
  rintro rfl
  revert hl; decide
theorem ps_inj : ∀ (f : Bool) (l l' : List P) (s t : List UInt8), l.all okP = true → l'.all okP = true → comF f (l.map txP) ++ (41 :: s) = comF f (l'.map txP) ++ (41 :: t) → eqL eqP l l' = true ∧ s = t
  | f, [], [], s, t, _, _, h => by
    have h' : 41 :: s = 41 :: t := h
    injection h' with _ h'
    exact ⟨rfl, h'⟩
  | f, [], y :: l', s, t, _, h2, h => by
    rw [List.all_cons, Bool.and_eq_true] at h2
    obtain ⟨c, u, e, hc⟩ := txP_ne h2.1
    cases f
    · simp [comF] at h
    · simp [comF, e] at h
      exact absurd h.1.symm hc
  | f, x :: l, [], s, t, h1, _, h => by
    rw [List.all_cons, Bool.and_eq_true] at h1
    obtain ⟨c, u, e, hc⟩ := txP_ne h1.1
    cases f
    · simp [comF] at h
    · simp [comF, e] at h
      exact absurd h.1 hc
  | f, x :: l, y :: l', s, t, h1, h2, h => by
    rw [List.all_cons, Bool.and_eq_true] at h1 h2
    have hd : ∀ (l : List P) (s : List UInt8) (c : UInt8) (u : List UInt8), comF false (l.map txP) ++ (41 :: s) = c :: u → nb c = false ∧ c ≠ 91 := fun l s c u e => by
      cases l with
      | nil =>
        have e' : 41 :: s = c :: u := e
        injection e' with e1 _; subst e1; decide
      | cons z l =>
        simp [comF] at e
        rw [← e.1]; decide
    have h' : txP x ++ (comF false (l.map txP) ++ (41 :: s)) = txP y ++ (comF false (l'.map txP) ++ (41 :: t)) := by
      cases f <;> simpa [comF] using h
    obtain ⟨q1, q2⟩ := txP_inj h1.1 h2.1 (hd l s) (hd l' t) h'
    obtain ⟨q3, q4⟩ := ps_inj false l l' s t h1.2 h2.2 q2
    exact ⟨by rw [eqL_cons, q1, q3]; rfl, q4⟩
theorem txF_inj {x y : F} (hx : okF x = true) (hy : okF y = true) {s t : List UInt8} (h : txF x ++ s = txF y ++ t) : eqFn x y = true ∧ s = t := by
  unfold okF at hx hy
  simp only [Bool.and_eq_true] at hx hy
  obtain ⟨a1, a2, a3, a4, a5⟩ := hx
  obtain ⟨b1, b2, b3, b4, b5⟩ := hy
  unfold txF at h
  simp only [List.append_assoc, List.cons_append, List.nil_append, List.cons.injEq, true_and] at h
  obtain ⟨c1, c2⟩ := nm_inj a1 b1 (hdc (p := nb) (b := false) (by decide) _) (hdc (p := nb) (b := false) (by decide) _) h
  simp only [List.cons.injEq, true_and] at c2
  obtain ⟨d1, d2⟩ := ps_inj true _ _ _ _ a2 b2 c2
  simp only [List.cons.injEq, true_and] at d2
  have H : ∀ u : List UInt8, ∀ c v, 32 :: u = c :: v → nb c = false ∧ c ≠ 91 := fun u c v e => by injection e with e1 e2; subst e1; decide
  obtain ⟨e1, e2⟩ := ty_inj a3 b3 (H _) (H _) d2
  simp only [List.cons.injEq, true_and] at e2
  rw [txSs_lines, txSs_lines] at e2
  have ns : ∀ u : List UInt8, ¬ stS (114 :: u) := fun u ⟨c, v, e, hc⟩ => by injection e with e3 _; subst e3; revert hc; decide
  obtain ⟨f1, f2⟩ := body_inj a4 b4 32 (ns _) (ns _) e2
  simp only [List.cons.injEq, true_and] at f2
  obtain ⟨g1, g2⟩ := txB_inj a5 b5 (semi _) (semi _) f2
  simp only [List.cons.injEq, true_and] at g2
  refine ⟨?_, g2⟩
  unfold eqFn
  rw [c1, d1, e1, f1, g1, eqT_refl]; simp [strEq]
theorem txD_inj {x y : D} (hx : okD x = true) (hy : okD y = true) {s t : List UInt8} (h : txD x ++ s = txD y ++ t) : eqD x y = true ∧ s = t := by
  unfold okD at hx hy
  rw [Bool.and_eq_true] at hx hy
  unfold txD at h
  have key : x.pub = y.pub ∧ x.name.data.toList ++ ([58, 32] ++ (tyTx x.t.k x.t.b x.t.n ++ (59 :: s))) = y.name.data.toList ++ ([58, 32] ++ (tyTx y.t.k y.t.b y.t.n ++ (59 :: t))) := by
    cases hp : x.pub <;> cases hq : y.pub <;> rw [hp, hq] at h
    · exact ⟨rfl, by simpa using h⟩
    · simp at h
    · simp at h
    · exact ⟨rfl, by simpa using h⟩
  obtain ⟨k1, k2⟩ := key
  simp only [List.cons_append, List.nil_append] at k2
  obtain ⟨c1, c2⟩ := nm_inj hx.1 hy.1 (hdc (p := nb) (b := false) (by decide) _) (hdc (p := nb) (b := false) (by decide) _) k2
  simp only [List.cons.injEq, true_and] at c2
  have H : ∀ u : List UInt8, ∀ c v, 59 :: u = c :: v → nb c = false ∧ c ≠ 91 := fun u c v e => by injection e with e1 e2; subst e1; decide
  obtain ⟨d1, d2⟩ := ty_inj hx.2 hy.2 (H _) (H _) c2
  injection d2 with _ d2
  refine ⟨?_, d2⟩
  unfold eqD
  rw [k1, c1, d1, eqT_refl]; simp [strEq]
def stF (s : List UInt8) : Prop := ∃ t, s = 102 :: 110 :: t
def stD (s : List UInt8) : Prop := ∃ c t, s = c :: t ∧ (c = 112 ∨ c = 115)
theorem txD_st (x : D) (s : List UInt8) : stD (txD x ++ s) := by
  unfold txD
  cases x.pub
  · exact ⟨_, _, rfl, .inr rfl⟩
  · exact ⟨_, _, rfl, .inl rfl⟩
theorem txS_hd {x : S} (h : okS x = true) (s : List UInt8) : ¬ stF (txS x ++ s) ∧ ¬ stD (txS x ++ s) := by
  rw [txS_eq]
  rcases okS_kind h with h | h | h
  · rw [if_pos h.1]
    exact ⟨fun ⟨t, e⟩ => by simp at e, fun ⟨c, t, e, hc⟩ => by (simp at e; rw [← e.1] at hc; revert hc; decide)⟩
  · rw [if_neg (by rw [h.1]; decide), if_pos h.1]
    exact ⟨fun ⟨t, e⟩ => by simp at e, fun ⟨c, t, e, hc⟩ => by (simp at e; rw [← e.1] at hc; revert hc; decide)⟩
  · rw [if_neg (by rw [h.1]; decide), if_neg (by rw [h.1]; decide), if_pos h.1]
    exact ⟨fun ⟨t, e⟩ => by simp at e, fun ⟨c, t, e, hc⟩ => by (simp at e; rw [← e.1] at hc; revert hc; decide)⟩
theorem bodyL_hd : ∀ {l : List S}, l.all okS = true → ¬ stF (linesL 10 txS l) ∧ ¬ stD (linesL 10 txS l)
  | [], _ => ⟨fun ⟨t, e⟩ => by (cases e), fun ⟨c, t, e, _⟩ => by (cases e)⟩
  | x :: l, h => by
    rw [List.all_cons, Bool.and_eq_true] at h
    exact txS_hd h.1 _
theorem restL_hd {d : List D} {l : List S} (h : l.all okS = true) : ¬ stF (linesL 10 txD d ++ linesL 10 txS l) := by
  cases d with
  | nil => exact (bodyL_hd h).1
  | cons x d =>
    rintro ⟨t, e⟩
    have e' : (txD x ++ (10 :: linesL 10 txD d)) ++ linesL 10 txS l = 102 :: 110 :: t := e
    rw [List.append_assoc] at e'
    obtain ⟨c, u, e2, hc⟩ := txD_st x ((10 :: linesL 10 txD d) ++ linesL 10 txS l)
    rw [e'] at e2
    injection e2 with e2 _
    subst e2
    revert hc; decide
/-- The text of a well-formed program determines it. -/
theorem txG_inj {x y : G} (hx : okG x = true) (hy : okG y = true) (h : txG x = txG y) : eqG x y = true := by
  unfold okG at hx hy
  simp only [Bool.and_eq_true] at hx hy
  unfold txG at h
  obtain ⟨q1, q2⟩ := lines_inj 10 txF okF eqFn stF (fun f s _ => ⟨_, rfl⟩) x.funcs y.funcs _ _ (fun u _ v s t ho hv he => by
    obtain ⟨g1, g2⟩ := txF_inj ho hv he
    injection g2 with _ g2
    exact ⟨g1, g2⟩) hx.1 hy.1 (restL_hd hx.2.2) (restL_hd hy.2.2) h
  obtain ⟨q3, q4⟩ := lines_inj 10 txD okD eqD stD (fun d s _ => txD_st d s) x.decls y.decls _ _ (fun u _ v s t ho hv he => by
    obtain ⟨g1, g2⟩ := txD_inj ho hv he
    injection g2 with _ g2
    exact ⟨g1, g2⟩) hx.2.1 hy.2.1 (bodyL_hd hx.2.2).2 (bodyL_hd hy.2.2).2 q2
  have ns : ¬ stS [] := fun ⟨c, t, e, _⟩ => by cases e
  obtain ⟨q5, _⟩ := body_inj hx.2.2 hy.2.2 10 ns ns (s := []) (t := []) (by rw [List.append_nil, List.append_nil]; exact q4)
  unfold eqG
  rw [q1, q3, q5]; rfl
end Go.Proofs.YtcheigpejbmaoaaDoor
