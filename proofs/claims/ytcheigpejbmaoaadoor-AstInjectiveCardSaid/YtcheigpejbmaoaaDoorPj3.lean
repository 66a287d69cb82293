/- Plain: every well-formed expression is read back from its text; so its text determines it. -/
import Derived.Test.YtcheigpejbmaoaaDoorPj2
namespace Go.Proofs.YtcheigpejbmaoaaDoor
open Go.RowKit
theorem ps_par (t : List UInt8) : ∀ n r, ps n r (41 :: t) = none
  | 0, r => by rw [ps]
  | n + 1, r => by
    rw [ps]
    by_cases h7 : r = 7
    · rw [if_pos h7, ps_par t n 8]
      show (if (some (41 : UInt8)) = some 45 then _ else if _ = true then _ else none) = none
      rw [if_neg (by decide), if_neg (by simp [List.isPrefixOf])]
    · rw [if_neg h7]
      by_cases h9 : r < 9
      · rw [if_pos h9, ps_par t n (r + 1)]; rfl
      · rw [if_neg h9, if_neg (by simp), if_neg (by simp), if_neg (by simp; decide), if_neg (by simp; decide)]
theorem Good.ne41 {t : List UInt8} {x : E} (h : Good 1 t x) : (∀ u, t ≠ 41 :: u) ∧ t ≠ [] := by
  have := h.one (fol1 (c := 41) (by decide) [])
  obtain ⟨N, hN⟩ := this
  have := hN N (Nat.le_refl _)
  constructor
  · rintro u rfl
    rw [show (41 :: u) ++ [41] = 41 :: (u ++ [41]) from rfl, ps_par] at this; cases this
  · rintro rfl
    rw [List.nil_append, ps_par] at this; cases this
theorem size0 {n : ByteArray} (h : n.size = 0) : n = nil0 := by
  rw [← Lib.mk_data n]
  rw [Lib.size_eq] at h
  rw [List.length_eq_zero_iff.1 h]; rfl
theorem len1 {α : Type} {l : List α} (h : l.length = 1) : ∃ x, l = [x] := by
  match l, h with
  | [x], _ => exact ⟨x, rfl⟩
theorem len2 {α : Type} {l : List α} (h : l.length = 2) : ∃ x y, l = [x, y] := by
  match l, h with
  | [x, y], _ => exact ⟨x, y, rfl⟩
theorem len3 {α : Type} {l : List α} (h : l.length = 3) : ∃ x y z, l = [x, y, z] := by
  match l, h with
  | [x, y, z], _ => exact ⟨x, y, z, rfl⟩
def Rd1 (x : E) : Prop := ∃ q : Nat, (q : Int) = lvl x.op ∧ Good q (txB x) (nrm x)
theorem Rd1.one {x : E} (h : Rd1 x) : Good 1 (txB x) (nrm x) := by
  obtain ⟨q, hq, g⟩ := h
  have := lvl_pos x.op
  exact g.le (by decide) (by omega) (by omega)
theorem Rd1.par {x : E} (h : Rd1 x) {r : Nat} (h1 : 1 ≤ r) (h9 : r ≤ 9) : Good r (par x.op (r : Int) (txB x)) (nrm x) := by
  obtain ⟨q, hq, g⟩ := h
  exact g.par hq h1 h9
theorem rdE : ∀ (m : Nat) (e : E), E.sz e < m → okE e = true → Rd1 e := by
  intro m
  induction m with
  | zero => intro e h; exact absurd h (by omega)
  | succ m ih =>
    intro e hm hok
    rw [okE_eq, Bool.and_eq_true] at hok
    obtain ⟨hall, hsh⟩ := hok
    have hA : ∀ x ∈ e.args, Rd1 x := fun x hx => by
      obtain ⟨i, hi, rfl⟩ := List.mem_iff_getElem.1 hx
      exact ih _ (by have := E.sz_arg (e := e) (List.getElem?_eq_getElem hi); omega) (List.all_eq_true.1 hall _ hx)
    unfold Rd1
    rw [txB_eq, nrm_eq]
    obtain ⟨op, hop⟩ : ∃ q, q = e.op := ⟨_, rfl⟩
    obtain ⟨v, hv⟩ : ∃ q, q = e.val := ⟨_, rfl⟩
    obtain ⟨n, hn⟩ : ∃ q, q = e.name := ⟨_, rfl⟩
    obtain ⟨l, hl⟩ : ∃ q, q = e.args := ⟨_, rfl⟩
    rw [← hop, ← hv, ← hn, ← hl] at hsh ⊢
    rw [← hl] at hA
    clear hop hv hn hl hall hm ih
    unfold okSh at hsh
    by_cases h1 : op = 1
    · subst h1
      rw [if_pos rfl] at hsh
      simp only [Bool.and_eq_true, decide_eq_true_eq] at hsh
      obtain ⟨q1, q2⟩ := hsh
      obtain rfl := List.length_eq_zero_iff.1 q1
      obtain rfl := size0 q2
      exact ⟨9, rfl, by unfold asm; rw [if_pos rfl]; exact Good.num v⟩
    rw [if_neg h1] at hsh
    by_cases h2 : op = 2
    · subst h2
      rw [if_pos rfl] at hsh
      simp only [Bool.and_eq_true, decide_eq_true_eq] at hsh
      obtain ⟨⟨q1, q2⟩, q3⟩ := hsh
      obtain rfl := List.length_eq_zero_iff.1 q1
      subst q2
      exact ⟨9, rfl, by unfold asm; rw [if_neg (by decide), if_pos rfl]; exact Good.name q3⟩
    rw [if_neg h2] at hsh
    by_cases h34 : op = 3 ∨ op = 4
    · rw [if_pos h34] at hsh
      simp only [Bool.and_eq_true, decide_eq_true_eq] at hsh
      obtain ⟨⟨q1, q2⟩, q3⟩ := hsh
      obtain rfl := List.length_eq_zero_iff.1 q1
      subst q2
      obtain rfl := size0 q3
      rcases h34 with rfl | rfl
      · exact ⟨9, rfl, by unfold asm; rw [if_neg (by decide), if_neg (by decide), if_pos rfl]; exact Good.tt⟩
      · exact ⟨9, rfl, by unfold asm; rw [if_neg (by decide), if_neg (by decide), if_neg (by decide), if_pos rfl]; exact Good.ff⟩
    rw [if_neg h34] at hsh
    by_cases h5 : op = 5
    · subst h5
      rw [if_pos rfl] at hsh
      simp only [Bool.and_eq_true, decide_eq_true_eq] at hsh
      obtain ⟨q2, q3⟩ := hsh
      subst q2
      refine ⟨9, rfl, ?_⟩
      unfold asm
      rw [if_neg (by decide), if_neg (by decide), if_neg (by decide), if_neg (by decide), if_pos rfl]
      have := Good.call q3 l (fun x hx => (hA x hx).one) (fun x l' e t => ((hA x (by rw [e]; exact List.mem_cons_self ..)).one.ne41).1 t) (fun x l' e => ((hA x (by rw [e]; exact List.mem_cons_self ..)).one.ne41).2)
      rw [show (n ++ ⟨#[40]⟩ : ByteArray).data.toList ++ (comF true (l.map txB) ++ (⟨#[41]⟩ : ByteArray).data.toList) = n.data.toList ++ (40 :: (comF true (l.map txB) ++ [41])) by rw [ByteArray.data_append, Array.toList_append]; simp]
      exact this
    rw [if_neg h5] at hsh
    by_cases h6 : op = 6
    · subst h6
      rw [if_pos rfl] at hsh
      simp only [Bool.and_eq_true, decide_eq_true_eq] at hsh
      obtain ⟨q2, q3⟩ := hsh
      obtain rfl := size0 q3
      refine ⟨9, rfl, ?_⟩
      unfold asm
      rw [if_neg (by decide), if_neg (by decide), if_neg (by decide), if_neg (by decide), if_neg (by decide), if_pos rfl]
      have := Good.hash v l (by rintro rfl; exact absurd q2 (by decide)) (fun x hx => (hA x hx).one)
      rw [show ((⟨#[104, 97, 115, 104, 40]⟩ : ByteArray) ++ ⟨(Lib.decDigits v).toArray⟩ ++ ⟨#[59, 32]⟩ : ByteArray).data.toList ++ (comF true (l.map txB) ++ (⟨#[41]⟩ : ByteArray).data.toList) = [104, 97, 115, 104, 40] ++ (Lib.decDigits v ++ (59 :: 32 :: (comF true (l.map txB) ++ [41]))) by simp only [ByteArray.data_append, Array.toList_append]; simp]
      exact this
    rw [if_neg h6] at hsh
    by_cases h7 : op = 7
    · subst h7
      rw [if_pos rfl] at hsh
      simp only [Bool.and_eq_true, decide_eq_true_eq] at hsh
      obtain ⟨⟨q1, q2⟩, q3⟩ := hsh
      subst q2
      obtain rfl := size0 q3
      refine ⟨9, rfl, ?_⟩
      unfold asm
      rw [if_neg (by decide), if_neg (by decide), if_neg (by decide), if_neg (by decide), if_neg (by decide), if_neg (by decide), if_pos rfl]
      exact Good.list l (by rintro rfl; exact absurd q1 (by decide)) (fun x hx => (hA x hx).one)
    rw [if_neg h7] at hsh
    by_cases h910 : op = 9 ∨ op = 10
    · rw [if_pos h910] at hsh
      simp only [Bool.and_eq_true, decide_eq_true_eq] at hsh
      obtain ⟨⟨q1, q2⟩, q3⟩ := hsh
      obtain ⟨x, rfl⟩ := len1 q1
      have hx := hA x (List.mem_cons_self ..)
      subst q2
      obtain rfl := size0 q3
      have o0 : oAt [x] 0 = x.op := rfl
      rcases h910 with rfl | rfl
      · refine ⟨7, rfl, ?_⟩
        unfold asm
        rw [if_neg (by decide), if_neg (by decide), if_neg (by decide), if_neg (by decide), if_neg (by decide), if_neg (by decide), if_neg (by decide), if_neg (by decide), if_pos rfl, o0]
        by_cases h9 : x.op = 9
        · rw [if_pos h9]
          exact Good.neg ((hx.par (r := 8) (by decide) (by decide)).le (by decide) (by decide) (by decide))
        · rw [if_neg h9]
          exact Good.neg (hx.par (r := 7) (by decide) (by decide))
      · refine ⟨7, rfl, ?_⟩
        unfold asm
        rw [if_neg (by decide), if_neg (by decide), if_neg (by decide), if_neg (by decide), if_neg (by decide), if_neg (by decide), if_neg (by decide), if_neg (by decide), if_neg (by decide), if_pos rfl, o0]
        exact Good.not (hx.par (r := 7) (by decide) (by decide))
    rw [if_neg h910] at hsh
    by_cases h20 : op = 20
    · subst h20
      rw [if_pos rfl] at hsh
      simp only [Bool.and_eq_true, decide_eq_true_eq] at hsh
      obtain ⟨⟨q1, q2⟩, q3⟩ := hsh
      obtain ⟨x, y, z, rfl⟩ := len3 q1
      have hx := hA x (by simp)
      have hy := hA y (by simp)
      have hz := hA z (by simp)
      subst q2
      obtain rfl := size0 q3
      refine ⟨1, rfl, ?_⟩
      unfold asm
      rw [if_neg (by decide), if_neg (by decide), if_neg (by decide), if_neg (by decide), if_neg (by decide), if_neg (by decide), if_neg (by decide), if_neg (by decide), if_neg (by decide), if_neg (by decide), if_pos rfl, par_one, par_one]
      exact Good.cond (hx.par (r := 2) (by decide) (by decide)) hy.one hz.one
    rw [if_neg h20] at hsh
    by_cases h8 : op = 8 ∨ 11 ≤ op ∧ op ≤ 19
    · rw [if_pos h8] at hsh
      simp only [Bool.and_eq_true, decide_eq_true_eq] at hsh
      obtain ⟨⟨q1, q2⟩, q3⟩ := hsh
      obtain ⟨x, y, rfl⟩ := len2 q1
      have hx := hA x (by simp)
      have hy := hA y (by simp)
      subst q2
      obtain rfl := size0 q3
      rcases h8 with rfl | ⟨ha, hb⟩
      · refine ⟨8, rfl, ?_⟩
        unfold asm
        rw [if_neg (by decide), if_neg (by decide), if_neg (by decide), if_neg (by decide), if_neg (by decide), if_neg (by decide), if_neg (by decide), if_pos rfl, par_one]
        exact Good.index (hx.par (r := 8) (by decide) (by decide)) hy.one
      · have hl := lvl_pos op
        have hl6 : lvl op ≤ 6 := by
          unfold lvl
          rw [if_neg h20]
          repeat (split; · omega)
          omega
        obtain ⟨L, hL⟩ : ∃ L : Nat, (L : Int) = lvl op := ⟨(lvl op).toNat, by omega⟩
        refine ⟨L, hL, ?_⟩
        unfold asm
        rw [if_neg h1, if_neg h2, if_neg (by omega), if_neg (by omega), if_neg h5, if_neg h6, if_neg h7, if_neg (by omega), if_neg (by omega), if_neg (by omega), if_neg h20]
        refine Good.bin ha hb hL ?_ ?_
        · rw [← hL]
          by_cases h4 : L = 4
          · rw [if_pos h4, if_pos (by omega)]
            exact hx.par (r := 5) (by decide) (by decide)
          · rw [if_neg h4, if_neg (by omega)]
            exact hx.par (by omega) (by omega)
        · rw [← hL]
          exact hy.par (r := L + 1) (by omega) (by omega)
    rw [if_neg h8] at hsh
    cases hsh
/-- The text of a well-formed expression determines it, whatever stands behind it. -/
theorem txB_inj {x y : E} (hx : okE x = true) (hy : okE y = true) {s t : List UInt8} (hs : fol 1 s) (ht : fol 1 t) (h : txB x ++ s = txB y ++ t) : eqE x y = true ∧ s = t := by
  have h1 := (rdE _ x (Nat.lt_succ_self _) hx).one.one hs
  have h2 := (rdE _ y (Nat.lt_succ_self _) hy).one.one ht
  rw [h] at h1
  have := h1.det h2
  simp only [Prod.mk.injEq] at this
  exact ⟨eqE_nrm x y this.1, this.2⟩
end Go.Proofs.YtcheigpejbmaoaaDoor
