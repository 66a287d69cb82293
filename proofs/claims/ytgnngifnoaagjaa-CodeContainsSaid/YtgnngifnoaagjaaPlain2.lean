/- Plain lists, second part. -/
import Derived.Test.YtgnngifnoaagjaaPlain
namespace Go.Proofs.Ytgnngifnoaagjaa

theorem fadd_comm (p a b : Nat) : fadd p a b = fadd p b a := by unfold fadd; rw [Nat.add_comm]
theorem wq_top (p x : Nat) (l : List Nat) (n : Nat) : tab n (wq p x l n) = List.replicate n 0 := by
  rw [tab_zero]; refine tab_congr fun t ht => ?_
  unfold wq; rw [if_neg (by omega)]
theorem wq_step (p x : Nat) (l : List Nat) (n j : Nat) : (tab n (wq p x l (j + 1))).set j (horner p x (l.drop (j + 1))) = tab n (wq p x l j) := by
  refine tab_upd fun t _ => ?_
  unfold wq
  by_cases h : t = j
  · subst h; rw [if_pos (Nat.le_refl _), if_pos rfl]
  · rw [if_neg h]
    by_cases h2 : j ≤ t
    · rw [if_pos h2, if_pos (by omega)]
    · rw [if_neg h2, if_neg (by omega)]
theorem horner_drop (p x : Nat) (l : List Nat) (k : Nat) (h : k < l.length) : horner p x (l.drop k) = fadd p (l.getD k 0) (fmul p (horner p x (l.drop (k + 1))) x) := by
  rw [drop_cons l k h, horner, fadd_comm]
theorem getD_snoc0 (V : List Nat) (t : Nat) : (V ++ [0]).getD t 0 = V.getD t 0 := by
  simp only [List.getD]
  by_cases h : t < V.length
  · rw [List.getElem?_append_left h]
  · rw [List.getElem?_append_right (by omega), List.getElem?_eq_none (l := V) (by omega)]
    cases h2 : t - V.length <;> simp
theorem vin_top (p x : Nat) (V : List Nat) : V ++ [0] = tab (V.length + 1) (vin p x V V.length) := by
  conv => lhs; rw [list_tab (V ++ [0])]
  rw [List.length_append]
  refine tab_congr fun t ht => ?_
  rw [getD_snoc0]; unfold vin; rw [if_neg (by simp at ht; omega)]
theorem vin_step (p x : Nat) (V : List Nat) (n j : Nat) : (tab n (vin p x V (j + 1))).set (j + 1) (fsub p (V.getD j 0) (fmul p (V.getD (j + 1) 0) x)) = tab n (vin p x V j) := by
  refine tab_upd fun t _ => ?_
  unfold vin
  by_cases h : t = j + 1
  · subst h; rw [if_pos (by omega), if_pos rfl, Nat.add_sub_cancel]
  · rw [if_neg h]
    by_cases h2 : j < t
    · rw [if_pos h2, if_pos (by omega)]
    · rw [if_neg h2, if_neg (by omega)]
theorem vin_at (p x : Nat) (V : List Nat) (j t : Nat) (h : t ≤ j) : vin p x V j t = V.getD t 0 := by
  unfold vin; rw [if_neg (by omega)]
theorem vin_last (p x : Nat) (V : List Nat) : (tab (V.length + 1) (vin p x V 0)).set 0 (fneg p (fmul p (V.getD 0 0) x)) = vstep p V x := by
  refine tab_upd fun t _ => ?_
  unfold vin
  by_cases h : t = 0
  · rw [if_pos h, if_pos h]
  · rw [if_neg h, if_neg h, if_pos (by omega)]

/-! ### DivMod -/
/-- One step of the division: subtract fac times the divisor at i, the first k columns done. -/
def drow (p : Nat) (R : Nat → Nat) (i fac : Nat) (b : List Nat) (k : Nat) : Nat → Nat := fun t => if i ≤ t ∧ t < i + k then fsub p (R t) (fmul p fac (b.getD (t - i) 0)) else R t
theorem drow_zero (p : Nat) (R : Nat → Nat) (i n : Nat) (b : List Nat) : drow p R i n b 0 = R := by
  funext t; unfold drow; rw [if_neg (by omega)]
theorem drow_step (p : Nat) (R : Nat → Nat) (i n : Nat) (b : List Nat) (k m : Nat) : (tab m (drow p R i n b k)).set (i + k) (fsub p (R (i + k)) (fmul p n (b.getD k 0))) = tab m (drow p R i n b (k + 1)) := by
  refine tab_upd fun t _ => ?_
  unfold drow
  by_cases h : t = i + k
  · subst h; rw [if_pos (by omega), if_pos rfl, Nat.add_sub_cancel_left]
  · rw [if_neg h]
    by_cases h2 : i ≤ t ∧ t < i + k
    · rw [if_pos h2, if_pos (by omega)]
    · rw [if_neg h2, if_neg (by omega)]
theorem drow_at (p : Nat) (R : Nat → Nat) (i n : Nat) (b : List Nat) (k : Nat) : drow p R i n b k (i + k) = R (i + k) := by
  unfold drow; rw [if_neg (by omega)]
/-- The rest, before index i is done (i counts down). c: how many indices are done; i + c = n. -/
def dR (p : Nat) (a b : List Nat) (n inv : Nat) : Nat → Nat → Nat
  | 0 => fun t => a.getD t 0
  | c + 1 =>
    let R := dR p a b n inv c
    let i := n - 1 - c
    let fac := fmul p (R (i + b.length - 1)) inv
    if fac = 0 then R else drow p R i fac b b.length
def dfac (p : Nat) (a b : List Nat) (n inv i : Nat) : Nat := fmul p (dR p a b n inv (n - 1 - i) (i + b.length - 1)) inv
def dQ (p : Nat) (a b : List Nat) (n inv k : Nat) : Nat → Nat := fun t => if k ≤ t then dfac p a b n inv t else 0
theorem dQ_top (p : Nat) (a b : List Nat) (n inv : Nat) : tab n (dQ p a b n inv n) = List.replicate n 0 := by
  rw [tab_zero]; refine tab_congr fun t ht => ?_
  unfold dQ; rw [if_neg (by omega)]
theorem dQ_step (p : Nat) (a b : List Nat) (n inv j : Nat) : (tab n (dQ p a b n inv (j + 1))).set j (dfac p a b n inv j) = tab n (dQ p a b n inv j) := by
  refine tab_upd fun t _ => ?_
  unfold dQ
  by_cases h : t = j
  · subst h; rw [if_pos (Nat.le_refl _), if_pos rfl]
  · rw [if_neg h]
    by_cases h2 : j ≤ t
    · rw [if_pos h2, if_pos (by omega)]
    · rw [if_neg h2, if_neg (by omega)]
theorem dR_step (p : Nat) (a b : List Nat) (n inv j : Nat) (h : j < n) : dR p a b n inv (n - j) = if dfac p a b n inv j = 0 then dR p a b n inv (n - (j + 1)) else drow p (dR p a b n inv (n - (j + 1))) j (dfac p a b n inv j) b b.length := by
  have e : n - j = (n - (j + 1)) + 1 := by omega
  have e2 : n - 1 - (n - (j + 1)) = j := by omega
  rw [e, dR]
  unfold dfac
  simp only [e2]
  have e3 : n - 1 - j = n - (j + 1) := by omega
  rw [e3]
/-- DivMod's quotient and rest, b not zero. -/
def dvN (p : Nat) (a b : List Nat) : Nat := (trimP p a).length - (trimP p b).length + 1
def dvI (p : Nat) (b : List Nat) : Nat := finv p ((trimP p b).getD ((trimP p b).length - 1) 0)
def pquo (p : Nat) (a b : List Nat) : List Nat := if (trimP p a).length < (trimP p b).length then [] else trimZ (tab (dvN p a b) (dQ p (trimP p a) (trimP p b) (dvN p a b) (dvI p b) 0))
def prem (p : Nat) (a b : List Nat) : List Nat := if (trimP p a).length < (trimP p b).length then trimP p a else trimZ (tab (trimP p a).length (dR p (trimP p a) (trimP p b) (dvN p a b) (dvI p b) (dvN p a b)))

/-! ### Interpolate -/
def irow (p : Nat) (R : Nat → Nat) (fac : Nat) (o : List Nat) (k : Nat) : Nat → Nat := fun t => if t < k then fadd p (R t) (fmul p fac (o.getD t 0)) else R t
theorem irow_zero (p : Nat) (R : Nat → Nat) (n : Nat) (b : List Nat) : irow p R n b 0 = R := by
  funext t; unfold irow; rw [if_neg (by omega)]
theorem irow_step (p : Nat) (R : Nat → Nat) (n : Nat) (b : List Nat) (k m : Nat) : (tab m (irow p R n b k)).set k (fadd p (R k) (fmul p n (b.getD k 0))) = tab m (irow p R n b (k + 1)) := by
  refine tab_upd fun t _ => ?_
  unfold irow
  by_cases h : t = k
  · subst h; rw [if_pos (by omega), if_pos rfl]
  · rw [if_neg h]
    by_cases h2 : t < k
    · rw [if_pos h2, if_pos (by omega)]
    · rw [if_neg h2, if_neg (by omega)]
theorem irow_at (p : Nat) (R : Nat → Nat) (n : Nat) (b : List Nat) (k : Nat) : irow p R n b k k = R k := by
  unfold irow; rw [if_neg (by omega)]
def iout (p : Nat) (xs ys : List Nat) : Nat → Nat → Nat
  | 0 => fun _ => 0
  | i + 1 =>
    let o := without p (xs.getD i 0) (pvan p xs)
    irow p (iout p xs ys i) (fdiv p (ys.getD i 0) (horner p (xs.getD i 0) o)) o o.length
def pinter (p : Nat) (xs ys : List Nat) : List Nat := trimZ (tab xs.length (iout p xs ys xs.length))
theorem without_len (p x : Nat) (l : List Nat) : (without p x l).length = l.length - 1 := tab_len _ _
end Go.Proofs.Ytgnngifnoaagjaa
