/- Plain Plain2 Plain3, merged. -/
import Derived.Test.YtcnbinjoeilfgaaGA
/- Plain lists: polynomials as lists of numbers. -/
namespace Go.Proofs.Ytcnbinjoeilfgaa

/-- Without the zeros at the end. -/
def trimZ : List Nat → List Nat
  | [] => []
  | x :: l => if x = 0 ∧ trimZ l = [] then [] else x :: trimZ l
theorem trimZ_snoc0 (l : List Nat) : trimZ (l ++ [0]) = trimZ l := by
  induction l with
  | nil => simp [trimZ]
  | cons x l ih => simp only [List.cons_append, trimZ, ih]
theorem trimZ_snoc (l : List Nat) (x : Nat) (h : x ≠ 0) : trimZ (l ++ [x]) = l ++ [x] := by
  induction l with
  | nil => simp [trimZ, h]
  | cons y l ih => simp only [List.cons_append, trimZ, ih]; simp
theorem trimZ_take (l : List Nat) : l.take (trimZ l).length = trimZ l := by
  induction l with
  | nil => simp [trimZ]
  | cons x l ih =>
    simp only [trimZ]
    split
    · simp
    · simp [ih]
theorem trimZ_le (l : List Nat) : (trimZ l).length ≤ l.length := by
  have := congrArg List.length (trimZ_take l)
  simp only [List.length_take] at this; omega
theorem take_snoc (l : List Nat) (k : Nat) (h : k < l.length) : l.take (k + 1) = l.take k ++ [l.getD k 0] := by
  rw [List.take_succ_eq_append_getElem h]; simp [List.getD, h]
def trimP (p : Nat) (l : List Nat) : List Nat := trimZ (l.map (fred p))
def addL (p : Nat) (a b : List Nat) : List Nat := (List.range (max a.length b.length)).map fun i => fadd p (a.getD i 0) (b.getD i 0)
def subL (p : Nat) (a b : List Nat) : List Nat := (List.range (max a.length b.length)).map fun i => fsub p (a.getD i 0) (b.getD i 0)
/-- The first k numbers done, zeros behind. -/
def fill (f : Nat → Nat) (n k : Nat) : List Nat := (List.range k).map f ++ List.replicate (n - k) 0
theorem fill_zero (f : Nat → Nat) (n : Nat) : fill f n 0 = List.replicate n 0 := by simp [fill]
theorem fill_full (f : Nat → Nat) (n : Nat) : fill f n n = (List.range n).map f := by simp [fill]
theorem fill_len (f : Nat → Nat) (n k : Nat) (h : k ≤ n) : (fill f n k).length = n := by simp [fill]; omega
theorem fill_step (f : Nat → Nat) (n k : Nat) (h : k < n) : (fill f n k).set k (f k) = fill f n (k + 1) := by
  unfold fill
  have e : n - k = (n - (k + 1)) + 1 := by omega
  have hlen : ((List.range k).map f).length = k := by simp
  rw [List.range_succ, e, List.replicate_succ, List.set_append, if_neg (by omega), hlen, Nat.sub_self, List.set_cons_zero, List.map_append, List.append_assoc]
  rfl
theorem range_map_getD (l : List Nat) (g : Nat → Nat) : (List.range l.length).map (fun i => g (l.getD i 0)) = l.map g := by
  apply List.ext_getElem
  · simp
  · intro i h1 h2
    simp at h1 h2
    simp [List.getD, h1]
/-- Horner: the value of a polynomial. -/
def horner (p x : Nat) : List Nat → Nat
  | [] => 0
  | c :: l => fadd p (fmul p (horner p x l) x) c
theorem drop_cons (l : List Nat) (k : Nat) (h : k < l.length) : l.drop k = l.getD k 0 :: l.drop (k + 1) := by
  rw [List.drop_eq_getElem_cons h]; simp [List.getD, h]
def radd (p : Nat) (a b : List Nat) : List Nat := trimP p (addL p a b)
def rscale (p : Nat) (a : List Nat) (n : Nat) : List Nat := trimP p (a.map fun x => fmul p x n)
def rsub (p : Nat) (a b : List Nat) : List Nat := radd p a (rscale p b (fneg p 1))
def shift (a : List Nat) (n : Nat) : List Nat := List.replicate n 0 ++ a
def rmulK (p : Nat) (a b : List Nat) : Nat → List Nat
  | 0 => []
  | k + 1 => radd p (rmulK p a b k) (shift (rscale p b (a.getD k 0)) k)
def rmul (p : Nat) (a b : List Nat) : List Nat := rmulK p a b a.length
def pwK (p x : Nat) : Nat → Nat
  | 0 => 1
  | k + 1 => fmul p (pwK p x k) x
def revK (p x : Nat) (l : List Nat) : Nat → Nat
  | 0 => 0
  | k + 1 => fadd p (revK p x l k) (fmul p (l.getD k 0) (pwK p x k))
def reval (p x : Nat) (l : List Nat) : Nat := revK p x l l.length
theorem trimP_le (p : Nat) (l : List Nat) : (trimP p l).length ≤ l.length := Nat.le_trans (trimZ_le _) (by simp)
theorem addL_len (p : Nat) (a b : List Nat) : (addL p a b).length = max a.length b.length := by simp [addL]
theorem radd_le (p : Nat) (a b : List Nat) : (radd p a b).length ≤ max a.length b.length := Nat.le_trans (trimP_le _ _) (by rw [addL_len]; exact Nat.le_refl _)
theorem rscale_le (p : Nat) (a : List Nat) (n : Nat) : (rscale p a n).length ≤ a.length := Nat.le_trans (trimP_le _ _) (by simp)
theorem rsub_le (p : Nat) (a b : List Nat) : (rsub p a b).length ≤ max a.length b.length := by
  have h1 := radd_le p a (rscale p b (fneg p 1)); have h2 := rscale_le p b (fneg p 1)
  unfold rsub; omega
theorem rmulK_le (p : Nat) (a b : List Nat) : ∀ k, (rmulK p a b k).length ≤ k + b.length
  | 0 => by simp [rmulK]
  | k + 1 => by
    have h1 := rmulK_le p a b k
    have h2 := radd_le p (rmulK p a b k) (shift (rscale p b (a.getD k 0)) k)
    have h3 := rscale_le p b (a.getD k 0)
    have h4 : (shift (rscale p b (a.getD k 0)) k).length = k + (rscale p b (a.getD k 0)).length := by simp [shift]
    rw [rmulK]; omega
theorem rmul_le (p : Nat) (a b : List Nat) : (rmul p a b).length ≤ a.length + b.length := rmulK_le p a b a.length

/-! ### Arrays as functions of the index -/
def tab (n : Nat) (F : Nat → Nat) : List Nat := (List.range n).map F
theorem tab_len (n : Nat) (F : Nat → Nat) : (tab n F).length = n := by simp [tab]
theorem tab_get (n : Nat) (F : Nat → Nat) (i : Nat) (h : i < n) : (tab n F).getD i 0 = F i := by simp [tab, List.getD, h]
theorem tab_getD (n : Nat) (F : Nat → Nat) (i : Nat) : (tab n F).getD i 0 = if i < n then F i else 0 := by
  by_cases h : i < n
  · rw [if_pos h, tab_get n F i h]
  · rw [if_neg h]; simp [tab, List.getD, h]
theorem tab_congr {n : Nat} {F G : Nat → Nat} (h : ∀ t, t < n → F t = G t) : tab n F = tab n G := by
  apply List.map_congr_left; intro t ht; exact h t (by simpa using ht)
theorem tab_set (n : Nat) (F : Nat → Nat) (i v : Nat) : (tab n F).set i v = tab n (fun t => if t = i then v else F t) := by
  apply List.ext_getElem
  · simp [tab]
  · intro j h1 h2
    simp only [tab, List.getElem_set, List.getElem_map, List.getElem_range]
    by_cases h : i = j
    · subst h; simp
    · simp [h]; intro e; omega
theorem tab_upd {n : Nat} {F G : Nat → Nat} {i v : Nat} (h : ∀ t, t < n → G t = if t = i then v else F t) : (tab n F).set i v = tab n G := by
  rw [tab_set]; exact tab_congr (fun t ht => (h t ht).symm)
theorem list_tab (l : List Nat) : l = tab l.length (fun t => l.getD t 0) := by
  apply List.ext_getElem
  · simp [tab]
  · intro i h1 h2; simp [tab, List.getD, h1]
theorem tab_zero (n : Nat) : List.replicate n 0 = tab n (fun _ => 0) := by
  apply List.ext_getElem <;> simp [tab]

/-! ### What package poly computes -/
/-- One row of the product, the first k columns done. -/
def mrow (p : Nat) (R : Nat → Nat) (i n : Nat) (b : List Nat) (k : Nat) : Nat → Nat := fun t => if i ≤ t ∧ t < i + k then fadd p (R t) (fmul p n (b.getD (t - i) 0)) else R t
def mout (p : Nat) (a b : List Nat) : Nat → Nat → Nat
  | 0 => fun _ => 0
  | i + 1 => if a.getD i 0 = 0 then mout p a b i else mrow p (mout p a b i) i (a.getD i 0) b b.length
def pmul (p : Nat) (a b : List Nat) : List Nat :=
  if (trimP p a).length = 0 ∨ (trimP p b).length = 0 then [] else trimZ (tab ((trimP p a).length + (trimP p b).length - 1) (mout p (trimP p a) (trimP p b) (trimP p a).length))
theorem mrow_zero (p : Nat) (R : Nat → Nat) (i n : Nat) (b : List Nat) : mrow p R i n b 0 = R := by
  funext t; unfold mrow; rw [if_neg (by omega)]
theorem mrow_step (p : Nat) (R : Nat → Nat) (i n : Nat) (b : List Nat) (k m : Nat) : (tab m (mrow p R i n b k)).set (i + k) (fadd p (R (i + k)) (fmul p n (b.getD k 0))) = tab m (mrow p R i n b (k + 1)) := by
  refine tab_upd fun t _ => ?_
  unfold mrow
  by_cases h : t = i + k
  · subst h; rw [if_pos (by omega), if_pos rfl, Nat.add_sub_cancel_left]
  · rw [if_neg h]
    by_cases h2 : i ≤ t ∧ t < i + k
    · rw [if_pos h2, if_pos (by omega)]
    · rw [if_neg h2, if_neg (by omega)]
theorem mrow_at (p : Nat) (R : Nat → Nat) (i n : Nat) (b : List Nat) (k : Nat) : mrow p R i n b k (i + k) = R (i + k) := by
  unfold mrow; rw [if_neg (by omega)]
/-- The quotient of a product by X - x, from the top down to k. -/
def wq (p x : Nat) (l : List Nat) (k : Nat) : Nat → Nat := fun t => if k ≤ t then horner p x (l.drop (t + 1)) else 0
def without (p x : Nat) (l : List Nat) : List Nat := tab (l.length - 1) (wq p x l 0)
/-- One factor more. -/
def vin (p x : Nat) (V : List Nat) (k : Nat) : Nat → Nat := fun t => if k < t then fsub p (V.getD (t - 1) 0) (fmul p (V.getD t 0) x) else V.getD t 0
def vstep (p : Nat) (V : List Nat) (x : Nat) : List Nat := tab (V.length + 1) (fun t => if t = 0 then fneg p (fmul p (V.getD 0 0) x) else fsub p (V.getD (t - 1) 0) (fmul p (V.getD t 0) x))
def pvanK (p : Nat) (xs : List Nat) : Nat → List Nat
  | 0 => [1]
  | k + 1 => vstep p (pvanK p xs k) (xs.getD k 0)
def pvan (p : Nat) (xs : List Nat) : List Nat := pvanK p xs xs.length
theorem pvanK_len (p : Nat) (xs : List Nat) : ∀ k, (pvanK p xs k).length = k + 1
  | 0 => rfl
  | k + 1 => by rw [pvanK, vstep, tab_len, pvanK_len p xs k]
end Go.Proofs.Ytcnbinjoeilfgaa

/- Plain lists, second part. -/
namespace Go.Proofs.Ytcnbinjoeilfgaa

theorem fadd_comm (p a b : Nat) : fadd p a b = fadd p b a := by unfold fadd; rw [Nat.add_comm]
theorem wq_top (p x : Nat) (l : List Nat) (n : Nat) : tab n (wq p x l n) = List.replicate n 0 := by
  rw [tab_zero]; refine tab_congr fun t ht => ?_
  unfold wq; rw [if_neg (by omega)]
theorem wq_step (p x : Nat) (l : List Nat) (n j : Nat) : (tab n (wq p x l (j + 1))).set j (horner p x (l.drop (j + 1))) = tab n (wq p x l j) := by
  refine tab_upd fun t _ => ?_
  unfold wq
  by_cases h : t = j
  · subst h; rw [if_pos (Nat.le_refl _), if_pos rfl]
  · rw [if_neg h]
    by_cases h2 : j ≤ t
    · rw [if_pos h2, if_pos (by omega)]
    · rw [if_neg h2, if_neg (by omega)]
theorem horner_drop (p x : Nat) (l : List Nat) (k : Nat) (h : k < l.length) : horner p x (l.drop k) = fadd p (l.getD k 0) (fmul p (horner p x (l.drop (k + 1))) x) := by
  rw [drop_cons l k h, horner, fadd_comm]
theorem getD_snoc0 (V : List Nat) (t : Nat) : (V ++ [0]).getD t 0 = V.getD t 0 := by
  simp only [List.getD]
  by_cases h : t < V.length
  · rw [List.getElem?_append_left h]
  · rw [List.getElem?_append_right (by omega), List.getElem?_eq_none (l := V) (by omega)]
    cases h2 : t - V.length <;> simp
theorem vin_top (p x : Nat) (V : List Nat) : V ++ [0] = tab (V.length + 1) (vin p x V V.length) := by
  conv => lhs; rw [list_tab (V ++ [0])]
  rw [List.length_append]
  refine tab_congr fun t ht => ?_
  rw [getD_snoc0]; unfold vin; rw [if_neg (by simp at ht; omega)]
theorem vin_step (p x : Nat) (V : List Nat) (n j : Nat) : (tab n (vin p x V (j + 1))).set (j + 1) (fsub p (V.getD j 0) (fmul p (V.getD (j + 1) 0) x)) = tab n (vin p x V j) := by
  refine tab_upd fun t _ => ?_
  unfold vin
  by_cases h : t = j + 1
  · subst h; rw [if_pos (by omega), if_pos rfl, Nat.add_sub_cancel]
  · rw [if_neg h]
    by_cases h2 : j < t
    · rw [if_pos h2, if_pos (by omega)]
    · rw [if_neg h2, if_neg (by omega)]
theorem vin_at (p x : Nat) (V : List Nat) (j t : Nat) (h : t ≤ j) : vin p x V j t = V.getD t 0 := by
  unfold vin; rw [if_neg (by omega)]
theorem vin_last (p x : Nat) (V : List Nat) : (tab (V.length + 1) (vin p x V 0)).set 0 (fneg p (fmul p (V.getD 0 0) x)) = vstep p V x := by
  refine tab_upd fun t _ => ?_
  unfold vin
  by_cases h : t = 0
  · rw [if_pos h, if_pos h]
  · rw [if_neg h, if_neg h, if_pos (by omega)]

/-! ### DivMod -/
/-- One step of the division: subtract fac times the divisor at i, the first k columns done. -/
def drow (p : Nat) (R : Nat → Nat) (i fac : Nat) (b : List Nat) (k : Nat) : Nat → Nat := fun t => if i ≤ t ∧ t < i + k then fsub p (R t) (fmul p fac (b.getD (t - i) 0)) else R t
theorem drow_zero (p : Nat) (R : Nat → Nat) (i n : Nat) (b : List Nat) : drow p R i n b 0 = R := by
  funext t; unfold drow; rw [if_neg (by omega)]
theorem drow_step (p : Nat) (R : Nat → Nat) (i n : Nat) (b : List Nat) (k m : Nat) : (tab m (drow p R i n b k)).set (i + k) (fsub p (R (i + k)) (fmul p n (b.getD k 0))) = tab m (drow p R i n b (k + 1)) := by
  refine tab_upd fun t _ => ?_
  unfold drow
  by_cases h : t = i + k
  · subst h; rw [if_pos (by omega), if_pos rfl, Nat.add_sub_cancel_left]
  · rw [if_neg h]
    by_cases h2 : i ≤ t ∧ t < i + k
    · rw [if_pos h2, if_pos (by omega)]
    · rw [if_neg h2, if_neg (by omega)]
theorem drow_at (p : Nat) (R : Nat → Nat) (i n : Nat) (b : List Nat) (k : Nat) : drow p R i n b k (i + k) = R (i + k) := by
  unfold drow; rw [if_neg (by omega)]
/-- The rest, before index i is done (i counts down). c: how many indices are done; i + c = n. -/
def dR (p : Nat) (a b : List Nat) (n inv : Nat) : Nat → Nat → Nat
  | 0 => fun t => a.getD t 0
  | c + 1 =>
    let R := dR p a b n inv c
    let i := n - 1 - c
    let fac := fmul p (R (i + b.length - 1)) inv
    if fac = 0 then R else drow p R i fac b b.length
def dfac (p : Nat) (a b : List Nat) (n inv i : Nat) : Nat := fmul p (dR p a b n inv (n - 1 - i) (i + b.length - 1)) inv
def dQ (p : Nat) (a b : List Nat) (n inv k : Nat) : Nat → Nat := fun t => if k ≤ t then dfac p a b n inv t else 0
theorem dQ_top (p : Nat) (a b : List Nat) (n inv : Nat) : tab n (dQ p a b n inv n) = List.replicate n 0 := by
  rw [tab_zero]; refine tab_congr fun t ht => ?_
  unfold dQ; rw [if_neg (by omega)]
theorem dQ_step (p : Nat) (a b : List Nat) (n inv j : Nat) : (tab n (dQ p a b n inv (j + 1))).set j (dfac p a b n inv j) = tab n (dQ p a b n inv j) := by
  refine tab_upd fun t _ => ?_
  unfold dQ
  by_cases h : t = j
  · subst h; rw [if_pos (Nat.le_refl _), if_pos rfl]
  · rw [if_neg h]
    by_cases h2 : j ≤ t
    · rw [if_pos h2, if_pos (by omega)]
    · rw [if_neg h2, if_neg (by omega)]
theorem dR_step (p : Nat) (a b : List Nat) (n inv j : Nat) (h : j < n) : dR p a b n inv (n - j) = if dfac p a b n inv j = 0 then dR p a b n inv (n - (j + 1)) else drow p (dR p a b n inv (n - (j + 1))) j (dfac p a b n inv j) b b.length := by
  have e : n - j = (n - (j + 1)) + 1 := by omega
  have e2 : n - 1 - (n - (j + 1)) = j := by omega
  rw [e, dR]
  unfold dfac
  simp only [e2]
  have e3 : n - 1 - j = n - (j + 1) := by omega
  rw [e3]
/-- DivMod's quotient and rest, b not zero. -/
def dvN (p : Nat) (a b : List Nat) : Nat := (trimP p a).length - (trimP p b).length + 1
def dvI (p : Nat) (b : List Nat) : Nat := finv p ((trimP p b).getD ((trimP p b).length - 1) 0)
def pquo (p : Nat) (a b : List Nat) : List Nat := if (trimP p a).length < (trimP p b).length then [] else trimZ (tab (dvN p a b) (dQ p (trimP p a) (trimP p b) (dvN p a b) (dvI p b) 0))
def prem (p : Nat) (a b : List Nat) : List Nat := if (trimP p a).length < (trimP p b).length then trimP p a else trimZ (tab (trimP p a).length (dR p (trimP p a) (trimP p b) (dvN p a b) (dvI p b) (dvN p a b)))

/-! ### Interpolate -/
def irow (p : Nat) (R : Nat → Nat) (fac : Nat) (o : List Nat) (k : Nat) : Nat → Nat := fun t => if t < k then fadd p (R t) (fmul p fac (o.getD t 0)) else R t
theorem irow_zero (p : Nat) (R : Nat → Nat) (n : Nat) (b : List Nat) : irow p R n b 0 = R := by
  funext t; unfold irow; rw [if_neg (by omega)]
theorem irow_step (p : Nat) (R : Nat → Nat) (n : Nat) (b : List Nat) (k m : Nat) : (tab m (irow p R n b k)).set k (fadd p (R k) (fmul p n (b.getD k 0))) = tab m (irow p R n b (k + 1)) := by
  refine tab_upd fun t _ => ?_
  unfold irow
  by_cases h : t = k
  · subst h; rw [if_pos (by omega), if_pos rfl]
  · rw [if_neg h]
    by_cases h2 : t < k
    · rw [if_pos h2, if_pos (by omega)]
    · rw [if_neg h2, if_neg (by omega)]
theorem irow_at (p : Nat) (R : Nat → Nat) (n : Nat) (b : List Nat) (k : Nat) : irow p R n b k k = R k := by
  unfold irow; rw [if_neg (by omega)]
def iout (p : Nat) (xs ys : List Nat) : Nat → Nat → Nat
  | 0 => fun _ => 0
  | i + 1 =>
    let o := without p (xs.getD i 0) (pvan p xs)
    irow p (iout p xs ys i) (fdiv p (ys.getD i 0) (horner p (xs.getD i 0) o)) o o.length
def pinter (p : Nat) (xs ys : List Nat) : List Nat := trimZ (tab xs.length (iout p xs ys xs.length))
theorem without_len (p x : Nat) (l : List Nat) : (without p x l).length = l.length - 1 := tab_len _ _
end Go.Proofs.Ytcnbinjoeilfgaa

/- Plain lists, third part: transforms. -/
namespace Go.Proofs.Ytcnbinjoeilfgaa

/-- The generator of a known prime. -/
def gent (p : Nat) : Nat :=
  if p = 17 then 3 else if p = 97 then 5 else if p = 193 then 5 else if p = 257 then 3 else if p = 12289 then 11 else if p = 65537 then 3 else if p = 18446744069414584321 then 7 else 0
/-- Is n a length that has a root? -/
def rootB (p : Nat) (n : Int) : Bool := vld p && decide (1 ≤ n) && decide (∃ k, k < 63 ∧ n.toNat = 2 ^ k) && decide ((p - 1) % n.toNat = 0)
def rootN (p n : Nat) : Nat := gent p ^ ((p - 1) / n) % p
def rootV (p : Nat) (n : Int) : Nat := if rootB p n then rootN p n.toNat else 0
theorem rootB_vld {p : Nat} {n : Int} (h : rootB p n = true) : vld p = true := by
  simp only [rootB, Bool.and_eq_true] at h; exact h.1.1.1
theorem rootB_spec {p : Nat} {n : Int} (h : rootB p n = true) : vld p = true ∧ (∃ k, k < 63 ∧ n = ((2 ^ k : Nat) : Int)) ∧ (p - 1) % n.toNat = 0 := by
  simp only [rootB, Bool.and_eq_true, decide_eq_true_eq] at h
  obtain ⟨⟨⟨h1, h2⟩, k, hk, h3⟩, h4⟩ := h
  exact ⟨h1, ⟨k, hk, by omega⟩, h4⟩
theorem rootB_mk {p k : Nat} (hv : vld p = true) (hk : k < 63) (h : (p - 1) % 2 ^ k = 0) : rootB p ((2 ^ k : Nat) : Int) = true := by
  simp only [rootB, Bool.and_eq_true, decide_eq_true_eq, hv, Int.toNat_natCast, h]
  exact ⟨⟨⟨trivial, by have := Nat.two_pow_pos k; omega⟩, k, hk, rfl⟩, trivial⟩

/-! ### the fast transform -/
def evens (l : List Nat) (n : Nat) : List Nat := tab n (fun i => l.getD (2 * i) 0)
def odds (l : List Nat) (n : Nat) : List Nat := tab n (fun i => l.getD (2 * i + 1) 0)
/-- One level: the values of the halves joined. -/
def joinv (p : Nat) (e o : List Nat) (n w : Nat) : Nat → Nat := fun i =>
  if i < n then fadd p (e.getD i 0) (fmul p (pwK p w i) (o.getD i 0)) else fsub p (e.getD (i - n) 0) (fmul p (pwK p w (i - n)) (o.getD (i - n) 0))
/-- The first k pairs joined, the list l behind. -/
def joink (p : Nat) (l e o : List Nat) (n w k : Nat) : Nat → Nat := fun t =>
  if t < k ∨ (n ≤ t ∧ t < n + k) then joinv p e o n w t else l.getD t 0
def fft (p : Nat) : Nat → List Nat → Nat → List Nat
  | 0, l, _ => l
  | k + 1, l, w => tab (2 ^ (k + 1)) (joinv p (fft p k (evens l (2 ^ k)) (fmul p w w)) (fft p k (odds l (2 ^ k)) (fmul p w w)) (2 ^ k) w)
theorem fft_len (p : Nat) : ∀ k l w, l.length = 2 ^ k → (fft p k l w).length = 2 ^ k
  | 0, _, _, h => h
  | k + 1, _, _, _ => by rw [fft, tab_len]
theorem joink_zero (p : Nat) (l e o : List Nat) (n w : Nat) : joink p l e o n w 0 = fun t => l.getD t 0 := by
  funext t; unfold joink; rw [if_neg (by omega)]
theorem joink_all (p : Nat) (l e o : List Nat) (n w : Nat) : tab (n + n) (joink p l e o n w n) = tab (n + n) (joinv p e o n w) := by
  refine tab_congr fun t ht => ?_
  unfold joink; rw [if_pos (by omega)]
theorem joink_step (p : Nat) (l e o : List Nat) (n w k m : Nat) (h : k < n) :
    ((tab m (joink p l e o n w k)).set k (fadd p (e.getD k 0) (fmul p (pwK p w k) (o.getD k 0)))).set (k + n) (fsub p (e.getD k 0) (fmul p (pwK p w k) (o.getD k 0))) = tab m (joink p l e o n w (k + 1)) := by
  rw [tab_set]
  refine tab_upd fun t _ => ?_
  unfold joink
  by_cases h1 : t = k + n
  · subst h1; rw [if_pos (by omega), if_pos rfl]
    unfold joinv; rw [if_neg (by omega), Nat.add_sub_cancel]
  · rw [if_neg h1]
    by_cases h2 : t = k
    · subst h2; rw [if_pos (by omega), if_pos rfl]; unfold joinv; rw [if_pos h]
    · rw [if_neg h2]
      by_cases h3 : t < k ∨ (n ≤ t ∧ t < n + k)
      · rw [if_pos h3, if_pos (by omega)]
      · rw [if_neg h3, if_neg (by omega)]

/-! ### domains, values -/
/-- The point with number i: s times w to the i. -/
def dmK (p s w : Nat) : Nat → Nat
  | 0 => s
  | i + 1 => fmul p (dmK p s w i) w
/-- Coefficients that are folded onto n places, each times a power of s; the first k done. -/
def fold (p : Nat) (a : List Nat) (s n : Nat) : Nat → Nat → Nat
  | 0 => fun _ => 0
  | k + 1 => fun t => if t = k % n then fadd p (fold p a s n k t) (fmul p (a.getD k 0) (pwK p s k)) else fold p a s n k t
theorem fold_step (p : Nat) (a : List Nat) (s n k : Nat) :
    (tab n (fold p a s n k)).set (k % n) (fadd p (fold p a s n k (k % n)) (fmul p (a.getD k 0) (pwK p s k))) = tab n (fold p a s n (k + 1)) := by
  refine tab_upd fun t _ => ?_
  show (if t = k % n then _ else _) = _
  by_cases h : t = k % n
  · rw [if_pos h, if_pos h, h]
  · rw [if_neg h, if_neg h]
end Go.Proofs.Ytcnbinjoeilfgaa
