/- Plain lists: polynomials as lists of numbers. -/
import Derived.Test.YtndiaamoapidoaaBase
namespace Go.Proofs.Ytndiaamoapidoaa

/-- Without the zeros at the end. -/
def trimZ : List Nat → List Nat
  | [] => []
  | x :: l => if x = 0 ∧ trimZ l = [] then [] else x :: trimZ l
theorem trimZ_snoc0 (l : List Nat) : trimZ (l ++ [0]) = trimZ l := by
  induction l with
  | nil => simp [trimZ]
  | cons x l ih => simp only [List.cons_append, trimZ, ih]
theorem trimZ_snoc (l : List Nat) (x : Nat) (h : x ≠ 0) : trimZ (l ++ [x]) = l ++ [x] := by
  induction l with
  | nil => simp [trimZ, h]
  | cons y l ih => simp only [List.cons_append, trimZ, ih]; simp
theorem trimZ_take (l : List Nat) : l.take (trimZ l).length = trimZ l := by
  induction l with
  | nil => simp [trimZ]
  | cons x l ih =>
    simp only [trimZ]
    split
    · simp
    · simp [ih]
theorem trimZ_le (l : List Nat) : (trimZ l).length ≤ l.length := by
  have := congrArg List.length (trimZ_take l)
  simp only [List.length_take] at this; omega
theorem take_snoc (l : List Nat) (k : Nat) (h : k < l.length) : l.take (k + 1) = l.take k ++ [l.getD k 0] := by
  rw [List.take_succ_eq_append_getElem h]; simp [List.getD, h]
def trimP (p : Nat) (l : List Nat) : List Nat := trimZ (l.map (fred p))
def addL (p : Nat) (a b : List Nat) : List Nat := (List.range (max a.length b.length)).map fun i => fadd p (a.getD i 0) (b.getD i 0)
def subL (p : Nat) (a b : List Nat) : List Nat := (List.range (max a.length b.length)).map fun i => fsub p (a.getD i 0) (b.getD i 0)
/-- The first k numbers done, zeros behind. -/
def fill (f : Nat → Nat) (n k : Nat) : List Nat := (List.range k).map f ++ List.replicate (n - k) 0
theorem fill_zero (f : Nat → Nat) (n : Nat) : fill f n 0 = List.replicate n 0 := by simp [fill]
theorem fill_full (f : Nat → Nat) (n : Nat) : fill f n n = (List.range n).map f := by simp [fill]
theorem fill_len (f : Nat → Nat) (n k : Nat) (h : k ≤ n) : (fill f n k).length = n := by simp [fill]; omega
theorem fill_step (f : Nat → Nat) (n k : Nat) (h : k < n) : (fill f n k).set k (f k) = fill f n (k + 1) := by
  unfold fill
  have e : n - k = (n - (k + 1)) + 1 := by omega
  have hlen : ((List.range k).map f).length = k := by simp
  rw [List.range_succ, e, List.replicate_succ, List.set_append, if_neg (by omega), hlen, Nat.sub_self, List.set_cons_zero, List.map_append, List.append_assoc]
  rfl
theorem range_map_getD (l : List Nat) (g : Nat → Nat) : (List.range l.length).map (fun i => g (l.getD i 0)) = l.map g := by
  apply List.ext_getElem
  · simp
  · intro i h1 h2
    simp at h1 h2
    simp [List.getD, h1]
/-- Horner: the value of a polynomial. -/
def horner (p x : Nat) : List Nat → Nat
  | [] => 0
  | c :: l => fadd p (fmul p (horner p x l) x) c
theorem drop_cons (l : List Nat) (k : Nat) (h : k < l.length) : l.drop k = l.getD k 0 :: l.drop (k + 1) := by
  rw [List.drop_eq_getElem_cons h]; simp [List.getD, h]
def radd (p : Nat) (a b : List Nat) : List Nat := trimP p (addL p a b)
def rscale (p : Nat) (a : List Nat) (n : Nat) : List Nat := trimP p (a.map fun x => fmul p x n)
def rsub (p : Nat) (a b : List Nat) : List Nat := radd p a (rscale p b (fneg p 1))
def shift (a : List Nat) (n : Nat) : List Nat := List.replicate n 0 ++ a
def rmulK (p : Nat) (a b : List Nat) : Nat → List Nat
  | 0 => []
  | k + 1 => radd p (rmulK p a b k) (shift (rscale p b (a.getD k 0)) k)
def rmul (p : Nat) (a b : List Nat) : List Nat := rmulK p a b a.length
def pwK (p x : Nat) : Nat → Nat
  | 0 => 1
  | k + 1 => fmul p (pwK p x k) x
def revK (p x : Nat) (l : List Nat) : Nat → Nat
  | 0 => 0
  | k + 1 => fadd p (revK p x l k) (fmul p (l.getD k 0) (pwK p x k))
def reval (p x : Nat) (l : List Nat) : Nat := revK p x l l.length
theorem trimP_le (p : Nat) (l : List Nat) : (trimP p l).length ≤ l.length := Nat.le_trans (trimZ_le _) (by simp)
theorem addL_len (p : Nat) (a b : List Nat) : (addL p a b).length = max a.length b.length := by simp [addL]
theorem radd_le (p : Nat) (a b : List Nat) : (radd p a b).length ≤ max a.length b.length := Nat.le_trans (trimP_le _ _) (by rw [addL_len]; exact Nat.le_refl _)
theorem rscale_le (p : Nat) (a : List Nat) (n : Nat) : (rscale p a n).length ≤ a.length := Nat.le_trans (trimP_le _ _) (by simp)
theorem rsub_le (p : Nat) (a b : List Nat) : (rsub p a b).length ≤ max a.length b.length := by
  have h1 := radd_le p a (rscale p b (fneg p 1)); have h2 := rscale_le p b (fneg p 1)
  unfold rsub; omega
theorem rmulK_le (p : Nat) (a b : List Nat) : ∀ k, (rmulK p a b k).length ≤ k + b.length
  | 0 => by simp [rmulK]
  | k + 1 => by
    have h1 := rmulK_le p a b k
    have h2 := radd_le p (rmulK p a b k) (shift (rscale p b (a.getD k 0)) k)
    have h3 := rscale_le p b (a.getD k 0)
    have h4 : (shift (rscale p b (a.getD k 0)) k).length = k + (rscale p b (a.getD k 0)).length := by simp [shift]
    rw [rmulK]; omega
theorem rmul_le (p : Nat) (a b : List Nat) : (rmul p a b).length ≤ a.length + b.length := rmulK_le p a b a.length

/-! ### Arrays as functions of the index -/
def tab (n : Nat) (F : Nat → Nat) : List Nat := (List.range n).map F
theorem tab_len (n : Nat) (F : Nat → Nat) : (tab n F).length = n := by simp [tab]
theorem tab_get (n : Nat) (F : Nat → Nat) (i : Nat) (h : i < n) : (tab n F).getD i 0 = F i := by simp [tab, List.getD, h]
theorem tab_getD (n : Nat) (F : Nat → Nat) (i : Nat) : (tab n F).getD i 0 = if i < n then F i else 0 := by
  by_cases h : i < n
  · rw [if_pos h, tab_get n F i h]
  · rw [if_neg h]; simp [tab, List.getD, h]
theorem tab_congr {n : Nat} {F G : Nat → Nat} (h : ∀ t, t < n → F t = G t) : tab n F = tab n G := by
  apply List.map_congr_left; intro t ht; exact h t (by simpa using ht)
theorem tab_set (n : Nat) (F : Nat → Nat) (i v : Nat) : (tab n F).set i v = tab n (fun t => if t = i then v else F t) := by
  apply List.ext_getElem
  · simp [tab]
  · intro j h1 h2
    simp only [tab, List.getElem_set, List.getElem_map, List.getElem_range]
    by_cases h : i = j
    · subst h; simp
    · simp [h]; intro e; omega
theorem tab_upd {n : Nat} {F G : Nat → Nat} {i v : Nat} (h : ∀ t, t < n → G t = if t = i then v else F t) : (tab n F).set i v = tab n G := by
  rw [tab_set]; exact tab_congr (fun t ht => (h t ht).symm)
theorem list_tab (l : List Nat) : l = tab l.length (fun t => l.getD t 0) := by
  apply List.ext_getElem
  · simp [tab]
  · intro i h1 h2; simp [tab, List.getD, h1]
theorem tab_zero (n : Nat) : List.replicate n 0 = tab n (fun _ => 0) := by
  apply List.ext_getElem <;> simp [tab]

/-! ### What package poly computes -/
/-- One row of the product, the first k columns done. -/
def mrow (p : Nat) (R : Nat → Nat) (i n : Nat) (b : List Nat) (k : Nat) : Nat → Nat := fun t => if i ≤ t ∧ t < i + k then fadd p (R t) (fmul p n (b.getD (t - i) 0)) else R t
def mout (p : Nat) (a b : List Nat) : Nat → Nat → Nat
  | 0 => fun _ => 0
  | i + 1 => if a.getD i 0 = 0 then mout p a b i else mrow p (mout p a b i) i (a.getD i 0) b b.length
def pmul (p : Nat) (a b : List Nat) : List Nat :=
  if (trimP p a).length = 0 ∨ (trimP p b).length = 0 then [] else trimZ (tab ((trimP p a).length + (trimP p b).length - 1) (mout p (trimP p a) (trimP p b) (trimP p a).length))
theorem mrow_zero (p : Nat) (R : Nat → Nat) (i n : Nat) (b : List Nat) : mrow p R i n b 0 = R := by
  funext t; unfold mrow; rw [if_neg (by omega)]
theorem mrow_step (p : Nat) (R : Nat → Nat) (i n : Nat) (b : List Nat) (k m : Nat) : (tab m (mrow p R i n b k)).set (i + k) (fadd p (R (i + k)) (fmul p n (b.getD k 0))) = tab m (mrow p R i n b (k + 1)) := by
  refine tab_upd fun t _ => ?_
  unfold mrow
  by_cases h : t = i + k
  · subst h; rw [if_pos (by omega), if_pos rfl, Nat.add_sub_cancel_left]
  · rw [if_neg h]
    by_cases h2 : i ≤ t ∧ t < i + k
    · rw [if_pos h2, if_pos (by omega)]
    · rw [if_neg h2, if_neg (by omega)]
theorem mrow_at (p : Nat) (R : Nat → Nat) (i n : Nat) (b : List Nat) (k : Nat) : mrow p R i n b k (i + k) = R (i + k) := by
  unfold mrow; rw [if_neg (by omega)]
/-- The quotient of a product by X - x, from the top down to k. -/
def wq (p x : Nat) (l : List Nat) (k : Nat) : Nat → Nat := fun t => if k ≤ t then horner p x (l.drop (t + 1)) else 0
def without (p x : Nat) (l : List Nat) : List Nat := tab (l.length - 1) (wq p x l 0)
/-- One factor more. -/
def vin (p x : Nat) (V : List Nat) (k : Nat) : Nat → Nat := fun t => if k < t then fsub p (V.getD (t - 1) 0) (fmul p (V.getD t 0) x) else V.getD t 0
def vstep (p : Nat) (V : List Nat) (x : Nat) : List Nat := tab (V.length + 1) (fun t => if t = 0 then fneg p (fmul p (V.getD 0 0) x) else fsub p (V.getD (t - 1) 0) (fmul p (V.getD t 0) x))
def pvanK (p : Nat) (xs : List Nat) : Nat → List Nat
  | 0 => [1]
  | k + 1 => vstep p (pvanK p xs k) (xs.getD k 0)
def pvan (p : Nat) (xs : List Nat) : List Nat := pvanK p xs xs.length
theorem pvanK_len (p : Nat) (xs : List Nat) : ∀ k, (pvanK p xs k).length = k + 1
  | 0 => rfl
  | k + 1 => by rw [pvanK, vstep, tab_len, pvanK_len p xs k]
end Go.Proofs.Ytndiaamoapidoaa
