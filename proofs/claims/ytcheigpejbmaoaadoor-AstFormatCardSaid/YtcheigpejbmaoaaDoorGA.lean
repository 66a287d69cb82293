/- Base Reg, merged. -/
import Derived.Test.YtcheigpejbmaoaaDoorRows
import Derived.WalkKit
import Derived.WalkSpells
import Derived.WalkLawsBesides
import Derived.Below
import Derived.Lib.Hide
import Derived.Orders
/- Plain definitions: the arithmetic of the seven fields on natural numbers. -/
namespace Go.Proofs.YtcheigpejbmaoaaDoor
open Go.RowKit

def vld (p : Nat) : Bool := p == 17 || p == 97 || p == 193 || p == 257 || p == 12289 || p == 65537 || p == 18446744069414584321
def fred (p n : Nat) : Nat := if vld p then n % p else 0
def fadd (p a b : Nat) : Nat := if vld p then (a + b) % p else 0
def fneg (p a : Nat) : Nat := if vld p then (p - a % p) % p else 0
def fsub (p a b : Nat) : Nat := fadd p a (fneg p b)
def fmul (p a b : Nat) : Nat := if vld p then a * b % p else 0
def fpow (p a e : Nat) : Nat := if vld p then a ^ e % p else 0
def finv (p a : Nat) : Nat := fpow p a (p - 2)
def fdiv (p a b : Nat) : Nat := fmul p a (finv p b)

/-- 2^64, behind a name that no rule opens. -/
def W64 : Nat := 18446744073709551616

theorem vld_cases {p : Nat} (h : vld p = true) : p = 17 ∨ p = 97 ∨ p = 193 ∨ p = 257 ∨ p = 12289 ∨ p = 65537 ∨ p = 18446744069414584321 := by
  simp only [vld, Bool.or_eq_true, beq_iff_eq] at h; omega
theorem vld_not {p : Nat} (h : vld p = false) : p ≠ 17 ∧ p ≠ 97 ∧ p ≠ 193 ∧ p ≠ 257 ∧ p ≠ 12289 ∧ p ≠ 65537 ∧ p ≠ 18446744069414584321 := by
  simp only [vld, Bool.or_eq_false_iff, beq_eq_false_iff_ne] at h; omega
theorem vld_bd {p : Nat} (h : vld p = true) : 17 ≤ p ∧ p ≤ 18446744069414584321 := by
  rcases vld_cases h with h | h | h | h | h | h | h <;> omega
theorem fred_le {p n : Nat} : fred p n ≤ n := by unfold fred; split; exact Nat.mod_le _ _; exact Nat.zero_le _
theorem lt_of_mod {p n : Nat} (h : vld p = true) : n % p < p := Nat.mod_lt _ (by have := vld_bd h; omega)
theorem fred_bd (p n : Nat) : fred p n < 18446744073709551616 := by
  unfold fred; split
  · rename_i h; have := lt_of_mod (n := n) h; have := vld_bd h; omega
  · omega
theorem fadd_bd (p a b : Nat) : fadd p a b < 18446744073709551616 := by
  unfold fadd; split
  · rename_i h; have := lt_of_mod (n := a + b) h; have := vld_bd h; omega
  · omega
theorem fneg_bd (p a : Nat) : fneg p a < 18446744073709551616 := by
  unfold fneg; split
  · rename_i h; have := lt_of_mod (n := p - a % p) h; have := vld_bd h; omega
  · omega
theorem fmul_bd (p a b : Nat) : fmul p a b < 18446744073709551616 := by
  unfold fmul; split
  · rename_i h; have := lt_of_mod (n := a * b) h; have := vld_bd h; omega
  · omega
theorem fpow_bd (p a b : Nat) : fpow p a b < 18446744073709551616 := by
  unfold fpow; split
  · rename_i h; have := lt_of_mod (n := a ^ b) h; have := vld_bd h; omega
  · omega
theorem fsub_bd (p a b : Nat) : fsub p a b < 18446744073709551616 := fadd_bd _ _ _
theorem finv_bd (p a : Nat) : finv p a < 18446744073709551616 := fpow_bd _ _ _
theorem fdiv_bd (p a b : Nat) : fdiv p a b < 18446744073709551616 := fmul_bd _ _ _

/-- The world w' is w with blocks more: all that was there is as it was. -/
def Ext (w w' : World) : Prop := Below w.heap.size w w'
theorem Ext.refl (w : World) : Ext w w := Below.refl _ _
theorem Ext.size {w w' : World} (h : Ext w w') : w.heap.size ≤ w'.heap.size := Below.size h
theorem Ext.trans {a b c : World} (h : Ext a b) (k : Ext b c) : Ext a c := Below.trans h (Below.mono k h.size)
theorem Ext.alloc {a w : World} (h : Ext a w) (o : Obj) : Ext a (w.alloc o) := Below.alloc h h.size o
theorem Ext.drew {a w : World} (h : Ext a w) : Ext a w.drew := Below.drew h
theorem Ext.box {w w1 : World} {o : Obj} (h : Ext (w.alloc o) w1) : Ext w w1 := ((Ext.refl w).alloc o).trans h
theorem Ext.ofDrew {w w1 : World} (h : Ext w.drew w1) : Ext w w1 := (Ext.refl w).drew.trans h
theorem Ext.cell {w w1 : World} (h : Ext w w1) {p : Addr} {v : Value} (hc : w.cell? p = some v) : w1.cell? p = some v :=
  (Below.cell h (World.block_lt_of_cell? w p hc)).trans hc
theorem Ext.boxCell {w w1 : World} {v : Value} {t : TypeId} (h : Ext (w.alloc (.cells #[v] t)) w1) : w1.cell? ⟨w.heap.size, 0, none⟩ = some v :=
  h.cell (by simp)
theorem Ext.setNew {a w : World} (h : Ext a w) {p : Addr} (hp : a.heap.size ≤ p.block) (v : Value) : Ext a (w.setCell p v) := Below.setCell h hp v
theorem Ext.below {w w1 : World} (h : Ext w w1) : Below w.heap.size w w1 := h

theorem ret_u (a b : Int) (h : a = b) : Ending.returned (.int .u64 a) = .returned (.int .u64 b) := by rw [h]
end Go.Proofs.YtcheigpejbmaoaaDoor

/- A region that draws its order, by facts: each operation of its first part is shown to yield a value that meets a fact, in every later world that only has blocks more; then whatever order is drawn the values meet the facts. -/
namespace Go.Proofs.YtcheigpejbmaoaaDoor
open Go.RowKit

def Fact := World → Value → Prop
def eqF (v : Value) : Fact := fun _ x => x = v
def Mono (F : Fact) : Prop := ∀ w w' v, Ext w w' → F w v → F w' v
def anc (B : Array Nat) (i j : Nat) : Bool := (B.getD i 0).testBit j

def fat : List Fact → Nat → Fact
  | F :: _, 0 => F
  | _ :: Fs, i + 1 => fat Fs i
  | [], _ => fun _ _ => True
theorem fat_zero (F : Fact) (Fs : List Fact) : fat (F :: Fs) 0 = F := rfl
theorem fat_succ (F : Fact) (Fs : List Fact) (i : Nat) : fat (F :: Fs) (i + 1) = fat Fs i := rfl
theorem fat_take : ∀ (Fs : List Fact) (k i : Nat), i < k → fat (Fs.take k) i = fat Fs i
  | [], _, _, _ => by rw [List.take_nil]
  | F :: Fs, k + 1, 0, _ => rfl
  | F :: Fs, k + 1, i + 1, h => by rw [List.take_succ_cons, fat_succ, fat_succ, fat_take Fs k i (by omega)]

def DepsV (Fs : List Fact) (w : World) : List (Nat × Tmp) → (Act → Prop) → Act → Prop
  | [], k, a => k a
  | x :: d, k, a => ∀ v, (fat Fs x.1) w v → DepsV Fs w d k (a.put (some x.2) v)
def EndV (w : World) : List Fact → List (Option Tmp) → (Act → Prop) → Act → Prop
  | F :: Fs, t :: T, k, a => ∀ v, F w v → EndV w Fs T k (a.put t v)
  | _, _, k, a => k a
def OpPost (a : Act) (w : World) (t : Option Tmp) (F : Fact) : Exit → Act → World → Prop
  | .normal, a', w' => a'.defers = a.defers ∧ Ext w w' ∧ ∃ v, F w' v ∧ ∀ d, t = some d → a'.tmps[d]? = some v
  | _, _, _ => False
def nth : List Value → Nat → Option Value
  | x :: _, 0 => some x
  | _ :: l, n + 1 => nth l n
  | [], _ => none
theorem nth_eq : ∀ (l : List Value) (n : Nat), nth l n = l[n]?
  | [], _ => by simp [nth]
  | _ :: _, 0 => by simp [nth]
  | _ :: l, n + 1 => by simp [nth, nth_eq l n]
theorem OpPost.some {a a' : Act} {w w' : World} {d : Tmp} {F : Fact} (v : Value) (hd : a'.defers = a.defers) (hv : nth a'.tmps.toList d = Option.some v) (hx : Ext w w') (hF : F w' v) : OpPost a w (Option.some d) F .normal a' w' :=
  ⟨hd, hx, v, hF, fun _ h => by injection h with h; subst h; rw [nth_eq] at hv; rw [← hv, Array.getElem?_toList]⟩
def From (P : Program) (ops : Array Oper) (Q : Exit → Act → World → Prop) (a0 : Act) (w0 : World) (T0 : List (Option Tmp)) : List Oper → List (List (Nat × Tmp)) → List (Option Tmp) → List Fact → Prop
  | o :: l, d :: D, t :: T, Fs => ∃ F, Mono F ∧ (∀ w, Ext w0 w → DepsV Fs w d (fun a => wpList P ops (OpPost a w t F) [o] a w) a0) ∧ From P ops Q a0 w0 T0 l D T (Fs ++ [F])
  | l, _, _, Fs => ∀ w, Ext w0 w → EndV w Fs T0 (fun a => wpList P ops Q l a w) a0

def isSel : Op → Bool
  | .select _ _ => true
  | _ => false
def chkOp (ops : Array Oper) (B : Array Nat) (D : List (List (Nat × Tmp))) (T : List (Option Tmp)) (i : Nat) (o : Oper) : Bool :=
  !isSel o.op &&
  (o.after.all fun e => !Region.binds .any e || decide (e.on < i)) &&
  ((List.range ops.size).all fun j => !anc B i j || o.after.any fun e => Region.binds .any e && (e.on == j || anc B e.on j)) &&
  (if i < D.length then
    (T.getD i none == o.dst) &&
    ((D.getD i []).all fun x => anc B i x.1 && (((ops[x.1]?).bind (·.dst)) == some x.2)) &&
    ((List.range ops.size).all fun k => k == i || match (ops[k]?).bind (·.dst) with
      | none => true
      | some d => o.dst != some d && (!(o.looksAt ops).contains d || (D.getD i []).any (fun x => x.1 == k) || anc B k i))
   else (List.range i).all fun j => anc B i j)
def chk (ops : Array Oper) (B : Array Nat) (D : List (List (Nat × Tmp))) (T : List (Option Tmp)) : Bool :=
  (D.length ≤ ops.size) && (T.length == D.length) && (List.range ops.size).all fun i => match ops[i]? with | some o => chkOp ops B D T i o | none => false

section
variable {P : Program} {ops : Array Oper} {Q : Exit → Act → World → Prop} {a0 : Act} {w0 : World} {B : Array Nat} {D : List (List (Nat × Tmp))} {T T0 : List (Option Tmp)}

structure ChkOp (ops : Array Oper) (B : Array Nat) (D : List (List (Nat × Tmp))) (T : List (Option Tmp)) (i : Nat) (o : Oper) : Prop where
  sel : ∀ cs b, o.op ≠ .select cs b
  low : ∀ e ∈ o.after, Region.binds .any e = true → e.on < i
  ance : ∀ j, j < ops.size → anc B i j = true → ∃ e ∈ o.after, Region.binds .any e = true ∧ (e.on = j ∨ anc B e.on j = true)
  dst : i < D.length → T.getD i none = o.dst
  deps : i < D.length → ∀ x ∈ D.getD i [], anc B i x.1 = true ∧ (ops[x.1]?).bind (·.dst) = some x.2
  apart : i < D.length → ∀ k ok d, ops[k]? = some ok → ok.dst = some d → k ≠ i → o.dst ≠ some d ∧ (d ∈ o.looksAt ops → (∃ x ∈ D.getD i [], x.1 = k) ∨ anc B k i = true)
  all : ¬ i < D.length → ∀ j, j < i → anc B i j = true

theorem ChkOp.of {i : Nat} {o : Oper} (h : chkOp ops B D T i o = true) : ChkOp ops B D T i o := by
  unfold chkOp at h
  simp only [Bool.and_eq_true, Array.all_eq_true_iff_forall_mem, List.all_eq_true, List.mem_range, Bool.or_eq_true, Bool.not_eq_true', decide_eq_true_eq] at h
  obtain ⟨⟨⟨h1, h2⟩, h3⟩, h4⟩ := h
  refine ⟨fun cs b e => by rw [e] at h1; simp [isSel] at h1, fun e he hb => (h2 e he).resolve_left (by simp [hb]), fun j hj ha => ?_, fun hi => ?_, fun hi => ?_, fun hi => ?_, fun hi => ?_⟩
  · have := (h3 j hj).resolve_left (by simp [ha])
    rw [Array.any_eq_true'] at this
    obtain ⟨e, he, hh⟩ := this
    simp only [Bool.and_eq_true, Bool.or_eq_true, beq_iff_eq] at hh
    exact ⟨e, he, hh.1, hh.2⟩
  · rw [if_pos hi] at h4
    simp only [Bool.and_eq_true, beq_iff_eq] at h4
    exact h4.1.1
  · rw [if_pos hi] at h4
    simp only [Bool.and_eq_true, List.all_eq_true, beq_iff_eq] at h4
    exact h4.1.2
  · rw [if_pos hi] at h4
    simp only [Bool.and_eq_true, List.all_eq_true, beq_iff_eq, List.mem_range, Bool.or_eq_true] at h4
    intro k ok d hk hd hne
    have hlt : k < ops.size := (Array.getElem?_eq_some_iff.1 hk).1
    have := (h4.2 k hlt).resolve_left hne
    rw [hk, Option.bind_some, hd] at this
    simp only [Bool.and_eq_true, bne_iff_ne, ne_eq, Bool.or_eq_true, Bool.not_eq_true', List.any_eq_true, beq_iff_eq] at this
    refine ⟨this.1, fun hm => ?_⟩
    rcases this.2 with (hh | hh) | hh
    · rw [List.contains_eq_mem] at hh; simp [hm] at hh
    · exact .inl hh
    · exact .inr hh
  · rw [if_neg hi] at h4
    simpa using h4

structure Chk (ops : Array Oper) (B : Array Nat) (D : List (List (Nat × Tmp))) (T : List (Option Tmp)) : Prop where
  le : D.length ≤ ops.size
  len : T.length = D.length
  op : ∀ i o, ops[i]? = some o → ChkOp ops B D T i o
theorem Chk.of (h : chk ops B D T = true) : Chk ops B D T := by
  unfold chk at h
  simp only [Bool.and_eq_true, List.all_eq_true, List.mem_range, decide_eq_true_eq, beq_iff_eq] at h
  refine ⟨h.1.1, h.1.2, fun i o ho => ?_⟩
  have := h.2 i (Array.getElem?_eq_some_iff.1 ho).1
  rw [ho] at this
  exact ChkOp.of this

theorem Chk.anc_lt (h : Chk ops B D T) : ∀ i, i < ops.size → ∀ j, j < ops.size → anc B i j = true → j < i := by
  intro i
  induction i using Nat.strongRecOn with
  | _ i ih =>
    intro hi j hj ha
    obtain ⟨e, he, hb, hh⟩ := (h.op i _ (Array.getElem?_eq_getElem hi)).ance j hj ha
    have hlt := (h.op i _ (Array.getElem?_eq_getElem hi)).low e he hb
    rcases hh with rfl | hh
    · exact hlt
    · exact Nat.lt_trans (ih e.on hlt (by omega) j hj hh) hlt

/-- The set of operations that have come up. -/
def Closed (ops : Array Oper) (L : Array Bool) : Prop := ∀ i o, ops[i]? = some o → L.getD i false = true → ∀ e ∈ o.after, Region.binds .any e = true → L.getD e.on false = true

theorem Chk.closed_anc (h : Chk ops B D T) {L : Array Bool} (hL : Closed ops L) : ∀ i, i < ops.size → L.getD i false = true → ∀ j, j < ops.size → anc B i j = true → L.getD j false = true := by
  intro i
  induction i using Nat.strongRecOn with
  | _ i ih =>
    intro hi hl j hj ha
    obtain ⟨e, he, hb, hh⟩ := (h.op i _ (Array.getElem?_eq_getElem hi)).ance j hj ha
    have hlt := (h.op i _ (Array.getElem?_eq_getElem hi)).low e he hb
    have hle := hL i _ (Array.getElem?_eq_getElem hi) hl e he hb
    rcases hh with rfl | hh
    · exact hle
    · exact ih e.on hlt (by omega) hle j hj hh

structure Desc (ops : Array Oper) (a0 : Act) (L : Nat → Bool) (vs : Nat → Value) (a : Act) : Prop where
  defers : a.defers = a0.defers
  size : a.tmps.size = a0.tmps.size
  put : ∀ i o d, ops[i]? = some o → L i = true → o.dst = some d → d < a0.tmps.size → a.tmps[d]? = some (vs i)
  old : ∀ t, (∀ i o, ops[i]? = some o → L i = true → o.dst ≠ some t) → a.tmps[t]? = a0.tmps[t]?

theorem Desc.ext {L : Nat → Bool} {vs : Nat → Value} {a b : Act} (ha : Desc ops a0 L vs a) (hb : Desc ops a0 L vs b) : a = b := by
  have ht : a.tmps = b.tmps := by
    refine Array.ext_getElem? fun t => ?_
    by_cases h : ∃ i o, ops[i]? = some o ∧ L i = true ∧ o.dst = some t
    · obtain ⟨i, o, ho, hl, hd⟩ := h
      by_cases hlt : t < a0.tmps.size
      · rw [ha.put i o t ho hl hd hlt, hb.put i o t ho hl hd hlt]
      · rw [Array.getElem?_eq_none (by have := ha.size; omega), Array.getElem?_eq_none (by have := hb.size; omega)]
    · have h' : ∀ i o, ops[i]? = some o → L i = true → o.dst ≠ some t := fun i o ho hl hd => h ⟨i, o, ho, hl, hd⟩
      rw [ha.old t h', hb.old t h']
  have hd : a.defers = b.defers := ha.defers.trans hb.defers.symm
  cases a; cases b; simp_all

theorem put_get (a : Act) (d t : Tmp) (v : Value) : (a.put (some d) v).tmps[t]? = if d = t then (if t < a.tmps.size then some v else none) else a.tmps[t]? := by
  simp only [Act.put, Array.getElem?_setIfInBounds]
  by_cases h : d = t
  · subst h; rfl
  · rw [if_neg h, if_neg h]

theorem put_size (a : Act) (x : Option Tmp) (v : Value) : (a.put x v).tmps.size = a.tmps.size := by cases x <;> simp [Act.put]
theorem put_defers (a : Act) (x : Option Tmp) (v : Value) : (a.put x v).defers = a.defers := by cases x <;> simp [Act.put]

/-- One operation more has come up. -/
theorem Desc.step {L : Nat → Bool} {vs : Nat → Value} {a : Act} (ha : Desc ops a0 L vs a) {i : Nat} {o : Oper} (ho : ops[i]? = some o) (hi : L i = false)
    (huniq : ∀ k ok d, ops[k]? = some ok → ok.dst = some d → k ≠ i → o.dst ≠ some d) (v : Value) :
    Desc ops a0 (fun k => k == i || L k) (fun k => if k = i then v else vs k) (a.put o.dst v) := by
  refine ⟨by rw [put_defers, ha.defers], by rw [put_size, ha.size], fun k ok d hk hl hd hlt => ?_, fun t ht => ?_⟩
  · by_cases hki : k = i
    · subst hki
      obtain rfl : o = ok := by rw [ho] at hk; injection hk
      rw [hd, put_get, if_pos rfl, if_pos (by rw [ha.size]; exact hlt), if_pos rfl]
    · have hne := huniq k ok d hk hd hki
      have hlk : L k = true := by simpa [hki] using hl
      rw [if_neg hki]
      cases hod : o.dst with
      | none => exact ha.put k ok d hk hlk hd hlt
      | some d' =>
        rw [put_get, if_neg (fun e => hne (by rw [hod, e]))]
        exact ha.put k ok d hk hlk hd hlt
  · have h1 : o.dst ≠ some t := ht i o ho (by simp)
    have h2 : ∀ k ok, ops[k]? = some ok → L k = true → ok.dst ≠ some t := fun k ok hk hl => ht k ok hk (by simp [hl])
    cases hod : o.dst with
    | none => exact ha.old t h2
    | some d' =>
      rw [put_get, if_neg (fun e => h1 (by rw [hod, e]))]
      exact ha.old t h2

theorem Desc.start (vs : Nat → Value) : Desc ops a0 (fun _ => false) vs a0 := ⟨rfl, rfl, fun _ _ _ _ h => by simp at h, fun _ _ => rfl⟩

def putD (vs : Nat → Value) : List (Nat × Tmp) → Act → Act
  | [], a => a
  | x :: d, a => putD vs d (a.put (some x.2) (vs x.1))
theorem DepsV.elim {Fs : List Fact} {w : World} {k : Act → Prop} (vs : Nat → Value) : ∀ (d : List (Nat × Tmp)) (a : Act), DepsV Fs w d k a → (∀ x ∈ d, (fat Fs x.1) w (vs x.1)) → k (putD vs d a)
  | [], _, h, _ => h
  | x :: d, _, h, hf => DepsV.elim vs d _ (h _ (hf x (by simp))) (fun y hy => hf y (by simp [hy]))
def putT (vs : Nat → Value) : Nat → List (Option Tmp) → Act → Act
  | _, [], a => a
  | i, t :: T, a => putT vs (i + 1) T (a.put t (vs i))
theorem EndV.elim {w : World} {k : Act → Prop} (vs : Nat → Value) : ∀ (Fs : List Fact) (T : List (Option Tmp)) (i : Nat) (a : Act), EndV w Fs T k a → Fs.length = T.length → (∀ j, j < Fs.length → (fat Fs j) w (vs (i + j))) → k (putT vs i T a)
  | [], [], _, _, h, _, _ => h
  | F :: Fs, t :: T, i, a, h, hl, hf => by
    refine EndV.elim vs Fs T (i + 1) _ (h _ (by have := hf 0 (by simp); rwa [fat_zero] at this)) (by simpa using hl) (fun j hj => ?_)
    have := hf (j + 1) (by simpa using hj)
    rw [fat_succ] at this
    rwa [Nat.add_assoc, Nat.add_comm 1 j]

theorem putD_size (vs : Nat → Value) : ∀ (d : List (Nat × Tmp)) (a : Act), (putD vs d a).tmps.size = a.tmps.size
  | [], _ => rfl
  | x :: d, a => by rw [putD, putD_size, put_size]
theorem putD_old (vs : Nat → Value) (t : Tmp) : ∀ (d : List (Nat × Tmp)) (a : Act), (∀ x ∈ d, x.2 ≠ t) → (putD vs d a).tmps[t]? = a.tmps[t]?
  | [], _, _ => rfl
  | x :: d, a, h => by
    rw [putD, putD_old vs t d _ (fun y hy => h y (by simp [hy])), put_get, if_neg (h x (by simp))]
theorem putD_new (vs : Nat → Value) (t : Tmp) (k : Nat) : ∀ (d : List (Nat × Tmp)) (a : Act), t < a.tmps.size → (∃ x ∈ d, x.1 = k ∧ x.2 = t) → (∀ x ∈ d, x.2 = t → x.1 = k) → (putD vs d a).tmps[t]? = some (vs k)
  | [], _, _, h, _ => by simp at h
  | x :: d, a, ht, h, hu => by
    rw [putD]
    by_cases hin : ∃ y ∈ d, y.1 = k ∧ y.2 = t
    · exact putD_new vs t k d _ (by rw [put_size]; exact ht) hin (fun y hy => hu y (by simp [hy]))
    · have hx : x.1 = k ∧ x.2 = t := by
        obtain ⟨y, hy, hh⟩ := h
        rcases List.mem_cons.1 hy with rfl | hy
        · exact hh
        · exact absurd ⟨y, hy, hh⟩ hin
      rw [putD_old vs t d _ (fun y hy e => hin ⟨y, hy, hu y (by simp [hy]) e, e⟩), put_get, if_pos hx.2, if_pos ht, hx.1]

theorem eval_of_get {a b : Act} {t : Tmp} (h : a.tmps[t]? = b.tmps[t]?) : a.eval (.tmp t) = b.eval (.tmp t) := by
  simp only [Act.eval, Array.getD_eq_getD_getElem?, h]

/-- Two frames that agree on what an operation looks at. -/
theorem agree {i : Nat} {o : Oper} (hs : ∀ cs b, o.op ≠ .select cs b) {a b : Act} (h : ∀ t ∈ o.looksAt ops, a.tmps[t]? = b.tmps[t]?) :
    execOp a.eval o = execOp b.eval o ∧ Region.wanted o (yielded ops a.tmps) = Region.wanted o (yielded ops b.tmps) := by
  have _ := i
  refine ⟨execOp_congr o hs fun x hx => ?_, ?_⟩
  · cases x with
    | tmp t => exact eval_of_get (h t (List.mem_append_left _ (List.mem_filterMap.2 ⟨.tmp t, by simpa using hx, rfl⟩)))
    | const v => rfl
    | global g => rfl
    | func f => rfl
  · unfold Region.wanted
    cases hg : o.guard with
    | none => rfl
    | some gw =>
      obtain ⟨g, want⟩ := gw
      have hy : yielded ops a.tmps g = yielded ops b.tmps g := by
        unfold yielded
        cases ht : (ops[g]?).bind (·.dst) with
        | none => rfl
        | some t => simp only [Option.bind_some, h t (by simp [Oper.looksAt, hg, ht])]
      simp only [hy]

theorem put_val {a b : Act} {x : Option Tmp} {u v : Value} (hs : a.tmps.size = b.tmps.size) (h : ∀ d, x = some d → (b.put x u).tmps[d]? = some v) : a.put x u = a.put x v := by
  have _ := hs
  cases x with
  | none => rfl
  | some d =>
    have := h d rfl
    rw [put_get, if_pos rfl] at this
    by_cases hd : d < b.tmps.size
    · rw [if_pos hd] at this; injection this with this; rw [this]
    · rw [if_neg hd] at this; cases this

/-- From the obligation's frame to the true one. -/
theorem step_of_obl {i : Nat} {o : Oper} {a b : Act} {w : World} {F : Fact} {K : Act → World → Prop} (ho : ops[i]? = some o) (hs : a.tmps.size = b.tmps.size)
    (hag : execOp a.eval o = execOp b.eval o ∧ Region.wanted o (yielded ops a.tmps) = Region.wanted o (yielded ops b.tmps))
    (h : wpList P ops (OpPost b w o.dst F) [o] b w) (hK : ∀ v w', Ext w w' → F w' v → K (a.put o.dst v) w') : wpOp P ops Q i K a w := by
  unfold wpOp
  simp only [ho]
  rw [hag.2]
  simp only [wpList] at h
  split
  · rename_i hw
    rw [if_pos hw] at h
    refine .inl ?_
    rcases h with h | ⟨_, _, _, hf⟩
    case inr => exact hf.elim
    unfold Oper.wp at *
    rw [hag.1]
    have fin : ∀ (u : Value) (w' : World), OpPost b w o.dst F .normal (b.put o.dst u) w' → K (a.put o.dst u) w' := fun u w' hp => by
      obtain ⟨_, hx, v, hF, hv⟩ := hp
      rw [put_val hs hv]
      exact hK v w' hx hF
    have nodef : ∀ (d : Deferred) (u : Value) (w' : World), OpPost b w o.dst F .normal (({ b with defers := d :: b.defers } : Act).put o.dst u) w' → False := fun d u w' hp => by
      obtain ⟨hd, _⟩ := hp
      rw [put_defers] at hd
      simp at hd
    generalize (execOp b.eval o).run P w = r at *
    cases r with
    | ok n w' =>
      cases n <;> simp only [Oper.upon] at h ⊢
      case value u => exact fin u w' h
      case skip => exact fin _ w' h
      case defer d => exact (nodef d _ w' h).elim
      case enter f args =>
        refine Calls.mono h fun e w'' he => ?_
        cases e with
        | returned u => exact fin u w'' he
        | panicked c => exact he.elim
        | outgrown => obtain ⟨_, _, hf⟩ := he; exact hf.elim
      case row row args => exact Rows.mono h fun u w'' he => fin u w'' he
    | halt x w' =>
      cases x <;> simp only [Oper.upon] at h ⊢
      case panic u => exact h.elim
  · rename_i hw
    rw [if_neg hw] at h
    obtain ⟨_, hx, v, hF, hv⟩ := h
    rw [put_val hs hv]
    exact hK v w hx hF

/-- What 'From' holds, laid out. -/
theorem From.out : ∀ (l : List Oper) (D : List (List (Nat × Tmp))) (T : List (Option Tmp)) (Fs : List Fact), From P ops Q a0 w0 T0 l D T Fs → D.length ≤ l.length → T.length = D.length →
    ∃ Gs : List Fact, Gs.length = D.length ∧ (∀ i, i < D.length → Mono (fat Gs i) ∧
      ∀ o, l[i]? = some o → ∀ w, Ext w0 w → DepsV ((Fs ++ Gs).take (Fs.length + i)) w (D.getD i []) (fun a => wpList P ops (OpPost a w (T.getD i none) (fat Gs i)) [o] a w) a0) ∧
      (∀ w, Ext w0 w → EndV w (Fs ++ Gs) T0 (fun a => wpList P ops Q (l.drop D.length) a w) a0) := by
  intro l D
  induction D generalizing l with
  | nil =>
    intro T Fs h _ hT
    refine ⟨[], rfl, fun i hi => by simp at hi, ?_⟩
    cases l <;> simpa [From] using h
  | cons d D ih =>
    intro T Fs h hl hT
    cases l with
    | nil => simp at hl
    | cons o l =>
      cases T with
      | nil => simp at hT
      | cons t T =>
        obtain ⟨F, hm, hop, hrest⟩ := h
        obtain ⟨Gs, hlen, hG, hend⟩ := ih l T (Fs ++ [F]) hrest (by simpa using hl) (by simpa using hT)
        refine ⟨F :: Gs, by simp [hlen], fun i hi => ?_, ?_⟩
        · cases i with
          | zero =>
            refine ⟨by rw [fat_zero]; exact hm, fun o' ho' w hx => ?_⟩
            obtain rfl : o = o' := by simpa using ho'
            rw [fat_zero]
            simpa using hop w hx
          | succ i =>
            obtain ⟨h1, h2⟩ := hG i (by simpa using hi)
            refine ⟨by rw [fat_succ]; exact h1, fun o' ho' w hx => ?_⟩
            have := h2 o' (by simpa using ho') w hx
            have e1 : (Fs ++ [F] ++ Gs).take ((Fs ++ [F]).length + i) = (Fs ++ F :: Gs).take (Fs.length + (i + 1)) := by
              rw [List.append_assoc, List.singleton_append]; congr 1; simp; omega
            rw [e1] at this
            rw [fat_succ]
            simpa using this
        · intro w hx
          have := hend w hx
          simpa using this

def cnt (L : Nat → Bool) : Nat → Nat
  | 0 => 0
  | k + 1 => cnt L k + if L k then 0 else 1
theorem cnt_same {L L' : Nat → Bool} : ∀ k, (∀ i, i < k → L' i = L i) → cnt L' k = cnt L k
  | 0, _ => rfl
  | k + 1, h => by rw [cnt, cnt, cnt_same k (fun i hi => h i (by omega)), h k (by omega)]
theorem cnt_set {L L' : Nat → Bool} {i : Nat} (hi : L i = false) (hs : L' i = true) (ho : ∀ j, j ≠ i → L' j = L j) : ∀ k, i < k → cnt L' k + 1 = cnt L k
  | 0, h => by omega
  | k + 1, h => by
    rw [cnt, cnt]
    by_cases hk : k = i
    · subst hk
      rw [cnt_same (L := L) k (fun j hj => ho j (by omega)), hi, hs]; simp
    · have := cnt_set hi hs ho k (by omega)
      rw [ho k hk]; omega
theorem cnt_none {L : Nat → Bool} : ∀ k, cnt L k = 0 → ∀ i, i < k → L i = true
  | 0, _, i, hi => by omega
  | k + 1, h, i, hi => by
    rw [cnt] at h
    by_cases hk : i = k
    · subst hk; by_cases hL : L i = true
      · exact hL
      · simp [hL] at h
    · exact cnt_none k (by omega) i (by omega)

theorem getD_tf {L : Array Bool} {n i : Nat} (hs : L.size = n) (hi : i < n) : L.getD i true = L.getD i false := by
  simp [Array.getD, hs, hi]
theorem getD_set (L : Array Bool) (n i j : Nat) (hs : L.size = n) (hi : i < n) : (L.setIfInBounds i true).getD j false = (j == i || L.getD j false) := by
  subst hs
  by_cases h : j = i
  · subst h; simp [Array.getD, hi]
  · rw [getD_set_ne false (fun e => h e.symm)]; simp [h]

/-- The least that has not come up may come up. -/
theorem Chk.some_ready (C : Chk ops B D T) {L : Array Bool} (hs : L.size = ops.size) : ∀ i, i < ops.size → L.getD i false = false → Region.ready .any ops L ≠ [] := by
  intro i
  induction i using Nat.strongRecOn with
  | _ i ih =>
    intro hi hl hr
    by_cases h : ∃ j, j < i ∧ L.getD j false = false
    · obtain ⟨j, hj, hlj⟩ := h
      exact ih j hj (by omega) hlj hr
    · have : i ∈ Region.ready .any ops L := by
        rw [mem_ready]
        refine ⟨by rw [getD_tf hs hi]; exact hl, _, Array.getElem?_eq_getElem hi, fun e he hb => ?_⟩
        have hlt := (C.op i _ (Array.getElem?_eq_getElem hi)).low e he hb
        cases hq : L.getD e.on false
        · exact absurd ⟨e.on, hlt, hq⟩ h
        · rfl
      rw [hr] at this
      cases this

theorem Chk.ready_anc (C : Chk ops B D T) {L : Array Bool} (hL : Closed ops L) {i j : Nat} (hr : i ∈ Region.ready .any ops L) (hj : j < ops.size) (ha : anc B i j = true) : L.getD j false = true := by
  obtain ⟨_, o, ho, hall⟩ := mem_ready.1 hr
  obtain ⟨e, he, hb, hh⟩ := (C.op i o ho).ance j hj ha
  have hle := hall e he hb
  have hlt := (C.op i o ho).low e he hb
  have hin : i < ops.size := (Array.getElem?_eq_some_iff.1 ho).1
  rcases hh with rfl | hh
  · exact hle
  · exact C.closed_anc hL e.on (by omega) hle j hj hh

theorem Closed.step {L : Array Bool} (hs : L.size = ops.size) (hL : Closed ops L) {i : Nat} (hr : i ∈ Region.ready .any ops L) : Closed ops (L.setIfInBounds i true) := by
  obtain ⟨_, o, ho, hall⟩ := mem_ready.1 hr
  have hin : i < ops.size := (Array.getElem?_eq_some_iff.1 ho).1
  intro k ok hk hl e he hb
  rw [getD_set L ops.size i _ hs hin] at hl ⊢
  by_cases hki : k = i
  · subst hki
    obtain rfl : o = ok := by rw [ho] at hk; injection hk
    rw [hall e he hb]; simp
  · rw [hL k ok hk (by simpa [hki] using hl) e he hb]; simp

/-- The last operations, which wait for all before them, come up in the text's order. -/
theorem Chk.tail (C : Chk ops B D T) (l : List Oper) (hl : ops = l.toArray) : ∀ (fuel k : Nat) (L : Array Bool) (a : Act) (w : World), D.length ≤ k → k + fuel = ops.size → L.size = ops.size →
    (∀ i, i < ops.size → L.getD i false = decide (i < k)) → wpList P ops Q (l.drop k) a w → wpAny P .any ops Q fuel L a w := by
  intro fuel
  induction fuel with
  | zero =>
    intro k L a w hk hn hs hL h
    have hd : l.drop k = [] := List.drop_eq_nil_of_le (by have : ops.size = l.length := by rw [hl]; simp
                                                          omega)
    rw [hd] at h
    refine ⟨?_, h⟩
    rw [List.eq_nil_iff_forall_not_mem]
    intro i hr
    obtain ⟨h0, o, ho, _⟩ := mem_ready.1 hr
    have hin : i < ops.size := (Array.getElem?_eq_some_iff.1 ho).1
    rw [getD_tf hs hin, hL i hin] at h0
    simp at h0; omega
  | succ fuel ih =>
    intro k L a w hk hn hs hL h
    have hkn : k < ops.size := by omega
    have hcl : Closed ops L := by
      intro i o ho hli e he hb
      have hin : i < ops.size := (Array.getElem?_eq_some_iff.1 ho).1
      rw [hL i hin] at hli
      have := (C.op i o ho).low e he hb
      rw [hL e.on (by omega)]
      simp at hli ⊢; omega
    refine ⟨fun hr => absurd hr (C.some_ready hs k hkn (by rw [hL k hkn]; simp)), fun i hr => ?_⟩
    obtain ⟨h0, o, ho, _⟩ := mem_ready.1 hr
    have hin : i < ops.size := (Array.getElem?_eq_some_iff.1 ho).1
    rw [getD_tf hs hin, hL i hin] at h0
    have hki : k = i := by
      by_cases hlt : k < i
      · have := C.ready_anc hcl hr hkn ((C.op i o ho).all (by omega) k hlt)
        rw [hL k hkn] at this; simp at this
      · simp at h0; omega
    subst hki
    have hdrop : l.drop k = o :: l.drop (k + 1) := by
      have : l[k]? = some o := by rw [hl] at ho; simpa using ho
      obtain ⟨hlt, he⟩ := List.getElem?_eq_some_iff.1 this
      rw [List.drop_eq_getElem_cons hlt, he]
    rw [hdrop] at h
    unfold wpOp
    simp only [ho]
    simp only [wpList] at h
    have next : ∀ a w, wpList P ops Q (l.drop (k + 1)) a w → wpAny P .any ops Q fuel (L.setIfInBounds k true) a w := fun a w hw =>
      ih (k + 1) _ a w (by omega) (by omega) (by simpa using hs) (fun j hj => by
        rw [getD_set L ops.size k j hs hkn, hL j hj, Bool.eq_iff_iff]
        simp only [Bool.or_eq_true, beq_iff_eq, decide_eq_true_eq]
        omega) hw
    split
    · rename_i hw
      rw [if_pos hw] at h
      exact h.imp (Oper.wp_mono next) id
    · rename_i hw
      rw [if_neg hw] at h
      exact next _ _ h

theorem putT_desc (C : Chk ops B D T) (vs : Nat → Value) : ∀ (Ts : List (Option Tmp)) (i : Nat) (a : Act), T.drop i = Ts → i ≤ D.length → Desc ops a0 (fun k => decide (k < i)) vs a → Desc ops a0 (fun k => decide (k < D.length)) vs (putT vs i Ts a) := by
  intro Ts
  induction Ts with
  | nil =>
    intro i a hT hi hd
    have : i = D.length := by have := List.drop_eq_nil_iff.1 hT; have := C.len; omega
    subst this
    exact hd
  | cons t Ts ih =>
    intro i a hT hi hd
    have hlt : i < T.length := by
      rcases Nat.lt_or_ge i T.length with h | h
      · exact h
      · rw [List.drop_eq_nil_of_le h] at hT; cases hT
    have hiD : i < D.length := by have := C.len; omega
    have hin : i < ops.size := by have := C.le; omega
    have Ci := C.op i _ (Array.getElem?_eq_getElem hin)
    rw [List.drop_eq_getElem_cons hlt] at hT
    injection hT with ht hTs
    have htd : t = ops[i].dst := by
      have := Ci.dst hiD
      rw [List.getD_eq_getElem?_getD, List.getElem?_eq_getElem hlt, Option.getD_some, ht] at this
      exact this
    rw [putT, htd]
    refine ih (i + 1) _ hTs hiD ?_
    have hst := hd.step (i := i) (Array.getElem?_eq_getElem hin) (by simp) (fun k ok d hk hdk hne => (Ci.apart hiD k ok d hk hdk hne).1) (vs i)
    refine ⟨hst.defers, hst.size, fun k ok d hk hl hdk hlt => ?_, fun t' ht' => hst.old t' (fun k ok hk hl => ht' k ok hk ?_)⟩
    · rw [hst.put k ok d hk (by simp at hl ⊢; omega) hdk hlt]
      split
      · rename_i e; rw [e]
      · rfl
    · simp at hl ⊢; omega

theorem Chk.head (C : Chk ops B D T) (l : List Oper) (hl : ops = l.toArray) (Gs : List Fact)
    (hG : ∀ i, i < D.length → Mono (fat Gs i) ∧ ∀ o, l[i]? = some o → ∀ w, Ext w0 w → DepsV (Gs.take i) w (D.getD i []) (fun a => wpList P ops (OpPost a w (T.getD i none) (fat Gs i)) [o] a w) a0)
    (hGl : Gs.length = D.length)
    (hend : ∀ w, Ext w0 w → EndV w Gs T (fun a => wpList P ops Q (l.drop D.length) a w) a0) :
    ∀ (fuel : Nat) (L : Array Bool) (vs : Nat → Value) (a : Act) (w : World), L.size = ops.size → cnt (fun i => L.getD i false) ops.size = fuel → Closed ops L → (∀ i, i < ops.size → D.length ≤ i → L.getD i false = false) →
      Ext w0 w → Desc ops a0 (fun i => L.getD i false) vs a → (∀ i, i < D.length → L.getD i false = true → fat Gs i w (vs i)) → wpAny P .any ops Q fuel L a w := by
  intro fuel
  induction fuel with
  | zero =>
    intro L vs a w hs hcnt hcl hsuf hx hd hf
    have hall := cnt_none _ hcnt
    have hDn : D.length = ops.size := by
      rcases Nat.lt_or_ge D.length ops.size with h | h
      · have h1 := hsuf _ h (Nat.le_refl _); rw [hall _ h] at h1; cases h1
      · have := C.le; omega
    refine C.tail l hl 0 ops.size L a w (by omega) (by omega) hs (fun i hi => by simp only [hi, decide_true]; exact hall i hi) ?_
    have := EndV.elim vs Gs T 0 a0 (hend w hx) (by rw [hGl, C.len]) (fun j hj => by rw [Nat.zero_add]; exact hf j (by omega) (hall j (by omega)))
    rw [hDn] at this
    have ha : a = putT vs 0 T a0 := by
      refine Desc.ext (a0 := a0) (vs := vs) (L := fun k => decide (k < D.length)) ?_ (putT_desc C vs T 0 a0 rfl (Nat.zero_le _) ?_)
      · refine ⟨hd.defers, hd.size, fun i o d ho hli => hd.put i o d ho (hall i (Array.getElem?_eq_some_iff.1 ho).1), fun t ht => hd.old t (fun i o ho _ => ht i o ho ?_)⟩
        have := (Array.getElem?_eq_some_iff.1 ho).1
        simp; omega
      · simpa using Desc.start (ops := ops) (a0 := a0) vs
    rw [ha]
    exact this
  | succ fuel ih =>
    intro L vs a w hs hcnt hcl hsuf hx hd hf
    by_cases hall : ∀ i, i < D.length → L.getD i false = true
    · have hL : ∀ i, i < ops.size → L.getD i false = decide (i < D.length) := fun i hi => by
        by_cases h : i < D.length
        · simp [h, hall i h]
        · simp [h, hsuf i hi (by omega)]
      have hfuel : D.length + (fuel + 1) = ops.size := by
        rw [← hcnt]
        have key : ∀ k, D.length ≤ k → k ≤ ops.size → D.length + cnt (fun i => L.getD i false) k = k := by
          intro k
          induction k with
          | zero => intro h1 _; show D.length + 0 = 0; omega
          | succ k ihk =>
            intro h1 h2
            rw [cnt]
            by_cases hk : k < D.length
            · have e : k + 1 = D.length := by omega
              have hz : cnt (fun i => L.getD i false) k = 0 := by
                have z : ∀ j, j ≤ k → cnt (fun i => L.getD i false) j = 0 := by
                  intro j
                  induction j with
                  | zero => intro _; rfl
                  | succ j ihj => intro hj; rw [cnt, ihj (by omega)]; simp [hall j (by omega)]
                exact z k (Nat.le_refl _)
              rw [hz]; simp [hall k hk]; omega
            · have h3 : L.getD k false = false := hsuf k (by omega) (by omega)
              have := ihk (by omega) (by omega)
              rw [h3]; simp only [Bool.false_eq_true, if_false]; omega
        exact key ops.size C.le (Nat.le_refl _)
      refine C.tail l hl (fuel + 1) D.length L a w (Nat.le_refl _) hfuel hs hL ?_
      have := EndV.elim vs Gs T 0 a0 (hend w hx) (by rw [hGl, C.len]) (fun j hj => by rw [Nat.zero_add]; exact hf j (by omega) (hall j (by omega)))
      have ha : a = putT vs 0 T a0 := by
        refine Desc.ext (a0 := a0) (vs := vs) (L := fun k => decide (k < D.length)) ?_ (putT_desc C vs T 0 a0 rfl (Nat.zero_le _) ?_)
        · refine ⟨hd.defers, hd.size, fun i o d ho hli => hd.put i o d ho (by have := (Array.getElem?_eq_some_iff.1 ho).1; simp only [hL i this]; exact hli), fun t ht => hd.old t (fun i o ho hli => ht i o ho ?_)⟩
          have := (Array.getElem?_eq_some_iff.1 ho).1
          simpa only [hL i this] using hli
        · simpa using Desc.start (ops := ops) (a0 := a0) vs
      rw [ha]
      exact this
    · have hex : ∃ i, i < D.length ∧ L.getD i false = false := by
        rcases Classical.em (∃ i, i < D.length ∧ L.getD i false = false) with h | h
        · exact h
        · refine absurd (fun i hi => ?_) hall
          cases hq : L.getD i false
          · exact absurd ⟨i, hi, hq⟩ h
          · rfl
      obtain ⟨j0, hj0, hlj0⟩ := hex
      refine ⟨fun hr => absurd hr (C.some_ready hs j0 (by have := C.le; omega) hlj0), fun i hr => ?_⟩
      obtain ⟨h0, o, ho, hedges⟩ := mem_ready.1 hr
      have hin : i < ops.size := (Array.getElem?_eq_some_iff.1 ho).1
      have hli : L.getD i false = false := by rw [← getD_tf hs hin]; exact h0
      have Ci := C.op i o ho
      have hiD : i < D.length := by
        rcases Nat.lt_or_ge i D.length with h | h
        · exact h
        · have := C.ready_anc hcl hr (j := j0) (by have := C.le; omega) (Ci.all (by omega) j0 (by omega))
          rw [hlj0] at this; cases this
      obtain ⟨hmono, hop⟩ := hG i hiD
      have hlo : l[i]? = some o := by rw [hl] at ho; simpa using ho
      have hdeps : ∀ x ∈ D.getD i [], fat (Gs.take i) x.1 w (vs x.1) := fun x hxm => by
        obtain ⟨h1, h2⟩ := Ci.deps hiD x hxm
        have hxs : x.1 < ops.size := by
          cases hq : ops[x.1]? with
          | none => rw [hq] at h2; cases h2
          | some _ => exact (Array.getElem?_eq_some_iff.1 hq).1
        have hxi := C.anc_lt i hin x.1 hxs h1
        rw [fat_take _ _ _ hxi]
        exact hf x.1 (by omega) (C.ready_anc hcl hr hxs h1)
      have hobl := DepsV.elim vs (D.getD i []) a0 (hop o hlo w hx) hdeps
      rw [Ci.dst hiD] at hobl
      have hag : ∀ t ∈ o.looksAt ops, a.tmps[t]? = (putD vs (D.getD i []) a0).tmps[t]? := fun t ht => by
        by_cases hwr : ∃ k ok, ops[k]? = some ok ∧ ok.dst = some t ∧ k ≠ i
        · obtain ⟨k, ok, hk, hkd, hki⟩ := hwr
          have hks : k < ops.size := (Array.getElem?_eq_some_iff.1 hk).1
          have huniq : ∀ x ∈ D.getD i [], x.2 = t → x.1 = k := fun x hxm hxt => by
            obtain ⟨h1, h2⟩ := Ci.deps hiD x hxm
            cases hq : ops[x.1]? with
            | none => rw [hq] at h2; cases h2
            | some ox =>
              rw [hq, Option.bind_some, hxt] at h2
              have hxs : x.1 < ops.size := (Array.getElem?_eq_some_iff.1 hq).1
              have hxi := C.anc_lt i hin x.1 hxs h1
              rcases Classical.em (x.1 = k) with e | e
              · exact e
              · exact absurd h2 (((C.op x.1 ox hq).apart (by omega) k ok t hk hkd (fun e' => e e'.symm)).1)
          rcases (Ci.apart hiD k ok t hk hkd hki).2 ht with ⟨x, hxm, hxk⟩ | hka
          · obtain ⟨h1, h2⟩ := Ci.deps hiD x hxm
            subst hxk
            rw [hk, Option.bind_some, hkd] at h2
            injection h2 with h2
            have hlk := C.ready_anc hcl hr hks h1
            by_cases hts : t < a0.tmps.size
            · rw [hd.put x.1 ok t hk hlk hkd hts, putD_new vs t x.1 _ _ hts ⟨x, hxm, rfl, h2.symm⟩ huniq]
            · rw [Array.getElem?_eq_none (by rw [hd.size]; exact Nat.le_of_not_lt hts), Array.getElem?_eq_none (by rw [putD_size]; exact Nat.le_of_not_lt hts)]
          · have hlk : L.getD k false = false := by
              cases hq : L.getD k false
              · rfl
              · have := C.closed_anc hcl k hks hq i hin hka
                rw [hli] at this; cases this
            rw [putD_old vs t _ _ (fun x hxm hxt => ?_)]
            · refine hd.old t (fun k' ok' hk' hlk' hkd' => ?_)
              have hne : k' ≠ k := fun e => by subst e; rw [hlk] at hlk'; cases hlk'
              have hk's : k' < ops.size := (Array.getElem?_eq_some_iff.1 hk').1
              have hk'D : k' < D.length := by
                rcases Nat.lt_or_ge k' D.length with h | h
                · exact h
                · have := hsuf k' hk's h; rw [this] at hlk'; cases hlk'
              exact ((C.op k' ok' hk').apart hk'D k ok t hk hkd (fun e => hne e.symm)).1 hkd'
            · have hxk := huniq x hxm hxt
              obtain ⟨h1, _⟩ := Ci.deps hiD x hxm
              rw [hxk] at h1
              have l1 := C.anc_lt i hin k hks h1
              have l2 := C.anc_lt k hks i hin hka
              omega
        · have hno : ∀ k ok, ops[k]? = some ok → L.getD k false = true → ok.dst ≠ some t := fun k ok hk hlk hkd => by
            by_cases hki : k = i
            · subst hki; rw [hli] at hlk; cases hlk
            · exact hwr ⟨k, ok, hk, hkd, hki⟩
          rw [hd.old t hno, putD_old vs t _ _ (fun x hxm hxt => ?_)]
          obtain ⟨h1, h2⟩ := Ci.deps hiD x hxm
          cases hq : ops[x.1]? with
          | none => rw [hq] at h2; cases h2
          | some ox =>
            rw [hq, Option.bind_some, hxt] at h2
            have hxs : x.1 < ops.size := (Array.getElem?_eq_some_iff.1 hq).1
            have hxi := C.anc_lt i hin x.1 hxs h1
            exact hwr ⟨x.1, ox, hq, h2, by omega⟩
      refine step_of_obl (b := putD vs (D.getD i []) a0) ho (by rw [hd.size, putD_size]) (agree (i := i) Ci.sel hag) hobl (fun v w' hxx hF => ?_)
      have hset := getD_set L ops.size i
      refine ih (L.setIfInBounds i true) (fun k => if k = i then v else vs k) (a.put o.dst v) w' (by simpa using hs) ?_ (hcl.step hs hr) (fun k hk hDk => ?_) (hx.trans hxx) ?_ (fun k hk hlk => ?_)
      · have := cnt_set (L := fun j => L.getD j false) (L' := fun j => (L.setIfInBounds i true).getD j false) (i := i) hli (by simp only [hset i hs hin]; simp) (fun j hj => by simp only [hset j hs hin]; simp [hj]) ops.size hin
        omega
      · rw [hset k hs hin, hsuf k hk hDk]; simp; omega
      · have hst := hd.step (i := i) ho hli (fun k ok d hk hdk hne => (Ci.apart hiD k ok d hk hdk hne).1) v
        have e : (fun j => (L.setIfInBounds i true).getD j false) = (fun k => k == i || L.getD k false) := funext fun j => hset j hs hin
        rw [e]; exact hst
      · by_cases hki : k = i
        · subst hki; rw [if_pos rfl]; exact hF
        · rw [if_neg hki]
          rw [hset k hs hin] at hlk
          exact (hG k hk).1 w w' _ hxx (hf k hk (by simpa [hki] using hlk))

/-- **A region that draws its order, by facts.** D: for each operation of the first part, the operations (with their slots) whose values it looks at; T: its slot. What is left behind the first part runs in the text's order. -/
theorem region_facts {id : Nat} {l : List Oper} (D : List (List (Nat × Tmp))) (T : List (Option Tmp)) (hm : P.follows .mixedOrders = true) (hc : chk l.toArray (Region.before l.toArray) D T = true)
    (h : From P l.toArray Q a0 w0 T l D T []) : (Code.region id l.toArray true).wp P Q a0 w0 := by
  have C := Chk.of hc
  obtain ⟨Gs, hlen, hG, hend⟩ := From.out l D T [] h (by simpa using C.le) C.len
  refine wp_region_any hm ?_
  refine C.head (w0 := w0) l rfl Gs (fun i hi => ⟨(hG i hi).1, fun o ho w hx => ?_⟩) hlen (fun w hx => by simpa using hend w hx) _ _ (fun _ => undef) a0 _ (by simp) ?_ ?_ ?_ ?_ ?_ ?_
  · have := (hG i hi).2 o ho w hx
    simpa using this
  · have key : ∀ n k, k ≤ n → cnt (fun i => (Array.replicate n false).getD i false) k = k := by
      intro n k
      induction k with
      | zero => intro _; rfl
      | succ k ih => intro hk; rw [cnt, ih (by omega)]; simp [Array.getD]
    exact key _ _ (Nat.le_refl _)
  · intro i o ho hl
    simp [Array.getD] at hl
  · intro i hi _; simp [Array.getD]
  · exact (Ext.refl w0).drew
  · have e : (fun i => (Array.replicate l.toArray.size false).getD i false) = fun _ => false := funext fun i => by simp [Array.getD]
    rw [e]; exact Desc.start _
  · intro i _ hl
    simp [Array.getD] at hl

theorem From.fin {T0 : List (Option Tmp)} {l : List Oper} {T : List (Option Tmp)} {Fs : List Fact} (h : ∀ w, Ext w0 w → EndV w Fs T0 (fun a => wpList P ops Q l a w) a0) : From P ops Q a0 w0 T0 l [] T Fs := by
  cases l <;> exact h
theorem From.step {T0 : List (Option Tmp)} {o : Oper} {l : List Oper} {d : List (Nat × Tmp)} {D : List (List (Nat × Tmp))} {t : Option Tmp} {T : List (Option Tmp)} {Fs : List Fact} (F : Fact) (hM : Mono F)
    (hop : ∀ w, Ext w0 w → DepsV Fs w d (fun a => wpList P ops (OpPost a w t F) [o] a w) a0) (hrest : From P ops Q a0 w0 T0 l D T (Fs ++ [F])) : From P ops Q a0 w0 T0 (o :: l) (d :: D) (t :: T) Fs := ⟨F, hM, hop, hrest⟩
theorem From.eq {T0 : List (Option Tmp)} {o : Oper} {l : List Oper} {d : List (Nat × Tmp)} {D : List (List (Nat × Tmp))} {t : Option Tmp} {T : List (Option Tmp)} {Fs : List Fact} (v : Value)
    (hop : ∀ w, Ext w0 w → DepsV Fs w d (fun a => wpList P ops (OpPost a w t (eqF v)) [o] a w) a0) (hrest : From P ops Q a0 w0 T0 l D T (Fs ++ [eqF v])) : From P ops Q a0 w0 T0 (o :: l) (d :: D) (t :: T) Fs :=
  ⟨_, fun _ _ _ _ h => h, hop, hrest⟩
end

end Go.Proofs.YtcheigpejbmaoaaDoor
