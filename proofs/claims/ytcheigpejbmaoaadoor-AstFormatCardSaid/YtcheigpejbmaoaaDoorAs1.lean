/- Expressions of the circuit language: trees, and where they lie. -/
import Derived.Test.YtcheigpejbmaoaaDoorRegM
import Derived.Lib.Strings
import Derived.Deep.Light
namespace Go.Proofs.YtcheigpejbmaoaaDoor
open Go.RowKit
/-- An expression; with the place and the capacity of the list of its operands. -/
inductive E where
  | mk (op : Int) (val : Nat) (name : ByteArray) (a : Option Addr) (cap : Nat) (args : List E)
namespace E
def op : E → Int | .mk o _ _ _ _ _ => o
def val : E → Nat | .mk _ v _ _ _ _ => v
def name : E → ByteArray | .mk _ _ n _ _ _ => n
def a : E → Option Addr | .mk _ _ _ a _ _ => a
def cap : E → Nat | .mk _ _ _ _ c _ => c
def args : E → List E | .mk _ _ _ _ _ l => l
/-- The value of an expression. -/
def cs (e : E) : List Value := [.int .i64 e.op, .int .u64 (e.val : Int), .string e.name, .slice e.a e.args.length e.cap]
def v (e : E) : Value := .agg #[.int .i64 e.op, .int .u64 (e.val : Int), .string e.name, .slice e.a e.args.length e.cap]
mutual
def sz : E → Nat
  | .mk _ _ _ _ _ l => szs l + 1
def szs : List E → Nat
  | [] => 0
  | e :: l => sz e + szs l
end
end E
theorem E.szs_get : ∀ {l : List E} {i : Nat} {x : E}, l[i]? = some x → E.sz x ≤ E.szs l
  | [], i, x, h => by simp at h
  | e :: l, 0, x, h => by
    have h' : e = x := by simpa using h
    subst h'
    show E.sz e ≤ E.sz e + E.szs l; omega
  | e :: l, i + 1, x, h => by
    have := E.szs_get (l := l) (i := i) (x := x) (by simpa using h)
    show E.sz x ≤ E.sz e + E.szs l
    omega
theorem E.sz_arg {e x : E} {i : Nat} (h : e.args[i]? = some x) : E.sz x < E.sz e := by
  obtain ⟨o, v, n, a, c, l⟩ := e
  have := E.szs_get (l := l) (i := i) h
  show E.sz x < E.szs l + 1
  omega
/-- The cells of an expression that is element i of a slice. -/
def At4 (w : World) (a : Option Addr) (i : Nat) (e : E) : Prop :=
  ∃ b o, a = some ⟨b, o, none⟩ ∧ w.cell? ⟨b, o + i * 4, none⟩ = some (.int .i64 e.op) ∧ w.cell? ⟨b, o + i * 4 + 1, none⟩ = some (.int .u64 (e.val : Int)) ∧ w.cell? ⟨b, o + i * 4 + 2, none⟩ = some (.string e.name) ∧ w.cell? ⟨b, o + i * 4 + 3, none⟩ = some (.slice e.a e.args.length e.cap)
theorem At4.to {w w' : World} {a : Option Addr} {i : Nat} {e : E} (h : At4 w a i e) (hx : ∀ p v, w.cell? p = some v → w'.cell? p = some v) : At4 w' a i e := by
  obtain ⟨b, o, h1, h2, h3, h4, h5⟩ := h
  exact ⟨b, o, h1, hx _ _ h2, hx _ _ h3, hx _ _ h4, hx _ _ h5⟩
/-- The bounds of an expression's own parts. -/
structure Bd (e : E) : Prop where
  op1 : -9223372036854775808 ≤ e.op
  op2 : e.op ≤ 9223372036854775807
  val : e.val < 18446744073709551616
  len : e.args.length ≤ e.cap
  cap : e.cap ≤ 9223372036854775807
  name : e.name.size ≤ 140737488355328
mutual
/-- The operands lie where they are said to, theirs too. -/
def InE (w : World) : E → Prop
  | .mk op val nm a cap l => Bd (.mk op val nm a cap l) ∧ InEs w a 0 l
def InEs (w : World) (a : Option Addr) (i : Nat) : List E → Prop
  | [] => True
  | e :: l => At4 w a i e ∧ InE w e ∧ InEs w a (i + 1) l
end
theorem InEs.cons {w : World} {a : Option Addr} {i : Nat} {e : E} {l : List E} : InEs w a i (e :: l) ↔ At4 w a i e ∧ InE w e ∧ InEs w a (i + 1) l := by
  constructor
  · intro h; unfold InEs at h; exact h
  · intro h; unfold InEs; exact h
theorem InE.eq {w : World} {e : E} : InE w e ↔ Bd e ∧ InEs w e.a 0 e.args := by
  obtain ⟨o, v, n, a, c, l⟩ := e
  constructor
  · intro h; unfold InE at h; exact h
  · intro h; unfold InE; exact h
theorem InEs.at {w : World} {a : Option Addr} {x : E} : ∀ {l : List E} {k : Nat} (_ : InEs w a k l) {i : Nat} (_ : l[i]? = some x), At4 w a (k + i) x ∧ InE w x
  | [], _, _, i, hi => by simp at hi
  | e :: l, k, h, 0, hi => by
    have h' : e = x := by simpa using hi
    subst h'
    have := InEs.cons.1 h
    exact ⟨this.1, this.2.1⟩
  | e :: l, k, h, i + 1, hi => by
    have := InEs.at (InEs.cons.1 h).2.2 (i := i) (x := x) (by simpa using hi)
    rw [show k + 1 + i = k + (i + 1) by omega] at this
    exact this
mutual
theorem InE.ext {w w' : World} (hx : ∀ p v, w.cell? p = some v → w'.cell? p = some v) : ∀ {e : E}, InE w e → InE w' e
  | .mk _ _ _ _ _ _, h => InE.eq.2 ⟨(InE.eq.1 h).1, InEs.ext hx (InE.eq.1 h).2⟩
theorem InEs.ext {w w' : World} (hx : ∀ p v, w.cell? p = some v → w'.cell? p = some v) {a : Option Addr} : ∀ {i : Nat} {l : List E}, InEs w a i l → InEs w' a i l
  | _, [], _ => by unfold InEs; trivial
  | _, _ :: _, h => InEs.cons.2 ⟨(InEs.cons.1 h).1.to hx, InE.ext hx (InEs.cons.1 h).2.1, InEs.ext hx (InEs.cons.1 h).2.2⟩
end
theorem InE.to {w w' : World} {e : E} (h : InE w e) (hx : Ext w w') : InE w' e := InE.ext (fun _ _ hc => hx.cell hc) h
/-- A list of expressions in a slice. -/
def InL (w : World) (a : Option Addr) (l : List E) : Prop := InEs w a 0 l ∧ l.length ≤ 9223372036854775807
theorem InL.to {w w' : World} {a : Option Addr} {l : List E} (h : InL w a l) (hx : Ext w w') : InL w' a l := ⟨InEs.ext (fun _ _ hc => hx.cell hc) h.1, h.2⟩
theorem InE.l {w : World} {e : E} (h : InE w e) : InL w e.a e.args := ⟨(InE.eq.1 h).2, Nat.le_trans (InE.eq.1 h).1.len (InE.eq.1 h).1.cap⟩
theorem InE.bd {w : World} {e : E} (h : InE w e) : Bd e := (InE.eq.1 h).1
theorem InL.at {w : World} {a : Option Addr} {l : List E} {x : E} (h : InL w a l) {i : Nat} (hi : l[i]? = some x) : At4 w a i x ∧ InE w x := by
  have := InEs.at h.1 hi
  rwa [Nat.zero_add] at this
theorem getE {α : Type} {l : List α} {i : Nat} (h : i < l.length) : ∃ x, l[i]? = some x := ⟨l[i], List.getElem?_eq_getElem h⟩
end Go.Proofs.YtcheigpejbmaoaaDoor
