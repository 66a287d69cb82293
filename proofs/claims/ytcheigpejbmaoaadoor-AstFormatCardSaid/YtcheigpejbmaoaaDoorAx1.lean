/- Statements, parameters, declarations, functions, programs: trees, and where they lie. Printed by gen/ast2.py. -/
import Derived.Test.YtcheigpejbmaoaaDoorAs5
namespace Go.Proofs.YtcheigpejbmaoaaDoor
open Go.RowKit
/-- A type. -/
structure Ty where
  k : Int
  b : Int
  n : Int
deriving DecidableEq
/-- A statement; with the place and the capacity of its body. -/
inductive S where
  | mk (kind : Int) (name : ByteArray) (typed : Bool) (t : Ty) (e : E) (lo hi : Int) (a : Option Addr) (cap : Nat) (body : List S)
namespace S
def kind : S → Int | .mk k _ _ _ _ _ _ _ _ _ => k
def name : S → ByteArray | .mk _ n _ _ _ _ _ _ _ _ => n
def typed : S → Bool | .mk _ _ t _ _ _ _ _ _ _ => t
def t : S → Ty | .mk _ _ _ t _ _ _ _ _ _ => t
def e : S → E | .mk _ _ _ _ e _ _ _ _ _ => e
def lo : S → Int | .mk _ _ _ _ _ l _ _ _ _ => l
def hi : S → Int | .mk _ _ _ _ _ _ h _ _ _ => h
def a : S → Option Addr | .mk _ _ _ _ _ _ _ a _ _ => a
def cap : S → Nat | .mk _ _ _ _ _ _ _ _ c _ => c
def body : S → List S | .mk _ _ _ _ _ _ _ _ _ l => l
mutual
/-- Its weight: statements, nodes of expressions, bytes of names. -/
def sz : S → Nat
  | .mk _ _ _ _ _ _ _ _ _ l => szs l + 1
def szs : List S → Nat
  | [] => 0
  | x :: l => sz x + szs l
end
end S
theorem S.szs_get : ∀ {l : List S} {i : Nat} {x : S}, l[i]? = some x → S.sz x ≤ S.szs l
  | [], i, x, h => by simp at h
  | e :: l, 0, x, h => by
    have h' : e = x := by simpa using h
    subst h'
    show S.sz e ≤ S.sz e + S.szs l; omega
  | e :: l, i + 1, x, h => by
    have := S.szs_get (l := l) (i := i) (x := x) (by simpa using h)
    show S.sz x ≤ S.sz e + S.szs l
    omega
theorem S.sz_eq (s : S) : S.sz s = S.szs s.body + 1 := by obtain ⟨_, _, _, _, _, _, _, _, _, l⟩ := s; rfl
theorem S.sz_arg {e x : S} {i : Nat} (h : e.body[i]? = some x) : S.sz x < S.sz e := by
  have := S.szs_get (l := e.body) (i := i) h
  rw [S.sz_eq e]
  omega
structure P where
  name : ByteArray
  t : Ty
structure D where
  pub : Bool
  name : ByteArray
  t : Ty
structure F where
  name : ByteArray
  pa : Option Addr
  pc : Nat
  params : List P
  t : Ty
  ba : Option Addr
  bc : Nat
  body : List S
  e : E
structure G where
  fa : Option Addr
  fc : Nat
  funcs : List F
  da : Option Addr
  dc : Nat
  decls : List D
  ba : Option Addr
  bc : Nat
  body : List S
def S.v (x : S) : Value := .agg #[.int .i64 x.kind, .string x.name, .bool x.typed, .int .i64 x.t.k, .int .i64 x.t.b, .int .i64 x.t.n, .int .i64 x.e.op, .int .u64 (x.e.val : Int), .string x.e.name, .slice x.e.a x.e.args.length x.e.cap, .int .i64 x.lo, .int .i64 x.hi, .slice x.a x.body.length x.cap]
def AtS (w : World) (a : Option Addr) (i : Nat) (x : S) : Prop :=
  ∃ b o, a = some ⟨b, o, none⟩ ∧ w.cell? ⟨b, o + i * 13, none⟩ = some (.int .i64 x.kind) ∧ w.cell? ⟨b, o + i * 13 + 1, none⟩ = some (.string x.name) ∧ w.cell? ⟨b, o + i * 13 + 2, none⟩ = some (.bool x.typed) ∧ w.cell? ⟨b, o + i * 13 + 3, none⟩ = some (.int .i64 x.t.k) ∧ w.cell? ⟨b, o + i * 13 + 4, none⟩ = some (.int .i64 x.t.b) ∧ w.cell? ⟨b, o + i * 13 + 5, none⟩ = some (.int .i64 x.t.n) ∧ w.cell? ⟨b, o + i * 13 + 6, none⟩ = some (.int .i64 x.e.op) ∧ w.cell? ⟨b, o + i * 13 + 7, none⟩ = some (.int .u64 (x.e.val : Int)) ∧ w.cell? ⟨b, o + i * 13 + 8, none⟩ = some (.string x.e.name) ∧ w.cell? ⟨b, o + i * 13 + 9, none⟩ = some (.slice x.e.a x.e.args.length x.e.cap) ∧ w.cell? ⟨b, o + i * 13 + 10, none⟩ = some (.int .i64 x.lo) ∧ w.cell? ⟨b, o + i * 13 + 11, none⟩ = some (.int .i64 x.hi) ∧ w.cell? ⟨b, o + i * 13 + 12, none⟩ = some (.slice x.a x.body.length x.cap)
theorem AtS.to {w w' : World} {a : Option Addr} {i : Nat} {e : S} (h : AtS w a i e) (hx : ∀ p v, w.cell? p = some v → w'.cell? p = some v) : AtS w' a i e := by
  obtain ⟨b, o, q, h0, h1, h2, h3, h4, h5, h6, h7, h8, h9, h10, h11, h12⟩ := h
  exact ⟨b, o, q, hx _ _ h0, hx _ _ h1, hx _ _ h2, hx _ _ h3, hx _ _ h4, hx _ _ h5, hx _ _ h6, hx _ _ h7, hx _ _ h8, hx _ _ h9, hx _ _ h10, hx _ _ h11, hx _ _ h12⟩
def P.v (x : P) : Value := .agg #[.string x.name, .int .i64 x.t.k, .int .i64 x.t.b, .int .i64 x.t.n]
def AtP (w : World) (a : Option Addr) (i : Nat) (x : P) : Prop :=
  ∃ b o, a = some ⟨b, o, none⟩ ∧ w.cell? ⟨b, o + i * 4, none⟩ = some (.string x.name) ∧ w.cell? ⟨b, o + i * 4 + 1, none⟩ = some (.int .i64 x.t.k) ∧ w.cell? ⟨b, o + i * 4 + 2, none⟩ = some (.int .i64 x.t.b) ∧ w.cell? ⟨b, o + i * 4 + 3, none⟩ = some (.int .i64 x.t.n)
theorem AtP.to {w w' : World} {a : Option Addr} {i : Nat} {e : P} (h : AtP w a i e) (hx : ∀ p v, w.cell? p = some v → w'.cell? p = some v) : AtP w' a i e := by
  obtain ⟨b, o, q, h0, h1, h2, h3⟩ := h
  exact ⟨b, o, q, hx _ _ h0, hx _ _ h1, hx _ _ h2, hx _ _ h3⟩
def D.v (x : D) : Value := .agg #[.bool x.pub, .string x.name, .int .i64 x.t.k, .int .i64 x.t.b, .int .i64 x.t.n]
def AtD (w : World) (a : Option Addr) (i : Nat) (x : D) : Prop :=
  ∃ b o, a = some ⟨b, o, none⟩ ∧ w.cell? ⟨b, o + i * 5, none⟩ = some (.bool x.pub) ∧ w.cell? ⟨b, o + i * 5 + 1, none⟩ = some (.string x.name) ∧ w.cell? ⟨b, o + i * 5 + 2, none⟩ = some (.int .i64 x.t.k) ∧ w.cell? ⟨b, o + i * 5 + 3, none⟩ = some (.int .i64 x.t.b) ∧ w.cell? ⟨b, o + i * 5 + 4, none⟩ = some (.int .i64 x.t.n)
theorem AtD.to {w w' : World} {a : Option Addr} {i : Nat} {e : D} (h : AtD w a i e) (hx : ∀ p v, w.cell? p = some v → w'.cell? p = some v) : AtD w' a i e := by
  obtain ⟨b, o, q, h0, h1, h2, h3, h4⟩ := h
  exact ⟨b, o, q, hx _ _ h0, hx _ _ h1, hx _ _ h2, hx _ _ h3, hx _ _ h4⟩
def F.v (x : F) : Value := .agg #[.string x.name, .slice x.pa x.params.length x.pc, .int .i64 x.t.k, .int .i64 x.t.b, .int .i64 x.t.n, .slice x.ba x.body.length x.bc, .int .i64 x.e.op, .int .u64 (x.e.val : Int), .string x.e.name, .slice x.e.a x.e.args.length x.e.cap]
def AtF (w : World) (a : Option Addr) (i : Nat) (x : F) : Prop :=
  ∃ b o, a = some ⟨b, o, none⟩ ∧ w.cell? ⟨b, o + i * 10, none⟩ = some (.string x.name) ∧ w.cell? ⟨b, o + i * 10 + 1, none⟩ = some (.slice x.pa x.params.length x.pc) ∧ w.cell? ⟨b, o + i * 10 + 2, none⟩ = some (.int .i64 x.t.k) ∧ w.cell? ⟨b, o + i * 10 + 3, none⟩ = some (.int .i64 x.t.b) ∧ w.cell? ⟨b, o + i * 10 + 4, none⟩ = some (.int .i64 x.t.n) ∧ w.cell? ⟨b, o + i * 10 + 5, none⟩ = some (.slice x.ba x.body.length x.bc) ∧ w.cell? ⟨b, o + i * 10 + 6, none⟩ = some (.int .i64 x.e.op) ∧ w.cell? ⟨b, o + i * 10 + 7, none⟩ = some (.int .u64 (x.e.val : Int)) ∧ w.cell? ⟨b, o + i * 10 + 8, none⟩ = some (.string x.e.name) ∧ w.cell? ⟨b, o + i * 10 + 9, none⟩ = some (.slice x.e.a x.e.args.length x.e.cap)
theorem AtF.to {w w' : World} {a : Option Addr} {i : Nat} {e : F} (h : AtF w a i e) (hx : ∀ p v, w.cell? p = some v → w'.cell? p = some v) : AtF w' a i e := by
  obtain ⟨b, o, q, h0, h1, h2, h3, h4, h5, h6, h7, h8, h9⟩ := h
  exact ⟨b, o, q, hx _ _ h0, hx _ _ h1, hx _ _ h2, hx _ _ h3, hx _ _ h4, hx _ _ h5, hx _ _ h6, hx _ _ h7, hx _ _ h8, hx _ _ h9⟩
def G.v (x : G) : Value := .agg #[.slice x.fa x.funcs.length x.fc, .slice x.da x.decls.length x.dc, .slice x.ba x.body.length x.bc]
def TyB (t : Ty) : Prop := (-9223372036854775808 ≤ t.k ∧ t.k ≤ 9223372036854775807) ∧ (-9223372036854775808 ≤ t.b ∧ t.b ≤ 9223372036854775807) ∧ (-9223372036854775808 ≤ t.n ∧ t.n ≤ 9223372036854775807)
/-- The bounds of a statement's own parts. -/
structure BdS (e : S) : Prop where
  k1 : -9223372036854775808 ≤ e.kind
  k2 : e.kind ≤ 9223372036854775807
  lo1 : -9223372036854775808 ≤ e.lo
  lo2 : e.lo ≤ 9223372036854775807
  hi1 : -9223372036854775808 ≤ e.hi
  hi2 : e.hi ≤ 9223372036854775807
  t : TyB e.t
  len : e.body.length ≤ 140737488355328
  name : e.name.size ≤ 140737488355328
mutual
/-- The statements of the body lie where they are said to, theirs too. -/
def InS (w : World) : S → Prop
  | .mk k n ty t e lo hi a c l => BdS (.mk k n ty t e lo hi a c l) ∧ InE w e ∧ InSs w a 0 l
def InSs (w : World) (a : Option Addr) (i : Nat) : List S → Prop
  | [] => True
  | e :: l => AtS w a i e ∧ InS w e ∧ InSs w a (i + 1) l
end
theorem InSs.cons {w : World} {a : Option Addr} {i : Nat} {e : S} {l : List S} : InSs w a i (e :: l) ↔ AtS w a i e ∧ InS w e ∧ InSs w a (i + 1) l := by
  constructor
  · intro h; unfold InSs at h; exact h
  · intro h; unfold InSs; exact h
theorem InS.eq {w : World} {e : S} : InS w e ↔ BdS e ∧ InE w e.e ∧ InSs w e.a 0 e.body := by
  obtain ⟨k, n, ty, t, x, lo, hi, a, c, l⟩ := e
  constructor
  · intro h; unfold InS at h; exact h
  · intro h; unfold InS; exact h
theorem InSs.at {w : World} {a : Option Addr} {x : S} : ∀ {l : List S} {k : Nat} (_ : InSs w a k l) {i : Nat} (_ : l[i]? = some x), AtS w a (k + i) x ∧ InS w x
  | [], _, _, i, hi => by simp at hi
  | e :: l, k, h, 0, hi => by
    have h' : e = x := by simpa using hi
    subst h'
    have := InSs.cons.1 h
    exact ⟨this.1, this.2.1⟩
  | e :: l, k, h, i + 1, hi => by
    have := InSs.at (InSs.cons.1 h).2.2 (i := i) (x := x) (by simpa using hi)
    rw [show k + 1 + i = k + (i + 1) by omega] at this
    exact this
mutual
theorem InS.ext {w w' : World} (hx : ∀ p v, w.cell? p = some v → w'.cell? p = some v) : ∀ {e : S}, InS w e → InS w' e
  | .mk _ _ _ _ _ _ _ _ _ _, h => InS.eq.2 ⟨(InS.eq.1 h).1, (InS.eq.1 h).2.1.ext hx, InSs.ext hx (InS.eq.1 h).2.2⟩
theorem InSs.ext {w w' : World} (hx : ∀ p v, w.cell? p = some v → w'.cell? p = some v) {a : Option Addr} : ∀ {i : Nat} {l : List S}, InSs w a i l → InSs w' a i l
  | _, [], _ => by unfold InSs; trivial
  | _, _ :: _, h => InSs.cons.2 ⟨(InSs.cons.1 h).1.to hx, InS.ext hx (InSs.cons.1 h).2.1, InSs.ext hx (InSs.cons.1 h).2.2⟩
end
theorem InS.to {w w' : World} {e : S} (h : InS w e) (hx : Ext w w') : InS w' e := InS.ext (fun _ _ hc => hx.cell hc) h
theorem InS.bd {w : World} {e : S} (h : InS w e) : BdS e := (InS.eq.1 h).1
theorem InS.e {w : World} {e : S} (h : InS w e) : InE w e.e := (InS.eq.1 h).2.1
/-- A list of statements in a slice. -/
def InB (w : World) (a : Option Addr) (l : List S) : Prop := InSs w a 0 l ∧ l.length ≤ 140737488355328
theorem InB.to {w w' : World} {a : Option Addr} {l : List S} (h : InB w a l) (hx : Ext w w') : InB w' a l := ⟨InSs.ext (fun _ _ hc => hx.cell hc) h.1, h.2⟩
theorem InS.l {w : World} {e : S} (h : InS w e) : InB w e.a e.body := ⟨(InS.eq.1 h).2.2, (InS.eq.1 h).1.len⟩
theorem InB.at {w : World} {a : Option Addr} {l : List S} {x : S} (h : InB w a l) {i : Nat} (hi : l[i]? = some x) : AtS w a i x ∧ InS w x := by
  have := InSs.at h.1 hi
  rwa [Nat.zero_add] at this
/-- Where a parameter, a declaration, a function lies; the first two lie whole in their cells. -/
def InP (_ : World) (p : P) : Prop := TyB p.t ∧ p.name.size ≤ 140737488355328
def InD (_ : World) (p : D) : Prop := TyB p.t ∧ p.name.size ≤ 140737488355328
def InPs (w : World) (a : Option Addr) (l : List P) : Prop := (∀ (i : Nat) x, l[i]? = some x → AtP w a i x ∧ InP w x) ∧ l.length ≤ 140737488355328
theorem InPs.to {w w' : World} {a : Option Addr} {l : List P} (h : InPs w a l) (hx : Ext w w') : InPs w' a l := ⟨fun i x hi => ⟨(h.1 i x hi).1.to (fun _ _ hc => hx.cell hc), (h.1 i x hi).2⟩, h.2⟩
theorem InPs.at {w : World} {a : Option Addr} {l : List P} {x : P} (h : InPs w a l) {i : Nat} (hi : l[i]? = some x) : AtP w a i x ∧ InP w x := h.1 i x hi
theorem InP.to {w w' : World} {e : P} (h : InP w e) (_ : Ext w w') : InP w' e := h
def InDs (w : World) (a : Option Addr) (l : List D) : Prop := (∀ (i : Nat) x, l[i]? = some x → AtD w a i x ∧ InD w x) ∧ l.length ≤ 140737488355328
theorem InDs.to {w w' : World} {a : Option Addr} {l : List D} (h : InDs w a l) (hx : Ext w w') : InDs w' a l := ⟨fun i x hi => ⟨(h.1 i x hi).1.to (fun _ _ hc => hx.cell hc), (h.1 i x hi).2⟩, h.2⟩
theorem InDs.at {w : World} {a : Option Addr} {l : List D} {x : D} (h : InDs w a l) {i : Nat} (hi : l[i]? = some x) : AtD w a i x ∧ InD w x := h.1 i x hi
theorem InD.to {w w' : World} {e : D} (h : InD w e) (_ : Ext w w') : InD w' e := h
structure InF (w : World) (f : F) : Prop where
  t : TyB f.t
  name : f.name.size ≤ 140737488355328
  ps : InPs w f.pa f.params
  body : InB w f.ba f.body
  e : InE w f.e
theorem InF.to {w w' : World} {e : F} (h : InF w e) (hx : Ext w w') : InF w' e := ⟨h.t, h.name, h.ps.to hx, h.body.to hx, h.e.to hx⟩
def InFs (w : World) (a : Option Addr) (l : List F) : Prop := (∀ (i : Nat) x, l[i]? = some x → AtF w a i x ∧ InF w x) ∧ l.length ≤ 140737488355328
theorem InFs.to {w w' : World} {a : Option Addr} {l : List F} (h : InFs w a l) (hx : Ext w w') : InFs w' a l := ⟨fun i x hi => ⟨(h.1 i x hi).1.to (fun _ _ hc => hx.cell hc), (h.1 i x hi).2.to hx⟩, h.2⟩
theorem InFs.at {w : World} {a : Option Addr} {l : List F} {x : F} (h : InFs w a l) {i : Nat} (hi : l[i]? = some x) : AtF w a i x ∧ InF w x := h.1 i x hi
structure InG (w : World) (g : G) : Prop where
  fs : InFs w g.fa g.funcs
  ds : InDs w g.da g.decls
  body : InB w g.ba g.body
theorem InG.to {w w' : World} {e : G} (h : InG w e) (hx : Ext w w') : InG w' e := ⟨h.fs.to hx, h.ds.to hx, h.body.to hx⟩
end Go.Proofs.YtcheigpejbmaoaaDoor
