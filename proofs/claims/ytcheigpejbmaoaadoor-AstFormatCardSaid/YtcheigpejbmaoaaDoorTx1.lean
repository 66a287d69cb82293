/- Plain: the texts of statements, functions, inputs, programs; equal programs have equal texts. -/
import Derived.Test.YtcheigpejbmaoaaDoorVa1
import Derived.Test.YtcheigpejbmaoaaDoorAx4
namespace Go.Proofs.YtcheigpejbmaoaaDoor
open Go.RowKit
/-- Texts of a list, each followed by a byte. -/
def linesL {T : Type} (sep : UInt8) (tx : T → List UInt8) : List T → List UInt8
  | [] => []
  | x :: l => tx x ++ (sep :: linesL sep tx l)
mutual
/-- The text of a statement. -/
def txS : S → List UInt8
  | .mk k n ty t e lo hi _ _ l =>
    if k = 1 then [108, 101, 116, 32] ++ (n.data.toList ++ ((if ty = true then [58, 32] ++ tyTx t.k t.b t.n else []) ++ ([32, 61, 32] ++ (txB e ++ [59]))))
    else if k = 2 then [97, 115, 115, 101, 114, 116, 32] ++ (txB e ++ [59])
    else if k = 3 then [102, 111, 114, 32] ++ (n.data.toList ++ ([32, 105, 110, 32] ++ (Lib.decDigits lo.toNat ++ ([46, 46] ++ (Lib.decDigits hi.toNat ++ ([32, 123, 32] ++ (txSs l ++ [125])))))))
    else []
def txSs : List S → List UInt8
  | [] => []
  | x :: l => txS x ++ (32 :: txSs l)
end
theorem txSs_lines : ∀ l, txSs l = linesL 32 txS l
  | [] => rfl
  | x :: l => by show txS x ++ (32 :: txSs l) = txS x ++ (32 :: linesL 32 txS l); rw [txSs_lines l]
theorem txS_eq (x : S) : txS x = (if x.kind = 1 then [108, 101, 116, 32] ++ (x.name.data.toList ++ ((if x.typed = true then [58, 32] ++ tyTx x.t.k x.t.b x.t.n else []) ++ ([32, 61, 32] ++ (txB x.e ++ [59]))))
    else if x.kind = 2 then [97, 115, 115, 101, 114, 116, 32] ++ (txB x.e ++ [59])
    else if x.kind = 3 then [102, 111, 114, 32] ++ (x.name.data.toList ++ ([32, 105, 110, 32] ++ (Lib.decDigits x.lo.toNat ++ ([46, 46] ++ (Lib.decDigits x.hi.toNat ++ ([32, 123, 32] ++ (txSs x.body ++ [125])))))))
    else []) := by
  obtain ⟨k, n, ty, t, e, lo, hi, a, c, l⟩ := x
  rfl
def txP (p : P) : List UInt8 := p.name.data.toList ++ ([58, 32] ++ tyTx p.t.k p.t.b p.t.n)
def txF (f : F) : List UInt8 := [102, 110, 32] ++ (f.name.data.toList ++ ([40] ++ (comF true (f.params.map txP) ++ ([41, 58, 32] ++ (tyTx f.t.k f.t.b f.t.n ++ ([32, 123, 32] ++ (txSs f.body ++ ([114, 101, 116, 117, 114, 110, 32] ++ (txB f.e ++ [59, 32, 125])))))))))
def txD (d : D) : List UInt8 := (if d.pub = true then [112, 117, 98, 108, 105, 99, 32] else [115, 101, 99, 114, 101, 116, 32]) ++ (d.name.data.toList ++ ([58, 32] ++ (tyTx d.t.k d.t.b d.t.n ++ [59])))
/-- The text of a program. -/
def txG (g : G) : List UInt8 := linesL 10 txF g.funcs ++ (linesL 10 txD g.decls ++ linesL 10 txS g.body)
theorem linesL_snoc {T : Type} (sep : UInt8) (tx : T → List UInt8) : ∀ (l : List T) (x : T), linesL sep tx (l ++ [x]) = linesL sep tx l ++ (tx x ++ [sep])
  | [], x => by show tx x ++ (sep :: []) = [] ++ (tx x ++ [sep]); simp
  | y :: l, x => by show tx y ++ (sep :: linesL sep tx (l ++ [x])) = (tx y ++ (sep :: linesL sep tx l)) ++ _; rw [linesL_snoc sep tx l x]; simp
mutual
theorem txB_congr : ∀ x y, eqE x y = true → x.op = y.op ∧ txB x = txB y
  | .mk o v n a c l, .mk o' v' n' a' c' l', h => by
    have h' : ((o == o') && decide (v = v') && strEq n n' && eqEs l l') = true := h
    simp only [Bool.and_eq_true, beq_iff_eq, decide_eq_true_eq, strEq] at h'
    obtain ⟨⟨⟨rfl, rfl⟩, rfl⟩, h4⟩ := h'
    obtain ⟨q1, q2⟩ := txs_congr l l' h4
    refine ⟨rfl, ?_⟩
    show asm o v n (fun i => (l.map E.op).getD i 0) (txs l) = asm o v n (fun i => (l'.map E.op).getD i 0) (txs l')
    rw [q1, q2]
theorem txs_congr : ∀ l m, eqEs l m = true → l.map E.op = m.map E.op ∧ txs l = txs m
  | [], [], _ => ⟨rfl, rfl⟩
  | [], _ :: _, h => by cases h
  | _ :: _, [], h => by cases h
  | x :: l, y :: m, h => by
    have h' : (eqE x y && eqEs l m) = true := h
    rw [Bool.and_eq_true] at h'
    obtain ⟨q1, q2⟩ := txB_congr x y h'.1
    obtain ⟨q3, q4⟩ := txs_congr l m h'.2
    refine ⟨?_, ?_⟩
    · rw [List.map_cons, List.map_cons, q1, q3]
    · show txB x :: txs l = txB y :: txs m
      rw [q2, q4]
end
theorem eqT_eq {s t : Ty} (h : eqT s t = true) : s = t := by
  obtain ⟨a, b, c⟩ := s
  obtain ⟨d, e, f⟩ := t
  simp only [eqT, Bool.and_eq_true, beq_iff_eq] at h
  obtain ⟨⟨rfl, rfl⟩, rfl⟩ := h
  rfl
mutual
theorem txS_congr : ∀ x y, eqS x y = true → txS x = txS y
  | .mk k n ty t e lo hi a c l, .mk k' n' ty' t' e' lo' hi' a' c' l', h => by
    have h' : ((k == k') && strEq n n' && (ty == ty') && eqT t t' && (lo == lo') && (hi == hi') && eqE e e' && eqSs l l') = true := h
    simp only [Bool.and_eq_true, beq_iff_eq, strEq, decide_eq_true_eq] at h'
    obtain ⟨⟨⟨⟨⟨⟨⟨rfl, rfl⟩, rfl⟩, h4⟩, rfl⟩, rfl⟩, h7⟩, h8⟩ := h'
    obtain rfl := eqT_eq h4
    have q := (txB_congr e e' h7).2
    have q2 := txSs_congr l l' h8
    unfold txS
    rw [q, q2]
theorem txSs_congr : ∀ l m, eqSs l m = true → txSs l = txSs m
  | [], [], _ => rfl
  | [], _ :: _, h => by cases h
  | _ :: _, [], h => by cases h
  | x :: l, y :: m, h => by
    have h' : (eqS x y && eqSs l m) = true := h
    rw [Bool.and_eq_true] at h'
    show txS x ++ (32 :: txSs l) = txS y ++ (32 :: txSs m)
    rw [txS_congr x y h'.1, txSs_congr l m h'.2]
end
theorem linesL_congr {T : Type} (sep : UInt8) {tx : T → List UInt8} {p : T → T → Bool} (h : ∀ x y, p x y = true → tx x = tx y) : ∀ l m, eqL p l m = true → linesL sep tx l = linesL sep tx m
  | [], [], _ => rfl
  | [], _ :: _, e => by rw [eqL_nil_cons] at e; cases e
  | _ :: _, [], e => by rw [eqL_cons_nil] at e; cases e
  | x :: l, y :: m, e => by
    rw [eqL_cons, Bool.and_eq_true] at e
    show tx x ++ (sep :: linesL sep tx l) = tx y ++ (sep :: linesL sep tx m)
    rw [h x y e.1, linesL_congr sep h l m e.2]
theorem map_congrL {T : Type} {tx : T → List UInt8} {p : T → T → Bool} (h : ∀ x y, p x y = true → tx x = tx y) : ∀ l m, eqL p l m = true → l.map tx = m.map tx
  | [], [], _ => rfl
  | [], _ :: _, e => by rw [eqL_nil_cons] at e; cases e
  | _ :: _, [], e => by rw [eqL_cons_nil] at e; cases e
  | x :: l, y :: m, e => by
    rw [eqL_cons, Bool.and_eq_true] at e
    rw [List.map_cons, List.map_cons, h x y e.1, map_congrL h l m e.2]
theorem txP_congr (x y : P) (h : eqP x y = true) : txP x = txP y := by
  simp only [eqP, Bool.and_eq_true, strEq, decide_eq_true_eq] at h
  unfold txP
  rw [h.1, eqT_eq h.2]
theorem txD_congr (x y : D) (h : eqD x y = true) : txD x = txD y := by
  simp only [eqD, Bool.and_eq_true, strEq, decide_eq_true_eq, beq_iff_eq] at h
  unfold txD
  rw [h.1.1, h.1.2, eqT_eq h.2]
theorem txF_congr (x y : F) (h : eqFn x y = true) : txF x = txF y := by
  simp only [eqFn, Bool.and_eq_true, strEq, decide_eq_true_eq] at h
  obtain ⟨⟨⟨⟨h1, h2⟩, h3⟩, h4⟩, h5⟩ := h
  unfold txF
  rw [h1, map_congrL txP_congr _ _ h2, eqT_eq h3, (txB_congr _ _ h5).2, txSs_congr _ _ (by rw [eqSs_eq]; exact h4)]
theorem txG_congr (x y : G) (h : eqG x y = true) : txG x = txG y := by
  simp only [eqG, Bool.and_eq_true] at h
  unfold txG
  rw [linesL_congr 10 txF_congr _ _ h.1.1, linesL_congr 10 txD_congr _ _ h.1.2, linesL_congr 10 txS_congr _ _ h.2]
end Go.Proofs.YtcheigpejbmaoaaDoor
