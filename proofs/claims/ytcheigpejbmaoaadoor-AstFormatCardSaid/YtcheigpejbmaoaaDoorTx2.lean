/- Plain: how long the texts of a small program are. -/
import Derived.Test.YtcheigpejbmaoaaDoorTx1
import Derived.Test.YtcheigpejbmaoaaDoorGF
import Derived.Test.YtcheigpejbmaoaaDoorAxB
import Derived.Test.YtcheigpejbmaoaaDoorVa4
import Derived.Test.YtcheigpejbmaoaaDoorGJ
import Derived.Test.YtcheigpejbmaoaaDoorVb4
namespace Go.Proofs.YtcheigpejbmaoaaDoor
open Go.RowKit
def slen : List (List UInt8) → Nat
  | [] => 0
  | t :: ts => t.length + 2 + slen ts
theorem comF_len : ∀ (f : Bool) (ts : List (List UInt8)), (comF f ts).length ≤ slen ts
  | _, [] => Nat.le_refl _
  | f, t :: ts => by
    have := comF_len false ts
    show ((if f = true then [] else (⟨#[44, 32]⟩ : ByteArray).data.toList) ++ (t ++ comF false ts)).length ≤ t.length + 2 + slen ts
    have h2 : (if f = true then ([] : List UInt8) else (⟨#[44, 32]⟩ : ByteArray).data.toList).length ≤ 2 := by cases f <;> decide
    simp only [List.length_append] at *
    omega
theorem getD3 : ∀ ts : List (List UInt8), (ts.getD 0 []).length + (ts.getD 1 []).length + (ts.getD 2 []).length ≤ slen ts
  | [] => Nat.le_refl _
  | [a] => by show a.length + 0 + 0 ≤ a.length + 2 + 0; omega
  | [a, b] => by show a.length + b.length + 0 ≤ a.length + 2 + (b.length + 2 + 0); omega
  | a :: b :: c :: l => by show a.length + b.length + c.length ≤ a.length + 2 + (b.length + 2 + (c.length + 2 + slen l)); omega
theorem par_len (op r : Int) (t : List UInt8) : (par op r t).length ≤ t.length + 2 := by
  unfold par
  by_cases h : lvl op < r
  · rw [if_pos h]; simp only [List.length_append]; show 1 + (t.length + 1) ≤ _; omega
  · rw [if_neg h]; omega
theorem binS_len (op : Int) : (binS op).data.toList.length ≤ 5 := by
  unfold binS
  repeat (split; · decide)
  decide
theorem asm_len (op : Int) (val : Nat) (name : ByteArray) (o : Nat → Int) (ts : List (List UInt8)) (hv : val < 18446744073709551616) : (asm op val name o ts).length ≤ 36 + name.size + slen ts := by
  have g := getD3 ts
  have hc := comF_len true ts
  have hd := digits_le val hv
  have hb := binS_len op
  have hn : name.data.toList.length = name.size := (Lib.size_eq name).symm
  have k1 : ((⟨(Lib.decDigits val).toArray⟩ : ByteArray).data.toList).length = (Lib.decDigits val).length := rfl
  unfold asm
  by_cases h1 : op = 1
  · rw [if_pos h1, k1]; omega
  rw [if_neg h1]
  by_cases h2 : op = 2
  · rw [if_pos h2, hn]; omega
  rw [if_neg h2]
  by_cases h3 : op = 3
  · rw [if_pos h3]; show 4 ≤ _; omega
  rw [if_neg h3]
  by_cases h4 : op = 4
  · rw [if_pos h4]; show 5 ≤ _; omega
  rw [if_neg h4]
  by_cases h5 : op = 5
  · rw [if_pos h5]
    simp only [ByteArray.data_append, Array.toList_append, List.length_append, hn]
    show name.size + 1 + ((comF true ts).length + 1) ≤ _
    omega
  rw [if_neg h5]
  by_cases h6 : op = 6
  · rw [if_pos h6]
    simp only [ByteArray.data_append, Array.toList_append, List.length_append]
    show 5 + (Lib.decDigits val).length + 2 + ((comF true ts).length + 1) ≤ _
    omega
  rw [if_neg h6]
  by_cases h7 : op = 7
  · rw [if_pos h7]
    simp only [List.length_append]
    show 1 + ((comF true ts).length + 1) ≤ _
    omega
  rw [if_neg h7]
  by_cases h8 : op = 8
  · rw [if_pos h8]
    have p0 := par_len (o 0) 8 (ts.getD 0 [])
    have p1 := par_len (o 1) 1 (ts.getD 1 [])
    simp only [List.length_append]
    show (par (o 0) 8 (ts.getD 0 [])).length + (1 + ((par (o 1) 1 (ts.getD 1 [])).length + 1)) ≤ _
    omega
  rw [if_neg h8]
  by_cases h9 : op = 9
  · rw [if_pos h9]
    have p0 := par_len (o 0) (if o 0 = 9 then 8 else 7) (ts.getD 0 [])
    simp only [List.length_append]
    show 1 + (par (o 0) (if o 0 = 9 then 8 else 7) (ts.getD 0 [])).length ≤ _
    omega
  rw [if_neg h9]
  by_cases h10 : op = 10
  · rw [if_pos h10]
    have p0 := par_len (o 0) 7 (ts.getD 0 [])
    simp only [List.length_append]
    show 4 + (par (o 0) 7 (ts.getD 0 [])).length ≤ _
    omega
  rw [if_neg h10]
  by_cases h20 : op = 20
  · rw [if_pos h20]
    have p0 := par_len (o 0) 2 (ts.getD 0 [])
    have p1 := par_len (o 1) 1 (ts.getD 1 [])
    have p2 := par_len (o 2) 1 (ts.getD 2 [])
    simp only [List.length_append]
    show (par (o 0) 2 (ts.getD 0 [])).length + (3 + ((par (o 1) 1 (ts.getD 1 [])).length + (3 + (par (o 2) 1 (ts.getD 2 [])).length))) ≤ _
    omega
  rw [if_neg h20]
  have p0 := par_len (o 0) (if lvl op = 4 then 5 else lvl op) (ts.getD 0 [])
  have p1 := par_len (o 1) (lvl op + 1) (ts.getD 1 [])
  simp only [List.length_append]
  omega
theorem slen_le : ∀ (l : List E), (∀ x ∈ l, (txB x).length + 2 ≤ 40 * wtE x) → slen (l.map txB) ≤ 40 * wtEs l
  | [], _ => Nat.le_refl _
  | x :: l, h => by
    have h1 := h x (List.mem_cons_self ..)
    have h2 := slen_le l (fun y hy => h y (List.mem_cons_of_mem _ hy))
    show (txB x).length + 2 + slen (l.map txB) ≤ 40 * (wtE x + wtEs l)
    omega
theorem len_txB_n {w : World} : ∀ (m : Nat) (e : E), E.sz e < m → InE w e → (txB e).length + 2 ≤ 40 * wtE e
  | 0, _, h, _ => absurd h (by omega)
  | m + 1, e, hm, he => by
    have h1 := asm_len e.op e.val e.name (oAt e.args) (e.args.map txB) he.bd.val
    have h2 := slen_le e.args (fun x hx => by
      obtain ⟨i, hi, rfl⟩ := List.mem_iff_getElem.1 hx
      have hq := List.getElem?_eq_getElem hi
      exact len_txB_n m _ (by have := E.sz_arg (e := e) hq; omega) (he.l.at hq).2)
    rw [txB_eq, wtE_eq]
    omega
theorem len_txB {w : World} {e : E} (he : InE w e) : (txB e).length + 2 ≤ 40 * wtE e := len_txB_n _ e (Nat.lt_succ_self _) he
theorem lines_len {T : Type} (sep : UInt8) (tx : T → List UInt8) (C : Nat) (g : T → Nat) : ∀ (A : List T), (∀ x ∈ A, (tx x).length + 1 ≤ C * g x) → (linesL sep tx A).length ≤ C * sumL g A
  | [], _ => Nat.zero_le _
  | x :: l, h => by
    have h1 := h x (List.mem_cons_self ..)
    have h2 := lines_len sep tx C g l (fun y hy => h y (List.mem_cons_of_mem _ hy))
    have e : (linesL sep tx (x :: l)).length = (tx x).length + (1 + (linesL sep tx l).length) := by
      show (tx x ++ (sep :: linesL sep tx l)).length = _
      simp only [List.length_append, List.length_cons]; omega
    have e2 : sumL g (x :: l) = g x + sumL g l := rfl
    rw [e, e2, Nat.mul_add]
    omega
theorem wtSs_sum : ∀ l, wtSs l = sumL wtS l
  | [] => rfl
  | x :: l => by show wtS x + wtSs l = wtS x + sumL wtS l; rw [wtSs_sum l]
theorem len_txS_n {w : World} : ∀ (m : Nat) (x : S), S.sz x < m → okS x = true → InS w x → (txS x).length + 1 ≤ 64 * wtS x
  | 0, _, h, _, _ => absurd h (by omega)
  | m + 1, x, hm, hok, hx => by
    have hb := len_txB hx.e
    have hn : x.name.data.toList.length = x.name.size := (Lib.size_eq x.name).symm
    have bd := hx.bd
    rw [txS_eq, wtS_eq]
    rcases okS_kind hok with ⟨k, q⟩ | ⟨k, q⟩ | ⟨k, q⟩
    · rw [if_pos k]
      have ht : (if x.typed = true then [58, 32] ++ tyTx x.t.k x.t.b x.t.n else []).length ≤ 49 := by
        cases hq : x.typed
        · exact Nat.zero_le _
        · rw [hq] at q
          have := tyTx_le (show tyOk x.t.k x.t.b x.t.n = true from by simpa using q.1)
          rw [if_pos rfl]
          simp only [List.length_append, List.length_cons, List.length_nil]
          omega
      simp only [List.length_append, List.length_cons, List.length_nil, hn] at ht ⊢
      omega
    · rw [if_neg (by rw [k]; decide), if_pos k]
      simp only [List.length_append, List.length_cons, List.length_nil]
      omega
    · rw [if_neg (by rw [k]; decide), if_neg (by rw [k]; decide), if_pos k]
      obtain ⟨_, _, _, _, l0, h0, hall⟩ := q
      have d1 := digits_le x.lo.toNat (by have := bd.lo2; omega)
      have d2 := digits_le x.hi.toNat (by have := bd.hi2; omega)
      have hl := lines_len 32 txS 64 wtS x.body (fun u hu => by
        obtain ⟨i, hi, rfl⟩ := List.mem_iff_getElem.1 hu
        have hq := List.getElem?_eq_getElem hi
        exact len_txS_n m _ (by have := S.sz_arg (e := x) hq; omega) (all_at hall hq) (hx.l.at hq).2)
      rw [txSs_lines, wtSs_sum]
      simp only [List.length_append, List.length_cons, List.length_nil, hn]
      omega
theorem len_txS {w : World} {x : S} (hok : okS x = true) (hx : InS w x) : (txS x).length + 1 ≤ 64 * wtS x := len_txS_n _ x (Nat.lt_succ_self _) hok hx
theorem len_body {w : World} {a : Option Addr} {l : List S} (sep : UInt8) (hok : l.all okS = true) (hl : InB w a l) : (linesL sep txS l).length ≤ 64 * wtSs l := by
  rw [wtSs_sum]
  exact lines_len sep txS 64 wtS l (fun u hu => by
    obtain ⟨i, hi, rfl⟩ := List.mem_iff_getElem.1 hu
    have hq := List.getElem?_eq_getElem hi
    exact len_txS (all_at hok hq) (hl.at hq).2)
theorem sumL_one {T : Type} (f : T → Nat) : ∀ l : List T, sumL (fun x => 1 + f x) l = l.length + sumL f l
  | [] => rfl
  | x :: l => by show 1 + f x + sumL (fun x => 1 + f x) l = (l.length + 1) + (f x + sumL f l); rw [sumL_one f l]; omega
theorem len_txP {p : P} (h : okP p = true) : (txP p).length ≤ 49 + p.name.size := by
  unfold okP at h
  rw [Bool.and_eq_true] at h
  have := tyTx_le h.2
  have hn : p.name.data.toList.length = p.name.size := (Lib.size_eq p.name).symm
  unfold txP
  simp only [List.length_append, List.length_cons, List.length_nil, hn]
  omega
theorem slenP : ∀ (l : List P), l.all okP = true → slen (l.map txP) ≤ 64 * (l.length + sumL nmP l)
  | [], _ => Nat.zero_le _
  | x :: l, h => by
    rw [List.all_cons, Bool.and_eq_true] at h
    have h1 := len_txP h.1
    have h2 := slenP l h.2
    have e : nmP x = x.name.size := rfl
    show (txP x).length + 2 + slen (l.map txP) ≤ 64 * ((l.length + 1) + (nmP x + sumL nmP l))
    omega
theorem len_txF {w : World} {f : F} (hok : okF f = true) (hf : InF w f) : (txF f).length + 1 ≤ 128 * (1 + wtF f) := by
  unfold okF at hok
  simp only [Bool.and_eq_true] at hok
  obtain ⟨a1, a2, a3, a4, a5⟩ := hok
  have h1 := comF_len true (f.params.map txP)
  have h2 := slenP f.params a2
  have h3 := tyTx_le a3
  have h4 := len_body 32 a4 hf.body
  have h5 := len_txB hf.e
  have hn : f.name.data.toList.length = f.name.size := (Lib.size_eq f.name).symm
  have e : wtF f = f.name.size + f.params.length + wtSs f.body + wtE f.e + sumL nmP f.params := rfl
  unfold txF
  rw [txSs_lines, e]
  simp only [List.length_append, List.length_cons, List.length_nil, hn]
  omega
theorem len_txD {d : D} (hok : okD d = true) : (txD d).length + 1 ≤ 128 * (1 + nmD d) := by
  unfold okD at hok
  rw [Bool.and_eq_true] at hok
  have h3 := tyTx_le hok.2
  have hn : d.name.data.toList.length = d.name.size := (Lib.size_eq d.name).symm
  have e : nmD d = d.name.size := rfl
  have h1 : (if d.pub = true then ([112, 117, 98, 108, 105, 99, 32] : List UInt8) else [115, 101, 99, 114, 101, 116, 32]).length ≤ 7 := by cases d.pub <;> decide
  unfold txD
  simp only [List.length_append, List.length_cons, List.length_nil, hn] at h1 ⊢
  omega
theorem len_txG {w : World} {g : G} (hok : okG g = true) (hg : InG w g) : (txG g).length ≤ 128 * wtG g := by
  unfold okG at hok
  simp only [Bool.and_eq_true] at hok
  have h1 := lines_len 10 txF 128 (fun f => 1 + wtF f) g.funcs (fun u hu => by
    obtain ⟨i, hi, rfl⟩ := List.mem_iff_getElem.1 hu
    have hq := List.getElem?_eq_getElem hi
    exact len_txF (all_at hok.1 hq) (hg.fs.at hq).2)
  have h2 := lines_len 10 txD 128 (fun f => 1 + nmD f) g.decls (fun u hu => by
    obtain ⟨i, hi, rfl⟩ := List.mem_iff_getElem.1 hu
    exact len_txD (all_at hok.2.1 (List.getElem?_eq_getElem hi)))
  have h3 := len_body 10 hok.2.2 hg.body
  rw [sumL_one] at h1 h2
  have e : wtG g = wtSs g.body + g.decls.length + g.funcs.length + sumL wtF g.funcs + sumL nmD g.decls := rfl
  unfold txG
  rw [e]
  simp only [List.length_append]
  omega
end Go.Proofs.YtcheigpejbmaoaaDoor
