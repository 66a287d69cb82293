/- Plain: the text of an expression; its depth. -/
import Derived.Test.YtcheigpejbmaoaaDoorAs4
import Derived.Test.YtcheigpejbmaoaaDoorAsN
import Derived.Test.YtcheigpejbmaoaaDoorAsV
namespace Go.Proofs.YtcheigpejbmaoaaDoor
open Go.RowKit
/-- The level of an operator. -/
def lvl (op : Int) : Int :=
  if op = 20 then 1 else if op = 19 then 2 else if op = 18 then 3 else if 14 ≤ op ∧ op ≤ 17 then 4 else if op = 12 ∨ op = 13 then 5 else if op = 11 then 6 else if op = 9 ∨ op = 10 then 7 else if op = 8 then 8 else 9
theorem lvl_pos (op : Int) : 1 ≤ lvl op ∧ lvl op ≤ 9 := by
  unfold lvl
  repeat (split; · omega)
  omega
/-- A text, in parentheses if its level is less than r. -/
def par (op r : Int) (t : List UInt8) : List UInt8 := if lvl op < r then (⟨#[40]⟩ : ByteArray).data.toList ++ (t ++ (⟨#[41]⟩ : ByteArray).data.toList) else t
theorem par_one (op : Int) (t : List UInt8) : par op 1 t = t := by
  unfold par
  rw [if_neg (by have := lvl_pos op; omega)]
/-- The text of a binary operator. -/
def binS (op : Int) : ByteArray :=
  if op = 19 then ⟨#[32, 111, 114, 32]⟩ else if op = 18 then ⟨#[32, 97, 110, 100, 32]⟩ else if op = 14 then ⟨#[32, 61, 61, 32]⟩ else if op = 15 then ⟨#[32, 33, 61, 32]⟩ else if op = 16 then ⟨#[32, 60, 32]⟩ else if op = 17 then ⟨#[32, 60, 61, 32]⟩ else if op = 12 then ⟨#[32, 43, 32]⟩ else if op = 13 then ⟨#[32, 45, 32]⟩ else ⟨#[32, 42, 32]⟩
/-- Texts, separated by a comma and a space. -/
def comF : Bool → List (List UInt8) → List UInt8
  | _, [] => []
  | f, t :: l => (if f then [] else (⟨#[44, 32]⟩ : ByteArray).data.toList) ++ (t ++ comF false l)
theorem comF_snoc : ∀ (f : Bool) (l : List (List UInt8)) (t : List UInt8), comF f (l ++ [t]) = comF f l ++ ((if f && l.isEmpty then [] else (⟨#[44, 32]⟩ : ByteArray).data.toList) ++ t)
  | f, [], t => by cases f <;> simp [comF]
  | f, x :: l, t => by
    show _ ++ (x ++ comF false (l ++ [t])) = (_ ++ (x ++ comF false l)) ++ _
    rw [comF_snoc false l t]
    simp
/-- The text of an expression, from its operator, its value and name, its operands' operators and texts. -/
def asm (op : Int) (val : Nat) (name : ByteArray) (o : Nat → Int) (ts : List (List UInt8)) : List UInt8 :=
  if op = 1 then (⟨(Lib.decDigits val).toArray⟩ : ByteArray).data.toList
  else if op = 2 then name.data.toList
  else if op = 3 then (⟨#[116, 114, 117, 101]⟩ : ByteArray).data.toList
  else if op = 4 then (⟨#[102, 97, 108, 115, 101]⟩ : ByteArray).data.toList
  else if op = 5 then (name ++ ⟨#[40]⟩ : ByteArray).data.toList ++ (comF true ts ++ (⟨#[41]⟩ : ByteArray).data.toList)
  else if op = 6 then ((⟨#[104, 97, 115, 104, 40]⟩ : ByteArray) ++ ⟨(Lib.decDigits val).toArray⟩ ++ ⟨#[59, 32]⟩ : ByteArray).data.toList ++ (comF true ts ++ (⟨#[41]⟩ : ByteArray).data.toList)
  else if op = 7 then (⟨#[91]⟩ : ByteArray).data.toList ++ (comF true ts ++ (⟨#[93]⟩ : ByteArray).data.toList)
  else if op = 8 then par (o 0) 8 (ts.getD 0 []) ++ ((⟨#[91]⟩ : ByteArray).data.toList ++ (par (o 1) 1 (ts.getD 1 []) ++ (⟨#[93]⟩ : ByteArray).data.toList))
  else if op = 9 then (⟨#[45]⟩ : ByteArray).data.toList ++ par (o 0) (if o 0 = 9 then 8 else 7) (ts.getD 0 [])
  else if op = 10 then (⟨#[110, 111, 116, 32]⟩ : ByteArray).data.toList ++ par (o 0) 7 (ts.getD 0 [])
  else if op = 20 then par (o 0) 2 (ts.getD 0 []) ++ ((⟨#[32, 63, 32]⟩ : ByteArray).data.toList ++ (par (o 1) 1 (ts.getD 1 []) ++ ((⟨#[32, 58, 32]⟩ : ByteArray).data.toList ++ par (o 2) 1 (ts.getD 2 []))))
  else par (o 0) (if lvl op = 4 then 5 else lvl op) (ts.getD 0 []) ++ ((binS op).data.toList ++ par (o 1) (lvl op + 1) (ts.getD 1 []))
mutual
/-- The text of an expression, without parentheses around it. -/
def txB : E → List UInt8
  | .mk op v nm _ _ l => asm op v nm (fun i => (l.map E.op).getD i 0) (txs l)
def txs : List E → List (List UInt8)
  | [] => []
  | e :: l => txB e :: txs l
end
theorem txs_map : ∀ l, txs l = l.map txB
  | [] => rfl
  | e :: l => by show txB e :: txs l = _; rw [txs_map l]; rfl
def oAt (l : List E) (i : Nat) : Int := (l.map E.op).getD i 0
theorem oAt_get {l : List E} {i : Nat} {x : E} (h : l[i]? = some x) : oAt l i = x.op := by unfold oAt; rw [List.getD_eq_getElem?_getD, List.getElem?_map, h]; rfl
theorem tAt_get {l : List E} {i : Nat} {x : E} (h : l[i]? = some x) : (l.map txB).getD i [] = txB x := by rw [List.getD_eq_getElem?_getD, List.getElem?_map, h]; rfl
theorem txB_eq (e : E) : txB e = asm e.op e.val e.name (oAt e.args) (e.args.map txB) := by
  obtain ⟨o, v, n, a, c, l⟩ := e
  rw [← txs_map]; rfl
mutual
def depE : E → Nat
  | .mk _ _ _ _ _ l => depEs l + 1
def depEs : List E → Nat
  | [] => 0
  | e :: l => max (depE e) (depEs l)
end
theorem depEs_snoc : ∀ (l : List E) (e : E), depEs (l ++ [e]) = max (depEs l) (depE e)
  | [], e => by show max (depE e) 0 = max 0 (depE e); omega
  | x :: l, e => by show max (depE x) (depEs (l ++ [e])) = max (max (depE x) (depEs l)) (depE e); rw [depEs_snoc l e]; omega
theorem depE_eq (e : E) : depE e = depEs e.args + 1 := by
  obtain ⟨o, v, n, a, c, l⟩ := e
  rfl
mutual
theorem depE_sz : ∀ e, depE e ≤ E.sz e
  | .mk _ _ _ _ _ l => by have := depEs_sz l; show depEs l + 1 ≤ E.szs l + 1; omega
theorem depEs_sz : ∀ l, depEs l ≤ E.szs l
  | [] => Nat.le_refl _
  | e :: l => by have := depE_sz e; have := depEs_sz l; show max (depE e) (depEs l) ≤ E.sz e + E.szs l; omega
end
theorem szs_take : ∀ (l : List E) (j : Nat), E.szs (l.take j) ≤ E.szs l
  | [], j => by simp
  | e :: l, 0 => Nat.zero_le _
  | e :: l, j + 1 => by have := szs_take l j; show E.sz e + E.szs (l.take j) ≤ E.sz e + E.szs l; omega
theorem take_snoc {α : Type} {l : List α} {j : Nat} {x : α} (h : l[j]? = some x) : l.take (j + 1) = l.take j ++ [x] := by rw [List.take_add_one, h]; rfl
def DpRel (l : List E) (w1 : World) (s3 s9 : Value) (wr : World) : Prop := ∃ j : Nat, s9 = .int .i64 j ∧ j ≤ l.length ∧ s3 = .int .i64 ((depEs (l.take j) : Nat) : Int) ∧ Ext w1 wr
set_option maxHeartbeats 2000000 in
theorem Depth_n : ∀ (m : Nat) (e : E), E.sz e < m → E.sz e ≤ 1000000000 → ∀ w, InE w e → Calls Tryd.prog 80 #[e.v] w fun r w' => r = .returned (.int .i64 ((depE e : Nat) : Int)) ∧ Ext w w' := by
  intro m
  induction m with
  | zero => intro e h; exact absurd h (by omega)
  | succ m ih =>
    intro e hm hsz w he
    have IH := Lib.hid (fun (i : Nat) x (hx : e.args[i]? = some x) w' h => ih x (by have := E.sz_arg hx; omega) (by have := E.sz_arg hx; omega) w' h)
    have HL := Lib.hid he.l
    have hcap := he.l.2
    have HS : Hid (∀ j, depEs (e.args.take j) ≤ 1000000000) := Lib.hid (fun j => by
      have h1 := depEs_sz (e.args.take j)
      have h2 := szs_take e.args j
      have h3 : E.szs e.args + 1 = E.sz e := by obtain ⟨o, v, n, a, c, l⟩ := e; rfl
      omega)
    rw [depE_eq]
    unfold E.v
    obtain ⟨op, hop⟩ : ∃ q, q = e.op := ⟨_, rfl⟩
    obtain ⟨v, hv⟩ : ∃ q, q = e.val := ⟨_, rfl⟩
    obtain ⟨s, hs⟩ : ∃ q, q = e.name := ⟨_, rfl⟩
    obtain ⟨a, ha⟩ : ∃ q, q = e.a := ⟨_, rfl⟩
    obtain ⟨c, hc⟩ : ∃ q, q = e.cap := ⟨_, rfl⟩
    obtain ⟨l, hl⟩ : ∃ q, q = e.args := ⟨_, rfl⟩
    obtain ⟨n, hn⟩ : ∃ q, q = l.length := ⟨_, rfl⟩
    rw [← hop, ← hv, ← hs, ← ha, ← hc, ← hl, ← hn]
    rw [← hl] at IH HS hcap
    rw [← ha, ← hl] at HL
    rw [← hn] at hcap
    have HN := Lib.hid hn
    clear ih hop hv hs ha hc hl hn he hm hsz
    go_enter Tryd.func80, Tryd.ntmps80
    go_wp2_with fail
    obtain ⟨w1, hw1⟩ : ∃ q, q = w.alloc (.cells #[.int .i64 op, .int .u64 (v : Int), .string s, .slice a n c] 44) := ⟨_, rfl⟩
    have X1 : Ext w w1 := by rw [hw1]; exact (Ext.refl _).alloc _
    rw [← hw1]
    have HX1 := Lib.hid X1
    clear hw1 X1
    go_loopw [3, 9] (DpRel l w1) (fun _ s _ => n - (intOf s).toNat)
    case atStart => exact ⟨0, rfl, Nat.zero_le _, rfl, Ext.refl _⟩
    case round =>
      obtain ⟨j, rfl, hj, rfl, hext⟩ := hrel
      rw [← HN.out] at hj
      have HX := Lib.hid hext
      clear hext
      by_cases hlt : j < n
      · obtain ⟨x, hxj⟩ := getE (l := l) (i := j) (by rw [← HN.out]; exact hlt)
        obtain ⟨⟨b, o, rfl, k0, k1, k2, k3⟩, hin⟩ := (HL.out.to (HX1.out.trans HX.out)).at hxj
        have PC := IH.out j x hxj
        unfold E.v at PC
        have ES : Hid (depEs (l.take (j + 1)) = max (depEs (l.take j)) (depE x)) := Lib.hid (by rw [take_snoc hxj, depEs_snoc])
        have hb1 := HS.out j
        have hb2 := HS.out (j + 1)
        obtain ⟨D, hD⟩ : ∃ q, q = depEs (l.take j) := ⟨_, rfl⟩
        rw [← hD] at ES hb1 ⊢
        rw [ES.out] at hb2
        obtain ⟨d, hd⟩ : ∃ q, q = depE x := ⟨_, rfl⟩
        rw [← hd] at ES PC hb2
        obtain ⟨xo, hxo⟩ : ∃ q, q = x.op := ⟨_, rfl⟩
        obtain ⟨xv, hxv⟩ : ∃ q, q = x.val := ⟨_, rfl⟩
        obtain ⟨xn, hxn⟩ : ∃ q, q = x.name := ⟨_, rfl⟩
        obtain ⟨xa, hxa⟩ : ∃ q, q = x.a := ⟨_, rfl⟩
        obtain ⟨xl, hxl⟩ : ∃ q, q = x.args.length := ⟨_, rfl⟩
        obtain ⟨xc, hxc⟩ : ∃ q, q = x.cap := ⟨_, rfl⟩
        rw [← hxo] at k0 PC
        rw [← hxv] at k1 PC
        rw [← hxn] at k2 PC
        rw [← hxa, ← hxl, ← hxc] at k3 PC
        have HPC := Lib.hid PC
        have HIN := Lib.hid hin
        clear hxo hxv hxn hxa hxl hxc hin PC hxj hD hd
        go_wp2_with fail
        refine (HPC.out _ (HIN.out.to ((Ext.refl _).alloc _))).mono ?_; rintro e w2 ⟨rfl, x2⟩
        have X2 := Lib.hid (HX.out.trans x2.box)
        clear x2 k0 k1 k2 k3
        go_wp2_with fail
        go_roundw
        case rel => exact ⟨j + 1, by go_num, by rw [← HN.out]; omega, by rw [ES.out]; congr 1; omega, X2.out⟩
        case measure => simp [intOf]; omega
      · obtain rfl : j = n := by omega
        have ET : Hid (l.take j = l) := Lib.hid (by rw [HN.out, List.take_length])
        have hb1 := HS.out j
        rw [ET.out] at hb1 ⊢
        have X := HX1.out.trans HX.out
        obtain ⟨D, hD⟩ : ∃ q, q = depEs l := ⟨_, rfl⟩
        have HD := Lib.hid hD
        rw [← hD] at hb1 ⊢
        clear hD
        go_wp2_with fail
        go_ret
        exact ⟨by rw [← HD.out]; push_cast; rfl, X⟩
theorem Depth_c (e : E) (w : World) (h : E.sz e ≤ 1000000000) (he : InE w e) : Calls Tryd.prog 80 #[e.v] w fun r w' => r = .returned (.int .i64 ((depE e : Nat) : Int)) ∧ Ext w w' := Depth_n _ e (Nat.lt_succ_self _) h w he
end Go.Proofs.YtcheigpejbmaoaaDoor
