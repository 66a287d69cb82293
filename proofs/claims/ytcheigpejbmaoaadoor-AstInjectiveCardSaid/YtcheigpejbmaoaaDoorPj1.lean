/- Plain: an expression is read back from its text. -/
import Derived.Test.YtcheigpejbmaoaaDoorAx4
namespace Go.Proofs.YtcheigpejbmaoaaDoor
open Go.RowKit
/-- A byte of a name; a digit. -/
def nb (c : UInt8) : Bool := nmB (c.toNat : Int)
def dgt (c : UInt8) : Bool := digB (c.toNat : Int)
mutual
/-- An expression without the places of its parts. -/
def nrm : E → E
  | .mk op v n _ _ l => .mk op v n none 0 (nrms l)
def nrms : List E → List E
  | [] => []
  | e :: l => nrm e :: nrms l
end
theorem nrms_map : ∀ l, nrms l = l.map nrm
  | [] => rfl
  | e :: l => by show nrm e :: nrms l = _; rw [nrms_map l]; rfl
theorem nrm_eq (e : E) : nrm e = .mk e.op e.val e.name none 0 (e.args.map nrm) := by
  obtain ⟨o, v, n, a, c, l⟩ := e
  rw [← nrms_map]; rfl
mutual
theorem eqE_nrm : ∀ x y, nrm x = nrm y → eqE x y = true
  | .mk o v n a c l, .mk o' v' n' a' c' l', h => by
    have h' : E.mk o v n none 0 (nrms l) = E.mk o' v' n' none 0 (nrms l') := h
    simp only [E.mk.injEq, true_and] at h'
    obtain ⟨h1, h2, h3, h4⟩ := h'
    have := eqEs_nrm l l' h4
    show ((o == o') && decide (v = v') && strEq n n' && eqEs l l') = true
    rw [this]; simp [h1, h2, h3, strEq]
theorem eqEs_nrm : ∀ l m, nrms l = nrms m → eqEs l m = true
  | [], [], _ => rfl
  | [], _ :: _, h => by simp [nrms] at h
  | _ :: _, [], h => by simp [nrms] at h
  | x :: l, y :: m, h => by
    have h' : nrm x :: nrms l = nrm y :: nrms m := h
    simp only [List.cons.injEq] at h'
    show (eqE x y && eqEs l m) = true
    rw [eqE_nrm x y h'.1, eqEs_nrm l m h'.2]; rfl
end
/-- The number of some digits. -/
def numV (l : List UInt8) : Nat := l.foldl (fun a c => a * 10 + (c.toNat - 48)) 0
theorem dec_step (u : Nat) : Lib.decDigits u = (if u < 10 then [] else Lib.decDigits (u / 10)) ++ [UInt8.ofNat (48 + u % 10)] := by
  rw [Lib.decDigits]
  by_cases h : u < 10
  · rw [dif_pos h, if_pos h, Nat.mod_eq_of_lt h]; rfl
  · rw [dif_neg h, if_neg h]
theorem ofNat_dig (k : Nat) (h : k < 10) : (UInt8.ofNat (48 + k)).toNat = 48 + k := by
  simp; omega
theorem numV_dec (u : Nat) : numV (Lib.decDigits u) = u := by
  induction u using Nat.strongRecOn with
  | _ u ih =>
    rw [dec_step]
    unfold numV
    rw [List.foldl_append]
    by_cases h : u < 10
    · rw [if_pos h]
      show 0 * 10 + ((UInt8.ofNat (48 + u % 10)).toNat - 48) = u
      rw [ofNat_dig _ (Nat.mod_lt _ (by decide))]; omega
    · rw [if_neg h]
      have := ih (u / 10) (by omega)
      unfold numV at this
      rw [this]
      show u / 10 * 10 + ((UInt8.ofNat (48 + u % 10)).toNat - 48) = u
      rw [ofNat_dig _ (Nat.mod_lt _ (by decide))]; omega
theorem dec_inj {u v : Nat} (h : Lib.decDigits u = Lib.decDigits v) : u = v := by rw [← numV_dec u, h, numV_dec v]
theorem dec_dig (u : Nat) : ∀ c ∈ Lib.decDigits u, dgt c = true := by
  induction u using Nat.strongRecOn with
  | _ u ih =>
    intro c hc
    rw [dec_step, List.mem_append] at hc
    rcases hc with hc | hc
    · by_cases h : u < 10
      · rw [if_pos h] at hc; cases hc
      · rw [if_neg h] at hc; exact ih _ (by omega) c hc
    · rw [List.mem_singleton] at hc
      subst hc
      unfold dgt digB
      rw [ofNat_dig _ (Nat.mod_lt _ (by decide))]
      have := Nat.mod_lt u (show 10 > 0 by decide)
      rw [decide_eq_true (by omega), decide_eq_true (by omega)]; rfl
theorem dec_ne (u : Nat) : ∃ c t, Lib.decDigits u = c :: t ∧ dgt c = true := by
  cases h : Lib.decDigits u with
  | nil => rw [dec_step] at h; simp at h
  | cons c t => exact ⟨c, t, rfl, dec_dig u c (by rw [h]; exact List.mem_cons_self ..)⟩
theorem dgt_nb {c : UInt8} (h : dgt c = true) : nb c = true := by
  unfold nb nmB; unfold dgt at h; rw [h]; simp
theorem takeW {p : UInt8 → Bool} : ∀ (l s : List UInt8), (∀ c ∈ l, p c = true) → (∀ c t, s = c :: t → p c = false) → (l ++ s).takeWhile p = l ∧ (l ++ s).dropWhile p = s
  | [], [], _, _ => ⟨rfl, rfl⟩
  | [], c :: t, _, h => by
    have := h c t rfl
    simp [this]
  | c :: l, s, h, h2 => by
    have h1 := h c (List.mem_cons_self ..)
    have := takeW l s (fun d hd => h d (List.mem_cons_of_mem _ hd)) h2
    simp [h1, this]
/-- A binary operator with its spaces, at the front of a text. -/
def opTok (s : List UInt8) : Option (Int × List UInt8) :=
  if [32, 42, 32].isPrefixOf s then some (11, s.drop 3)
  else if [32, 43, 32].isPrefixOf s then some (12, s.drop 3)
  else if [32, 45, 32].isPrefixOf s then some (13, s.drop 3)
  else if [32, 61, 61, 32].isPrefixOf s then some (14, s.drop 4)
  else if [32, 33, 61, 32].isPrefixOf s then some (15, s.drop 4)
  else if [32, 60, 32].isPrefixOf s then some (16, s.drop 3)
  else if [32, 60, 61, 32].isPrefixOf s then some (17, s.drop 4)
  else if [32, 97, 110, 100, 32].isPrefixOf s then some (18, s.drop 5)
  else if [32, 111, 114, 32].isPrefixOf s then some (19, s.drop 4)
  else none
theorem opTok_bin (op : Int) (h1 : 11 ≤ op) (h2 : op ≤ 19) (s : List UInt8) : opTok ((binS op).data.toList ++ s) = some (op, s) := by
  have : op = 11 ∨ op = 12 ∨ op = 13 ∨ op = 14 ∨ op = 15 ∨ op = 16 ∨ op = 17 ∨ op = 18 ∨ op = 19 := by omega
  rcases this with rfl | rfl | rfl | rfl | rfl | rfl | rfl | rfl | rfl <;> simp [binS, opTok, List.isPrefixOf]
theorem opTok_no {s : List UInt8} (h : ∀ t, s ≠ 32 :: t) : opTok s = none := by
  cases s with
  | nil => rfl
  | cons c t =>
    have hc : ¬ (32 : UInt8) = c := fun e => h t (by rw [e])
    simp [opTok, List.isPrefixOf, hc]
theorem opTok_q (s : List UInt8) : opTok (32 :: 63 :: s) = none := by simp [opTok, List.isPrefixOf]
theorem opTok_c (s : List UInt8) : opTok (32 :: 58 :: s) = none := by simp [opTok, List.isPrefixOf]
/-- An operator's expression. -/
def mkE (op : Int) (v : Nat) (n : ByteArray) (l : List E) : E := .mk op v n none 0 l
def nil0 : ByteArray := ⟨#[]⟩
mutual
/-- Reads an expression of a level (1 to 9). -/
def ps : Nat → Nat → List UInt8 → Option (E × List UInt8)
  | 0, _, _ => none
  | n + 1, r, s =>
    if r = 7 then
      match ps n 8 s with
      | some z => some z
      | none =>
        if s.head? = some 45 then (ps n 7 s.tail).bind fun z => some (mkE 9 0 nil0 [z.1], z.2)
        else if [110, 111, 116, 32].isPrefixOf s then (ps n 7 (s.drop 4)).bind fun z => some (mkE 10 0 nil0 [z.1], z.2)
        else none
    else if r < 9 then (ps n (r + 1) s).bind fun z => lp n r z.1 z.2
    else if s.head? = some 40 then (ps n 1 s.tail).bind fun z => if z.2.head? = some 41 then some (z.1, z.2.tail) else none
    else if s.head? = some 91 then (la n s.tail).bind fun z => if z.2.head? = some 93 then some (mkE 7 0 nil0 z.1, z.2.tail) else none
    else if (s.head?.map dgt) = some true then some (mkE 1 (numV (s.takeWhile dgt)) nil0 [], s.dropWhile dgt)
    else if (s.head?.map nb) = some true then
      if s.takeWhile nb = [116, 114, 117, 101] then some (mkE 3 0 nil0 [], s.dropWhile nb)
      else if s.takeWhile nb = [102, 97, 108, 115, 101] then some (mkE 4 0 nil0 [], s.dropWhile nb)
      else if s.takeWhile nb = [110, 111, 116] then none
      else if s.takeWhile nb = [104, 97, 115, 104] then
        (la n (((s.dropWhile nb).tail.dropWhile dgt).drop 2)).bind fun z => if z.2.head? = some 41 then some (mkE 6 (numV ((s.dropWhile nb).tail.takeWhile dgt)) nil0 z.1, z.2.tail) else none
      else if (s.dropWhile nb).head? = some 40 then
        if (s.dropWhile nb).tail.head? = some 41 then some (mkE 5 0 ⟨(s.takeWhile nb).toArray⟩ [], (s.dropWhile nb).tail.tail)
        else (la n (s.dropWhile nb).tail).bind fun z => if z.2.head? = some 41 then some (mkE 5 0 ⟨(s.takeWhile nb).toArray⟩ z.1, z.2.tail) else none
      else some (mkE 2 0 ⟨(s.takeWhile nb).toArray⟩ [], s.dropWhile nb)
    else none
/-- Goes on behind an expression, at a level. -/
def lp : Nat → Nat → E → List UInt8 → Option (E × List UInt8)
  | 0, _, _, _ => none
  | n + 1, r, e, s =>
    if r = 1 then
      if [32, 63, 32].isPrefixOf s then
        (ps n 1 (s.drop 3)).bind fun y => if [32, 58, 32].isPrefixOf y.2 then (ps n 1 (y.2.drop 3)).bind fun z => some (mkE 20 0 nil0 [e, y.1, z.1], z.2) else none
      else some (e, s)
    else if r ≤ 6 then
      match opTok s with
      | some (op, t) => if lvl op = (r : Int) then (ps n (r + 1) t).bind fun z => lp n r (mkE op 0 nil0 [e, z.1]) z.2 else some (e, s)
      | none => some (e, s)
    else if r = 8 then
      if s.head? = some 91 then (ps n 1 s.tail).bind fun z => if z.2.head? = some 93 then lp n 8 (mkE 8 0 nil0 [e, z.1]) z.2.tail else none
      else some (e, s)
    else some (e, s)
/-- Reads a list, of one or more. -/
def la : Nat → List UInt8 → Option (List E × List UInt8)
  | 0, _ => none
  | n + 1, s => (ps n 1 s).bind fun z => if [44, 32].isPrefixOf z.2 then (la n (z.2.drop 2)).bind fun y => some (z.1 :: y.1, y.2) else some ([z.1], z.2)
end
def PR (r : Nat) (s : List UInt8) (z : E × List UInt8) : Prop := ∃ N, ∀ n, N ≤ n → ps n r s = some z
def LR (r : Nat) (e : E) (s : List UInt8) (z : E × List UInt8) : Prop := ∃ N, ∀ n, N ≤ n → lp n r e s = some z
def AR (s : List UInt8) (z : List E × List UInt8) : Prop := ∃ N, ∀ n, N ≤ n → la n s = some z
theorem PR.det {r : Nat} {s : List UInt8} {y z : E × List UInt8} (h : PR r s y) (k : PR r s z) : y = z := by
  obtain ⟨N, h⟩ := h; obtain ⟨M, k⟩ := k
  have := (h (max N M) (by omega)).symm.trans (k (max N M) (by omega))
  injection this
theorem pos_succ {N n : Nat} (h : N + 1 ≤ n) : ∃ m, n = m + 1 ∧ N ≤ m := ⟨n - 1, by omega, by omega⟩
theorem LR.flat {r : Nat} (hr : r = 7 ∨ 9 ≤ r) (e : E) (s : List UInt8) : LR r e s (e, s) := ⟨1, fun n hn => by
  obtain ⟨m, rfl, _⟩ := pos_succ (N := 0) hn
  rw [lp, if_neg (by omega), if_neg (by omega), if_neg (by omega)]⟩
theorem LR.flat_eq {r : Nat} (hr : r = 7 ∨ 9 ≤ r) {e : E} {s : List UInt8} {z : E × List UInt8} (h : LR r e s z) : z = (e, s) := by
  obtain ⟨N, h⟩ := h
  obtain ⟨M, k⟩ := LR.flat hr e s
  have := (h (max N M) (by omega)).symm.trans (k (max N M) (by omega))
  injection this
theorem PR.lp {r : Nat} (h7 : r ≠ 7) (h9 : r < 9) {s : List UInt8} {y z : E × List UInt8} (h : PR (r + 1) s y) (k : LR r y.1 y.2 z) : PR r s z := by
  obtain ⟨N, h⟩ := h; obtain ⟨M, k⟩ := k
  refine ⟨max N M + 1, fun n hn => ?_⟩
  obtain ⟨m, rfl, hm⟩ := pos_succ hn
  rw [ps, if_neg h7, if_pos h9, h m (by omega)]
  exact k m (by omega)
theorem PR.up7 {s : List UInt8} {z : E × List UInt8} (h : PR 8 s z) : PR 7 s z := by
  obtain ⟨N, h⟩ := h
  refine ⟨N + 1, fun n hn => ?_⟩
  obtain ⟨m, rfl, hm⟩ := pos_succ hn
  rw [ps, if_pos rfl, h m hm]
/-- What may stand behind a text of a level. -/
structure fol (r : Nat) (s : List UInt8) : Prop where
  hd : ∀ c t, s = c :: t → nb c = false ∧ c ≠ 40
  op : ∀ op t, opTok s = some (op, t) → lvl op ≤ (r : Int)
  ix : r < 8 → s.head? ≠ some 91
  q : r < 2 → [32, 63, 32].isPrefixOf s = false
theorem fol.mono {r q : Nat} {s : List UInt8} (h : fol r s) (hq : r ≤ q) : fol q s := ⟨h.hd, fun op t ht => by have := h.op op t ht; omega, fun hq2 => h.ix (by omega), fun hq2 => h.q (by omega)⟩
theorem LR.stop {r : Nat} (h1 : 1 ≤ r) {s : List UInt8} (h : fol r s) (e : E) : LR (r + 1) e s (e, s) := ⟨1, fun n hn => by
  obtain ⟨m, rfl, _⟩ := pos_succ (N := 0) hn
  rw [lp, if_neg (by omega)]
  by_cases h6 : r + 1 ≤ 6
  · rw [if_pos h6]
    cases ho : opTok s with
    | none => rfl
    | some z =>
      obtain ⟨op, t⟩ := z
      have := h.op op t ho
      show (if lvl op = ((r + 1 : Nat) : Int) then _ else some (e, s)) = _
      rw [if_neg (by omega)]
  · rw [if_neg h6]
    by_cases h8 : r + 1 = 8
    · rw [if_pos h8, if_neg (h.ix (by omega))]
    · rw [if_neg h8]⟩
/-- A text at a level is read as an expression, whatever may stand behind it. -/
def Good (r : Nat) (t : List UInt8) (x : E) : Prop := ∀ s, fol r s → ∀ z, LR r x s z → PR r (t ++ s) z
theorem Good.down {r : Nat} (h1 : 1 ≤ r) (h8 : r ≤ 8) {t : List UInt8} {x : E} (h : Good (r + 1) t x) : Good r t x := fun s hs z hz => by
  have h2 := h s (hs.mono (Nat.le_succ _)) (x, s) (LR.stop h1 hs x)
  by_cases h7 : r = 7
  · subst h7
    rw [LR.flat_eq (.inl rfl) hz]
    exact h2.up7
  · exact h2.lp h7 (by omega) hz
theorem Good.downs {r : Nat} (h1 : 1 ≤ r) {t : List UInt8} {x : E} : ∀ (k : Nat), r + k ≤ 9 → Good (r + k) t x → Good r t x
  | 0, _, h => h
  | k + 1, hk, h => Good.downs h1 k (by omega) (Good.down (by omega) (by omega) (show Good (r + k + 1) t x from h))
theorem Good.le {r q : Nat} (h1 : 1 ≤ r) (hq : r ≤ q) (h9 : q ≤ 9) {t : List UInt8} {x : E} (h : Good q t x) : Good r t x :=
  Good.downs h1 (q - r) (by omega) (by rw [show r + (q - r) = q by omega]; exact h)
theorem LR.one {s : List UInt8} (h : fol 1 s) (e : E) : LR 1 e s (e, s) := ⟨1, fun n hn => by
  obtain ⟨m, rfl, _⟩ := pos_succ (N := 0) hn
  rw [Go.Proofs.YtcheigpejbmaoaaDoor.lp, if_pos rfl, h.q (by decide)]; rfl⟩
theorem LR.one_eq {s : List UInt8} (h : fol 1 s) {e : E} {z : E × List UInt8} (k : LR 1 e s z) : z = (e, s) := by
  obtain ⟨N, k⟩ := k
  obtain ⟨M, h⟩ := LR.one h e
  have := (k (max N M) (by omega)).symm.trans (h (max N M) (by omega))
  injection this
theorem Good.one {t s : List UInt8} {x : E} (h : Good 1 t x) (hs : fol 1 s) : PR 1 (t ++ s) (x, s) := h s hs _ (LR.one hs x)
theorem fol1 {c : UInt8} (h : nb c = false ∧ c ≠ 40 ∧ c ≠ 32 ∧ c ≠ 91) (t : List UInt8) : fol 1 (c :: t) :=
  ⟨fun d u e => by injection e with e1 e2; subst e1; exact ⟨h.1, h.2.1⟩, fun op u e => by (rw [opTok_no (fun u e => by injection e with e1 e2; exact h.2.2.1 e1)] at e; cases e), fun _ e => by (simp at e; exact h.2.2.2 e),
   fun _ => by
    have hc : ¬ (32 : UInt8) = c := fun e => h.2.2.1 e.symm
    simp [List.isPrefixOf, hc]⟩
theorem fol1_colon (t : List UInt8) : fol 1 (32 :: 58 :: t) :=
  ⟨fun d u e => by injection e with e1 e2; subst e1; (decide), fun op u e => by (rw [opTok_c] at e; cases e), fun _ e => by (simp at e), fun _ => by simp [List.isPrefixOf]⟩
end Go.Proofs.YtcheigpejbmaoaaDoor
