/- Pj1 Pj2 Pj3 Pj4, merged. -/
import Derived.Test.YtcheigpejbmaoaaDoorAx4
import Derived.Test.YtcheigpejbmaoaaDoorTx1
import Derived.Test.YtcheigpejbmaoaaDoorAxC
/- Plain: an expression is read back from its text. -/
namespace Go.Proofs.YtcheigpejbmaoaaDoor
open Go.RowKit
/-- A byte of a name; a digit. -/
def nb (c : UInt8) : Bool := nmB (c.toNat : Int)
def dgt (c : UInt8) : Bool := digB (c.toNat : Int)
mutual
/-- An expression without the places of its parts. -/
def nrm : E → E
  | .mk op v n _ _ l => .mk op v n none 0 (nrms l)
def nrms : List E → List E
  | [] => []
  | e :: l => nrm e :: nrms l
end
theorem nrms_map : ∀ l, nrms l = l.map nrm
  | [] => rfl
  | e :: l => by show nrm e :: nrms l = _; rw [nrms_map l]; rfl
theorem nrm_eq (e : E) : nrm e = .mk e.op e.val e.name none 0 (e.args.map nrm) := by
  obtain ⟨o, v, n, a, c, l⟩ := e
  rw [← nrms_map]; rfl
mutual
theorem eqE_nrm : ∀ x y, nrm x = nrm y → eqE x y = true
  | .mk o v n a c l, .mk o' v' n' a' c' l', h => by
    have h' : E.mk o v n none 0 (nrms l) = E.mk o' v' n' none 0 (nrms l') := h
    simp only [E.mk.injEq, true_and] at h'
    obtain ⟨h1, h2, h3, h4⟩ := h'
    have := eqEs_nrm l l' h4
    show ((o == o') && decide (v = v') && strEq n n' && eqEs l l') = true
    rw [this]; simp [h1, h2, h3, strEq]
theorem eqEs_nrm : ∀ l m, nrms l = nrms m → eqEs l m = true
  | [], [], _ => rfl
  | [], _ :: _, h => by simp [nrms] at h
  | _ :: _, [], h => by simp [nrms] at h
  | x :: l, y :: m, h => by
    have h' : nrm x :: nrms l = nrm y :: nrms m := h
    simp only [List.cons.injEq] at h'
    show (eqE x y && eqEs l m) = true
    rw [eqE_nrm x y h'.1, eqEs_nrm l m h'.2]; rfl
end
/-- The number of some digits. -/
def numV (l : List UInt8) : Nat := l.foldl (fun a c => a * 10 + (c.toNat - 48)) 0
theorem dec_step (u : Nat) : Lib.decDigits u = (if u < 10 then [] else Lib.decDigits (u / 10)) ++ [UInt8.ofNat (48 + u % 10)] := by
  rw [Lib.decDigits]
  by_cases h : u < 10
  · rw [dif_pos h, if_pos h, Nat.mod_eq_of_lt h]; rfl
  · rw [dif_neg h, if_neg h]
theorem ofNat_dig (k : Nat) (h : k < 10) : (UInt8.ofNat (48 + k)).toNat = 48 + k := by
  simp; omega
theorem numV_dec (u : Nat) : numV (Lib.decDigits u) = u := by
  induction u using Nat.strongRecOn with
  | _ u ih =>
    rw [dec_step]
    unfold numV
    rw [List.foldl_append]
    by_cases h : u < 10
    · rw [if_pos h]
      show 0 * 10 + ((UInt8.ofNat (48 + u % 10)).toNat - 48) = u
      rw [ofNat_dig _ (Nat.mod_lt _ (by decide))]; omega
    · rw [if_neg h]
      have := ih (u / 10) (by omega)
      unfold numV at this
      rw [this]
      show u / 10 * 10 + ((UInt8.ofNat (48 + u % 10)).toNat - 48) = u
      rw [ofNat_dig _ (Nat.mod_lt _ (by decide))]; omega
theorem dec_inj {u v : Nat} (h : Lib.decDigits u = Lib.decDigits v) : u = v := by rw [← numV_dec u, h, numV_dec v]
theorem dec_dig (u : Nat) : ∀ c ∈ Lib.decDigits u, dgt c = true := by
  induction u using Nat.strongRecOn with
  | _ u ih =>
    intro c hc
    rw [dec_step, List.mem_append] at hc
    rcases hc with hc | hc
    · by_cases h : u < 10
      · rw [if_pos h] at hc; cases hc
      · rw [if_neg h] at hc; exact ih _ (by omega) c hc
    · rw [List.mem_singleton] at hc
      subst hc
      unfold dgt digB
      rw [ofNat_dig _ (Nat.mod_lt _ (by decide))]
      have := Nat.mod_lt u (show 10 > 0 by decide)
      rw [decide_eq_true (by omega), decide_eq_true (by omega)]; rfl
theorem dec_ne (u : Nat) : ∃ c t, Lib.decDigits u = c :: t ∧ dgt c = true := by
  cases h : Lib.decDigits u with
  | nil => rw [dec_step] at h; simp at h
  | cons c t => exact ⟨c, t, rfl, dec_dig u c (by rw [h]; exact List.mem_cons_self ..)⟩
theorem dgt_nb {c : UInt8} (h : dgt c = true) : nb c = true := by
  unfold nb nmB; unfold dgt at h; rw [h]; simp
theorem takeW {p : UInt8 → Bool} : ∀ (l s : List UInt8), (∀ c ∈ l, p c = true) → (∀ c t, s = c :: t → p c = false) → (l ++ s).takeWhile p = l ∧ (l ++ s).dropWhile p = s
  | [], [], _, _ => ⟨rfl, rfl⟩
  | [], c :: t, _, h => by
    have := h c t rfl
    simp [this]
  | c :: l, s, h, h2 => by
    have h1 := h c (List.mem_cons_self ..)
    have := takeW l s (fun d hd => h d (List.mem_cons_of_mem _ hd)) h2
    simp [h1, this]
/-- A binary operator with its spaces, at the front of a text. -/
def opTok (s : List UInt8) : Option (Int × List UInt8) :=
  if [32, 42, 32].isPrefixOf s then some (11, s.drop 3)
  else if [32, 43, 32].isPrefixOf s then some (12, s.drop 3)
  else if [32, 45, 32].isPrefixOf s then some (13, s.drop 3)
  else if [32, 61, 61, 32].isPrefixOf s then some (14, s.drop 4)
  else if [32, 33, 61, 32].isPrefixOf s then some (15, s.drop 4)
  else if [32, 60, 32].isPrefixOf s then some (16, s.drop 3)
  else if [32, 60, 61, 32].isPrefixOf s then some (17, s.drop 4)
  else if [32, 97, 110, 100, 32].isPrefixOf s then some (18, s.drop 5)
  else if [32, 111, 114, 32].isPrefixOf s then some (19, s.drop 4)
  else none
theorem opTok_bin (op : Int) (h1 : 11 ≤ op) (h2 : op ≤ 19) (s : List UInt8) : opTok ((binS op).data.toList ++ s) = some (op, s) := by
  have : op = 11 ∨ op = 12 ∨ op = 13 ∨ op = 14 ∨ op = 15 ∨ op = 16 ∨ op = 17 ∨ op = 18 ∨ op = 19 := by omega
  rcases this with rfl | rfl | rfl | rfl | rfl | rfl | rfl | rfl | rfl <;> simp [binS, opTok, List.isPrefixOf]
theorem opTok_no {s : List UInt8} (h : ∀ t, s ≠ 32 :: t) : opTok s = none := by
  cases s with
  | nil => rfl
  | cons c t =>
    have hc : ¬ (32 : UInt8) = c := fun e => h t (by rw [e])
    simp [opTok, List.isPrefixOf, hc]
theorem opTok_q (s : List UInt8) : opTok (32 :: 63 :: s) = none := by simp [opTok, List.isPrefixOf]
theorem opTok_c (s : List UInt8) : opTok (32 :: 58 :: s) = none := by simp [opTok, List.isPrefixOf]
/-- An operator's expression. -/
def mkE (op : Int) (v : Nat) (n : ByteArray) (l : List E) : E := .mk op v n none 0 l
def nil0 : ByteArray := ⟨#[]⟩
mutual
/-- Reads an expression of a level (1 to 9). -/
def ps : Nat → Nat → List UInt8 → Option (E × List UInt8)
  | 0, _, _ => none
  | n + 1, r, s =>
    if r = 7 then
      match ps n 8 s with
      | some z => some z
      | none =>
        if s.head? = some 45 then (ps n 7 s.tail).bind fun z => some (mkE 9 0 nil0 [z.1], z.2)
        else if [110, 111, 116, 32].isPrefixOf s then (ps n 7 (s.drop 4)).bind fun z => some (mkE 10 0 nil0 [z.1], z.2)
        else none
    else if r < 9 then (ps n (r + 1) s).bind fun z => lp n r z.1 z.2
    else if s.head? = some 40 then (ps n 1 s.tail).bind fun z => if z.2.head? = some 41 then some (z.1, z.2.tail) else none
    else if s.head? = some 91 then (la n s.tail).bind fun z => if z.2.head? = some 93 then some (mkE 7 0 nil0 z.1, z.2.tail) else none
    else if (s.head?.map dgt) = some true then some (mkE 1 (numV (s.takeWhile dgt)) nil0 [], s.dropWhile dgt)
    else if (s.head?.map nb) = some true then
      if s.takeWhile nb = [116, 114, 117, 101] then some (mkE 3 0 nil0 [], s.dropWhile nb)
      else if s.takeWhile nb = [102, 97, 108, 115, 101] then some (mkE 4 0 nil0 [], s.dropWhile nb)
      else if s.takeWhile nb = [110, 111, 116] then none
      else if s.takeWhile nb = [104, 97, 115, 104] then
        (la n (((s.dropWhile nb).tail.dropWhile dgt).drop 2)).bind fun z => if z.2.head? = some 41 then some (mkE 6 (numV ((s.dropWhile nb).tail.takeWhile dgt)) nil0 z.1, z.2.tail) else none
      else if (s.dropWhile nb).head? = some 40 then
        if (s.dropWhile nb).tail.head? = some 41 then some (mkE 5 0 ⟨(s.takeWhile nb).toArray⟩ [], (s.dropWhile nb).tail.tail)
        else (la n (s.dropWhile nb).tail).bind fun z => if z.2.head? = some 41 then some (mkE 5 0 ⟨(s.takeWhile nb).toArray⟩ z.1, z.2.tail) else none
      else some (mkE 2 0 ⟨(s.takeWhile nb).toArray⟩ [], s.dropWhile nb)
    else none
/-- Goes on behind an expression, at a level. -/
def lp : Nat → Nat → E → List UInt8 → Option (E × List UInt8)
  | 0, _, _, _ => none
  | n + 1, r, e, s =>
    if r = 1 then
      if [32, 63, 32].isPrefixOf s then
        (ps n 1 (s.drop 3)).bind fun y => if [32, 58, 32].isPrefixOf y.2 then (ps n 1 (y.2.drop 3)).bind fun z => some (mkE 20 0 nil0 [e, y.1, z.1], z.2) else none
      else some (e, s)
    else if r ≤ 6 then
      match opTok s with
      | some (op, t) => if lvl op = (r : Int) then (ps n (r + 1) t).bind fun z => lp n r (mkE op 0 nil0 [e, z.1]) z.2 else some (e, s)
      | none => some (e, s)
    else if r = 8 then
      if s.head? = some 91 then (ps n 1 s.tail).bind fun z => if z.2.head? = some 93 then lp n 8 (mkE 8 0 nil0 [e, z.1]) z.2.tail else none
      else some (e, s)
    else some (e, s)
/-- Reads a list, of one or more. -/
def la : Nat → List UInt8 → Option (List E × List UInt8)
  | 0, _ => none
  | n + 1, s => (ps n 1 s).bind fun z => if [44, 32].isPrefixOf z.2 then (la n (z.2.drop 2)).bind fun y => some (z.1 :: y.1, y.2) else some ([z.1], z.2)
end
def PR (r : Nat) (s : List UInt8) (z : E × List UInt8) : Prop := ∃ N, ∀ n, N ≤ n → ps n r s = some z
def LR (r : Nat) (e : E) (s : List UInt8) (z : E × List UInt8) : Prop := ∃ N, ∀ n, N ≤ n → lp n r e s = some z
def AR (s : List UInt8) (z : List E × List UInt8) : Prop := ∃ N, ∀ n, N ≤ n → la n s = some z
theorem PR.det {r : Nat} {s : List UInt8} {y z : E × List UInt8} (h : PR r s y) (k : PR r s z) : y = z := by
  obtain ⟨N, h⟩ := h; obtain ⟨M, k⟩ := k
  have := (h (max N M) (by omega)).symm.trans (k (max N M) (by omega))
  injection this
theorem pos_succ {N n : Nat} (h : N + 1 ≤ n) : ∃ m, n = m + 1 ∧ N ≤ m := ⟨n - 1, by omega, by omega⟩
theorem LR.flat {r : Nat} (hr : r = 7 ∨ 9 ≤ r) (e : E) (s : List UInt8) : LR r e s (e, s) := ⟨1, fun n hn => by
  obtain ⟨m, rfl, _⟩ := pos_succ (N := 0) hn
  rw [lp, if_neg (by omega), if_neg (by omega), if_neg (by omega)]⟩
theorem LR.flat_eq {r : Nat} (hr : r = 7 ∨ 9 ≤ r) {e : E} {s : List UInt8} {z : E × List UInt8} (h : LR r e s z) : z = (e, s) := by
  obtain ⟨N, h⟩ := h
  obtain ⟨M, k⟩ := LR.flat hr e s
  have := (h (max N M) (by omega)).symm.trans (k (max N M) (by omega))
  injection this
theorem PR.lp {r : Nat} (h7 : r ≠ 7) (h9 : r < 9) {s : List UInt8} {y z : E × List UInt8} (h : PR (r + 1) s y) (k : LR r y.1 y.2 z) : PR r s z := by
  obtain ⟨N, h⟩ := h; obtain ⟨M, k⟩ := k
  refine ⟨max N M + 1, fun n hn => ?_⟩
  obtain ⟨m, rfl, hm⟩ := pos_succ hn
  rw [ps, if_neg h7, if_pos h9, h m (by omega)]
  exact k m (by omega)
theorem PR.up7 {s : List UInt8} {z : E × List UInt8} (h : PR 8 s z) : PR 7 s z := by
  obtain ⟨N, h⟩ := h
  refine ⟨N + 1, fun n hn => ?_⟩
  obtain ⟨m, rfl, hm⟩ := pos_succ hn
  rw [ps, if_pos rfl, h m hm]
/-- What may stand behind a text of a level. -/
structure fol (r : Nat) (s : List UInt8) : Prop where
  hd : ∀ c t, s = c :: t → nb c = false ∧ c ≠ 40
  op : ∀ op t, opTok s = some (op, t) → lvl op ≤ (r : Int)
  ix : r < 8 → s.head? ≠ some 91
  q : r < 2 → [32, 63, 32].isPrefixOf s = false
theorem fol.mono {r q : Nat} {s : List UInt8} (h : fol r s) (hq : r ≤ q) : fol q s := ⟨h.hd, fun op t ht => by have := h.op op t ht; omega, fun hq2 => h.ix (by omega), fun hq2 => h.q (by omega)⟩
theorem LR.stop {r : Nat} (h1 : 1 ≤ r) {s : List UInt8} (h : fol r s) (e : E) : LR (r + 1) e s (e, s) := ⟨1, fun n hn => by
  obtain ⟨m, rfl, _⟩ := pos_succ (N := 0) hn
  rw [lp, if_neg (by omega)]
  by_cases h6 : r + 1 ≤ 6
  · rw [if_pos h6]
    cases ho : opTok s with
    | none => rfl
    | some z =>
      obtain ⟨op, t⟩ := z
      have := h.op op t ho
      show (if lvl op = ((r + 1 : Nat) : Int) then _ else some (e, s)) = _
      rw [if_neg (by omega)]
  · rw [if_neg h6]
    by_cases h8 : r + 1 = 8
    · rw [if_pos h8, if_neg (h.ix (by omega))]
    · rw [if_neg h8]⟩
/-- A text at a level is read as an expression, whatever may stand behind it. -/
def Good (r : Nat) (t : List UInt8) (x : E) : Prop := ∀ s, fol r s → ∀ z, LR r x s z → PR r (t ++ s) z
theorem Good.down {r : Nat} (h1 : 1 ≤ r) (h8 : r ≤ 8) {t : List UInt8} {x : E} (h : Good (r + 1) t x) : Good r t x := fun s hs z hz => by
  have h2 := h s (hs.mono (Nat.le_succ _)) (x, s) (LR.stop h1 hs x)
  by_cases h7 : r = 7
  · subst h7
    rw [LR.flat_eq (.inl rfl) hz]
    exact h2.up7
  · exact h2.lp h7 (by omega) hz
theorem Good.downs {r : Nat} (h1 : 1 ≤ r) {t : List UInt8} {x : E} : ∀ (k : Nat), r + k ≤ 9 → Good (r + k) t x → Good r t x
  | 0, _, h => h
  | k + 1, hk, h => Good.downs h1 k (by omega) (Good.down (by omega) (by omega) (show Good (r + k + 1) t x from h))
theorem Good.le {r q : Nat} (h1 : 1 ≤ r) (hq : r ≤ q) (h9 : q ≤ 9) {t : List UInt8} {x : E} (h : Good q t x) : Good r t x :=
  Good.downs h1 (q - r) (by omega) (by rw [show r + (q - r) = q by omega]; exact h)
theorem LR.one {s : List UInt8} (h : fol 1 s) (e : E) : LR 1 e s (e, s) := ⟨1, fun n hn => by
  obtain ⟨m, rfl, _⟩ := pos_succ (N := 0) hn
  rw [Go.Proofs.YtcheigpejbmaoaaDoor.lp, if_pos rfl, h.q (by decide)]; rfl⟩
theorem LR.one_eq {s : List UInt8} (h : fol 1 s) {e : E} {z : E × List UInt8} (k : LR 1 e s z) : z = (e, s) := by
  obtain ⟨N, k⟩ := k
  obtain ⟨M, h⟩ := LR.one h e
  have := (k (max N M) (by omega)).symm.trans (h (max N M) (by omega))
  injection this
theorem Good.one {t s : List UInt8} {x : E} (h : Good 1 t x) (hs : fol 1 s) : PR 1 (t ++ s) (x, s) := h s hs _ (LR.one hs x)
theorem fol1 {c : UInt8} (h : nb c = false ∧ c ≠ 40 ∧ c ≠ 32 ∧ c ≠ 91) (t : List UInt8) : fol 1 (c :: t) :=
  ⟨fun d u e => by injection e with e1 e2; subst e1; exact ⟨h.1, h.2.1⟩, fun op u e => by (rw [opTok_no (fun u e => by injection e with e1 e2; exact h.2.2.1 e1)] at e; cases e), fun _ e => by (simp at e; exact h.2.2.2 e),
   fun _ => by
    have hc : ¬ (32 : UInt8) = c := fun e => h.2.2.1 e.symm
    simp [List.isPrefixOf, hc]⟩
theorem fol1_colon (t : List UInt8) : fol 1 (32 :: 58 :: t) :=
  ⟨fun d u e => by injection e with e1 e2; subst e1; (decide), fun op u e => by (rw [opTok_c] at e; cases e), fun _ e => by (simp at e), fun _ => by simp [List.isPrefixOf]⟩
end Go.Proofs.YtcheigpejbmaoaaDoor

/- Plain: every well-formed expression is read back from its text. -/
namespace Go.Proofs.YtcheigpejbmaoaaDoor
open Go.RowKit
theorem Good.prim {t : List UInt8} {x : E} (h : ∀ s, fol 9 s → PR 9 (t ++ s) (x, s)) : Good 9 t x := fun s hs z hz => by rw [LR.flat_eq (.inr (Nat.le_refl 9)) hz]; exact h s hs
theorem Good.unary {t : List UInt8} {x : E} (h : ∀ s, fol 7 s → PR 7 (t ++ s) (x, s)) : Good 7 t x := fun s hs z hz => by rw [LR.flat_eq (.inl rfl) hz]; exact h s hs
theorem Good.par {op : Int} {t : List UInt8} {x : E} {q : Nat} (hq : (q : Int) = lvl op) (h : Good q t x) {r : Nat} (h1 : 1 ≤ r) (h9 : r ≤ 9) : Good r (par op (r : Int) t) x := by
  have hl := lvl_pos op
  unfold Go.Proofs.YtcheigpejbmaoaaDoor.par
  by_cases hr : lvl op < (r : Int)
  · rw [if_pos hr]
    refine Good.le h1 h9 (Nat.le_refl 9) (Good.prim fun s hs => ?_)
    have g1 : Good 1 t x := h.le (by decide) (by omega) (by omega)
    obtain ⟨N, hN⟩ := g1.one (fol1 (c := 41) (by decide) s)
    refine ⟨N + 1, fun n hn => ?_⟩
    obtain ⟨m, rfl, hm⟩ := pos_succ hn
    have e : ((⟨#[40]⟩ : ByteArray).data.toList ++ (t ++ (⟨#[41]⟩ : ByteArray).data.toList)) ++ s = 40 :: (t ++ 41 :: s) := by simp
    rw [e, ps, if_neg (by decide), if_neg (by decide), if_pos (by rfl)]
    show (ps m 1 (t ++ 41 :: s)).bind _ = _
    rw [hN m hm]; rfl
  · rw [if_neg hr]
    exact h.le h1 (by omega) (by omega)
theorem la_ok (s : List UInt8) (hs : fol 1 s) (hc : [44, 32].isPrefixOf s = false) : ∀ (x : E) (l : List E), (∀ y ∈ x :: l, Good 1 (txB y) (nrm y)) → AR (txB x ++ (comF false (l.map txB) ++ s)) (nrm x :: l.map nrm, s)
  | x, [], h => by
    obtain ⟨N, hN⟩ := (h x (List.mem_cons_self ..)).one hs
    refine ⟨N + 1, fun n hn => ?_⟩
    obtain ⟨m, rfl, hm⟩ := pos_succ hn
    show la (m + 1) (txB x ++ s) = _
    rw [la, hN m hm]
    show (if [44, 32].isPrefixOf s = true then _ else some ([nrm x], s)) = _
    rw [if_neg (by rw [hc]; decide)]; rfl
  | x, y :: l, h => by
    obtain ⟨M, hM⟩ := la_ok s hs hc y l (fun u hu => h u (List.mem_cons_of_mem _ hu))
    have e : comF false ((y :: l).map txB) ++ s = 44 :: 32 :: (txB y ++ (comF false (l.map txB) ++ s)) := by simp [comF]
    obtain ⟨N, hN⟩ := (h x (List.mem_cons_self ..)).one (fol1 (c := 44) (by decide) (32 :: (txB y ++ (comF false (l.map txB) ++ s))))
    refine ⟨max N M + 1, fun n hn => ?_⟩
    obtain ⟨m, rfl, hm⟩ := pos_succ hn
    rw [e, la, hN m (by omega)]
    simp only [Option.bind_some]
    rw [if_pos (by rfl)]
    show (la m (txB y ++ (comF false (l.map txB) ++ s))).bind _ = _
    rw [hM m (by omega)]; rfl
theorem ps_word (m : Nat) (w s : List UInt8) (hw : ∃ c t, w = c :: t ∧ dgt c = false ∧ c ≠ 40 ∧ c ≠ 91) (hall : ∀ c ∈ w, nb c = true) (hs : ∀ c t, s = c :: t → nb c = false) :
    ps (m + 1) 9 (w ++ s) = (if w = [116, 114, 117, 101] then some (mkE 3 0 nil0 [], s)
      else if w = [102, 97, 108, 115, 101] then some (mkE 4 0 nil0 [], s)
      else if w = [110, 111, 116] then none
      else if w = [104, 97, 115, 104] then
        (la m ((s.tail.dropWhile dgt).drop 2)).bind fun z => if z.2.head? = some 41 then some (mkE 6 (numV (s.tail.takeWhile dgt)) nil0 z.1, z.2.tail) else none
      else if s.head? = some 40 then
        if s.tail.head? = some 41 then some (mkE 5 0 ⟨w.toArray⟩ [], s.tail.tail)
        else (la m s.tail).bind fun z => if z.2.head? = some 41 then some (mkE 5 0 ⟨w.toArray⟩ z.1, z.2.tail) else none
      else some (mkE 2 0 ⟨w.toArray⟩ [], s)) := by
  obtain ⟨t1, t2⟩ := takeW w s hall hs
  obtain ⟨c, t, e, h1, h2, h3⟩ := hw
  have hc : nb c = true := hall c (by rw [e]; exact List.mem_cons_self ..)
  have hh : (w ++ s).head? = some c := by rw [e]; rfl
  rw [ps, if_neg (by decide), if_neg (by decide), hh, if_neg (by simpa using h2), if_neg (by simpa using h3), if_neg (by simp [h1]), if_pos (by simp [hc]), t1, t2]
theorem Good.num (v : Nat) : Good 9 (Lib.decDigits v) (mkE 1 v nil0 []) := Good.prim fun s hs => ⟨1, fun n hn => by
  obtain ⟨m, rfl, _⟩ := pos_succ (N := 0) hn
  obtain ⟨c, t, e, hd⟩ := dec_ne v
  obtain ⟨t1, t2⟩ := takeW (p := dgt) (Lib.decDigits v) s (dec_dig v) (fun d u hu => by
    have := (hs.hd d u hu).1
    cases hq : dgt d
    · rfl
    · rw [dgt_nb hq] at this; cases this)
  have hh : (Lib.decDigits v ++ s).head? = some c := by rw [e]; rfl
  have n1 : c ≠ 40 := fun q => by rw [q] at hd; revert hd; decide
  have n2 : c ≠ 91 := fun q => by rw [q] at hd; revert hd; decide
  rw [ps, if_neg (by decide), if_neg (by decide), hh, if_neg (by simpa using n1), if_neg (by simpa using n2), if_pos (by simp [hd]), t1, t2, numV_dec]⟩
/-- What a name is, of bytes. -/
structure NmW (w : List UInt8) : Prop where
  hd : ∃ c t, w = c :: t ∧ dgt c = false ∧ c ≠ 40 ∧ c ≠ 91
  all : ∀ c ∈ w, nb c = true
  kw : w ≠ [116, 114, 117, 101] ∧ w ≠ [102, 97, 108, 115, 101] ∧ w ≠ [110, 111, 116] ∧ w ≠ [104, 97, 115, 104]
theorem nameOk_all {n : ByteArray} (h : nameOk n = true) : ∀ c ∈ n.data.toList, nb c = true := by
  unfold nameOk at h
  simp only [Bool.and_eq_true] at h
  obtain ⟨⟨_, h4⟩, _⟩ := h
  intro c hc
  obtain ⟨i, hi, rfl⟩ := List.mem_iff_getElem.1 hc
  have := List.all_eq_true.1 h4 i (by rw [List.mem_range, Lib.size_eq]; exact hi)
  unfold byteAt at this
  rw [List.getD_eq_getElem?_getD, List.getElem?_eq_getElem hi] at this
  exact this
theorem nameOk_kw {n : ByteArray} (h : nameOk n = true) {k : ByteArray} (hk : k ∈ kwL) : n.data.toList ≠ k.data.toList := by
  intro e
  unfold nameOk at h
  simp only [Bool.and_eq_true] at h
  have h5 := h.2
  rw [Bool.not_eq_true', List.any_eq_false] at h5
  apply h5 k hk
  have : n = k := by rw [← Lib.mk_data n, ← Lib.mk_data k, e]
  rw [this]; simp [strEq]
theorem nameOk_hd {n : ByteArray} (h : nameOk n = true) : ∃ c t, n.data.toList = c :: t ∧ letB (c.toNat : Int) = true := by
  unfold nameOk at h
  simp only [Bool.and_eq_true, decide_eq_true_eq] at h
  obtain ⟨⟨⟨⟨h1, _⟩, h3⟩, _⟩, _⟩ := h
  rw [Lib.size_eq] at h1
  unfold byteAt at h3
  cases hn : n.data.toList with
  | nil => rw [hn] at h1; exact absurd h1 (by decide)
  | cons c t => rw [hn] at h3; exact ⟨c, t, rfl, h3⟩
theorem NmW.of {n : ByteArray} (h : nameOk n = true) : NmW n.data.toList := by
  refine ⟨?_, nameOk_all h, nameOk_kw h (k := ⟨#[116, 114, 117, 101]⟩) (by simp [kwL]), nameOk_kw h (k := ⟨#[102, 97, 108, 115, 101]⟩) (by simp [kwL]), nameOk_kw h (k := ⟨#[110, 111, 116]⟩) (by simp [kwL]), nameOk_kw h (k := ⟨#[104, 97, 115, 104]⟩) (by simp [kwL])⟩
  obtain ⟨c, t, e, hl⟩ := nameOk_hd h
  unfold letB at hl
  simp only [Bool.and_eq_true, decide_eq_true_eq] at hl
  refine ⟨c, t, e, ?_, ?_, ?_⟩
  · unfold dgt digB
    rw [Bool.and_eq_false_iff]
    exact .inr (decide_eq_false (by omega))
  · rintro rfl; revert hl; decide
  · rintro rfl; revert hl; decide
theorem Good.name {n : ByteArray} (h : nameOk n = true) : Good 9 n.data.toList (mkE 2 0 n []) := Good.prim fun s hs => ⟨1, fun k hk => by
  obtain ⟨m, rfl, _⟩ := pos_succ (N := 0) hk
  have W := NmW.of h
  rw [ps_word m _ s W.hd W.all (fun c t e => (hs.hd c t e).1), if_neg W.kw.1, if_neg W.kw.2.1, if_neg W.kw.2.2.1, if_neg W.kw.2.2.2, if_neg (fun e => by
    cases s with
    | nil => cases e
    | cons c t => exact (hs.hd c t rfl).2 (by simpa using e)), Lib.mk_data]⟩
theorem Good.tt : Good 9 [116, 114, 117, 101] (mkE 3 0 nil0 []) := Good.prim fun s hs => ⟨1, fun k hk => by
  obtain ⟨m, rfl, _⟩ := pos_succ (N := 0) hk
  rw [ps_word m _ s ⟨116, _, rfl, by decide⟩ (by decide) (fun c t e => (hs.hd c t e).1), if_pos (by rfl)]⟩
theorem Good.ff : Good 9 [102, 97, 108, 115, 101] (mkE 4 0 nil0 []) := Good.prim fun s hs => ⟨1, fun k hk => by
  obtain ⟨m, rfl, _⟩ := pos_succ (N := 0) hk
  rw [ps_word m _ s ⟨102, _, rfl, by decide⟩ (by decide) (fun c t e => (hs.hd c t e).1), if_neg (by decide), if_pos (by rfl)]⟩
theorem com_cons (x : E) (l : List E) (s : List UInt8) : comF true ((x :: l).map txB) ++ s = txB x ++ (comF false (l.map txB) ++ s) := by simp [comF]
theorem Good.list (l : List E) (hl : l ≠ []) (h : ∀ x ∈ l, Good 1 (txB x) (nrm x)) : Good 9 (91 :: (comF true (l.map txB) ++ [93])) (mkE 7 0 nil0 (l.map nrm)) := Good.prim fun s _ => by
  cases l with
  | nil => exact absurd rfl hl
  | cons x l =>
    obtain ⟨N, hN⟩ := la_ok (93 :: s) (fol1 (by decide) s) rfl x l h
    refine ⟨N + 1, fun n hn => ?_⟩
    obtain ⟨m, rfl, hm⟩ := pos_succ hn
    have e : (91 :: (comF true ((x :: l).map txB) ++ [93])) ++ s = 91 :: (txB x ++ (comF false (l.map txB) ++ 93 :: s)) := by simp [comF]
    rw [e, ps, if_neg (by decide), if_neg (by decide), if_neg (by simp), if_pos (by rfl)]
    show (la m (txB x ++ (comF false (l.map txB) ++ 93 :: s))).bind _ = _
    rw [hN m hm]; rfl
theorem Good.call {n : ByteArray} (h : nameOk n = true) (l : List E) (hl : ∀ x ∈ l, Good 1 (txB x) (nrm x)) (hd : ∀ x l', l = x :: l' → ∀ t, txB x ≠ 41 :: t) (hd2 : ∀ x l', l = x :: l' → txB x ≠ []) :
    Good 9 (n.data.toList ++ (40 :: (comF true (l.map txB) ++ [41]))) (mkE 5 0 n (l.map nrm)) := Good.prim fun s _ => by
  have W := NmW.of h
  cases l with
  | nil =>
    refine ⟨1, fun k hk => ?_⟩
    obtain ⟨m, rfl, _⟩ := pos_succ (N := 0) hk
    have e : (n.data.toList ++ (40 :: (comF true (([] : List E).map txB) ++ [41]))) ++ s = n.data.toList ++ (40 :: 41 :: s) := by simp [comF]
    rw [e, ps_word m _ _ W.hd W.all (fun c t e => by injection e with e1 e2; subst e1; decide), if_neg W.kw.1, if_neg W.kw.2.1, if_neg W.kw.2.2.1, if_neg W.kw.2.2.2, if_pos (by rfl), if_pos (by rfl), Lib.mk_data]; rfl
  | cons x l =>
    obtain ⟨N, hN⟩ := la_ok (41 :: s) (fol1 (by decide) s) rfl x l hl
    refine ⟨N + 1, fun k hk => ?_⟩
    obtain ⟨m, rfl, hm⟩ := pos_succ hk
    have e : (n.data.toList ++ (40 :: (comF true ((x :: l).map txB) ++ [41]))) ++ s = n.data.toList ++ (40 :: (txB x ++ (comF false (l.map txB) ++ 41 :: s))) := by simp [comF]
    rw [e, ps_word m _ _ W.hd W.all (fun c t e => by injection e with e1 e2; subst e1; decide), if_neg W.kw.1, if_neg W.kw.2.1, if_neg W.kw.2.2.1, if_neg W.kw.2.2.2, if_pos (by rfl), if_neg (fun q => by
      cases hx : txB x with
      | nil => exact hd2 x l rfl hx
      | cons c t =>
        rw [hx] at q
        have : c = 41 := by simpa using q
        rw [this] at hx
        exact hd x l rfl t hx), Lib.mk_data]
    show (la m (txB x ++ (comF false (l.map txB) ++ 41 :: s))).bind _ = _
    rw [hN m hm]; rfl
theorem Good.hash (v : Nat) (l : List E) (hl : l ≠ []) (h : ∀ x ∈ l, Good 1 (txB x) (nrm x)) :
    Good 9 ([104, 97, 115, 104, 40] ++ (Lib.decDigits v ++ (59 :: 32 :: (comF true (l.map txB) ++ [41])))) (mkE 6 v nil0 (l.map nrm)) := Good.prim fun s _ => by
  cases l with
  | nil => exact absurd rfl hl
  | cons x l =>
    obtain ⟨N, hN⟩ := la_ok (41 :: s) (fol1 (by decide) s) rfl x l h
    refine ⟨N + 1, fun n hn => ?_⟩
    obtain ⟨m, rfl, hm⟩ := pos_succ hn
    have e : ([104, 97, 115, 104, 40] ++ (Lib.decDigits v ++ (59 :: 32 :: (comF true ((x :: l).map txB) ++ [41])))) ++ s = [104, 97, 115, 104] ++ (40 :: (Lib.decDigits v ++ (59 :: 32 :: (txB x ++ (comF false (l.map txB) ++ 41 :: s))))) := by simp [comF]
    obtain ⟨t1, t2⟩ := takeW (p := dgt) (Lib.decDigits v) (59 :: 32 :: (txB x ++ (comF false (l.map txB) ++ 41 :: s))) (dec_dig v) (fun d u hu => by injection hu with e1 e2; subst e1; decide)
    rw [e, ps_word m _ _ ⟨104, _, rfl, by decide⟩ (by decide) (fun c t e => by injection e with e1 e2; subst e1; decide), if_neg (by decide), if_neg (by decide), if_neg (by decide), if_pos (by rfl), List.tail_cons, t1, t2]
    show (la m (txB x ++ (comF false (l.map txB) ++ 41 :: s))).bind _ = _
    rw [hN m hm, numV_dec]; rfl
theorem ps9_neg (t : List UInt8) : ∀ m, ps m 9 (45 :: t) = none
  | 0 => by rw [ps]
  | m + 1 => by rw [ps, if_neg (by decide), if_neg (by decide), if_neg (by simp), if_neg (by simp), if_neg (by simp; decide), if_neg (by simp; decide)]
theorem ps8_neg (t : List UInt8) : ∀ m, ps m 8 (45 :: t) = none
  | 0 => by rw [ps]
  | m + 1 => by rw [ps, if_neg (by decide), if_pos (by decide), ps9_neg]; rfl
theorem ps9_not (t : List UInt8) : ∀ m, ps m 9 (110 :: 111 :: 116 :: 32 :: t) = none
  | 0 => by rw [ps]
  | m + 1 => by
    show ps (m + 1) 9 ([110, 111, 116] ++ (32 :: t)) = none
    rw [ps_word m _ _ ⟨110, _, rfl, by decide⟩ (by decide) (fun c t e => by injection e with e1 e2; subst e1; decide), if_neg (by decide), if_neg (by decide), if_pos (by rfl)]
theorem ps8_not (t : List UInt8) : ∀ m, ps m 8 (110 :: 111 :: 116 :: 32 :: t) = none
  | 0 => by rw [ps]
  | m + 1 => by rw [ps, if_neg (by decide), if_pos (by decide), ps9_not]; rfl
theorem Good.neg {t : List UInt8} {x : E} (h : Good 7 t x) : Good 7 (45 :: t) (mkE 9 0 nil0 [x]) := Good.unary fun s hs => by
  obtain ⟨N, hN⟩ := h s hs (x, s) (LR.flat (.inl rfl) x s)
  refine ⟨N + 1, fun n hn => ?_⟩
  obtain ⟨m, rfl, hm⟩ := pos_succ hn
  show ps (m + 1) 7 (45 :: (t ++ s)) = _
  rw [ps, if_pos (by rfl), ps8_neg]
  show (if (some (45 : UInt8)) = some 45 then (ps m 7 (t ++ s)).bind _ else _) = _
  rw [if_pos (by rfl), hN m hm]; rfl
theorem Good.not {t : List UInt8} {x : E} (h : Good 7 t x) : Good 7 (110 :: 111 :: 116 :: 32 :: t) (mkE 10 0 nil0 [x]) := Good.unary fun s hs => by
  obtain ⟨N, hN⟩ := h s hs (x, s) (LR.flat (.inl rfl) x s)
  refine ⟨N + 1, fun n hn => ?_⟩
  obtain ⟨m, rfl, hm⟩ := pos_succ hn
  show ps (m + 1) 7 (110 :: 111 :: 116 :: 32 :: (t ++ s)) = _
  rw [ps, if_pos (by rfl), ps8_not]
  show (if (some (110 : UInt8)) = some 45 then _ else if _ = true then (ps m 7 (t ++ s)).bind _ else _) = _
  rw [if_neg (by decide), if_pos (by rfl), hN m hm]; rfl
theorem fol_ix (t : List UInt8) : fol 8 (91 :: t) := ⟨fun d u e => by injection e with e1 e2; subst e1; (decide), fun op u e => by (rw [opTok_no (fun u e => by injection e with e1 e2; exact absurd e1 (by decide))] at e; cases e), fun q => absurd q (by decide), fun q => absurd q (by decide)⟩
theorem Good.index {t u : List UInt8} {x y : E} (h : Good 8 t x) (k : Good 1 u y) : Good 8 (t ++ (91 :: (u ++ [93]))) (mkE 8 0 nil0 [x, y]) := fun s _ z hz => by
  have e : (t ++ (91 :: (u ++ [93]))) ++ s = t ++ (91 :: (u ++ 93 :: s)) := by simp
  rw [e]
  refine h _ (fol_ix _) z ?_
  obtain ⟨N, hN⟩ := k.one (fol1 (c := 93) (by decide) s)
  obtain ⟨M, hM⟩ := hz
  refine ⟨max N M + 1, fun n hn => ?_⟩
  obtain ⟨m, rfl, hm⟩ := pos_succ hn
  rw [lp, if_neg (by decide), if_neg (by decide), if_pos (by rfl), if_pos (by rfl)]
  show (ps m 1 (u ++ 93 :: s)).bind _ = _
  rw [hN m (by omega)]
  exact hM m (by omega)
theorem fol_q (t : List UInt8) : fol 2 (32 :: 63 :: t) := ⟨fun d u e => by injection e with e1 e2; subst e1; (decide), fun op u e => by (rw [opTok_q] at e; cases e), fun _ e => by (simp at e), fun q => absurd q (by decide)⟩
theorem Good.cond {t u v : List UInt8} {x y z : E} (h : Good 2 t x) (k : Good 1 u y) (j : Good 1 v z) : Good 1 (t ++ (32 :: 63 :: 32 :: (u ++ (32 :: 58 :: 32 :: v)))) (mkE 20 0 nil0 [x, y, z]) := fun s hs r hr => by
  rw [LR.one_eq hs hr]
  have e : (t ++ (32 :: 63 :: 32 :: (u ++ (32 :: 58 :: 32 :: v)))) ++ s = t ++ (32 :: 63 :: 32 :: (u ++ (32 :: 58 :: 32 :: (v ++ s)))) := by simp
  rw [e]
  have h2 := h (32 :: 63 :: 32 :: (u ++ (32 :: 58 :: 32 :: (v ++ s)))) (fol_q _) (x, _) (by
    refine ⟨1, fun n hn => ?_⟩
    obtain ⟨m, rfl, _⟩ := pos_succ (N := 0) hn
    rw [lp, if_neg (by decide), if_pos (by decide), opTok_q])
  refine h2.lp (by decide) (by decide) ?_
  obtain ⟨N, hN⟩ := k.one (fol1_colon (32 :: (v ++ s)))
  obtain ⟨M, hM⟩ := j.one hs
  refine ⟨max N M + 1, fun n hn => ?_⟩
  obtain ⟨m, rfl, hm⟩ := pos_succ hn
  rw [lp, if_pos (by rfl)]
  show (if [32, 63, 32].isPrefixOf (32 :: 63 :: 32 :: (u ++ (32 :: 58 :: 32 :: (v ++ s)))) = true then (ps m 1 (u ++ (32 :: 58 :: 32 :: (v ++ s)))).bind _ else _) = _
  rw [if_pos (by rfl), hN m (by omega)]
  simp only [Option.bind_some]
  rw [if_pos (by rfl)]
  show (ps m 1 (v ++ s)).bind _ = _
  rw [hM m (by omega)]; rfl
theorem binS_hd (op : Int) (h1 : 11 ≤ op) (h2 : op ≤ 19) : ∃ t, (binS op).data.toList = 32 :: t := by
  have : op = 11 ∨ op = 12 ∨ op = 13 ∨ op = 14 ∨ op = 15 ∨ op = 16 ∨ op = 17 ∨ op = 18 ∨ op = 19 := by omega
  rcases this with rfl | rfl | rfl | rfl | rfl | rfl | rfl | rfl | rfl <;> exact ⟨_, rfl⟩
theorem Good.bin {op : Int} (h1 : 11 ≤ op) (h2 : op ≤ 19) {L : Nat} (hL : (L : Int) = lvl op) {t u : List UInt8} {x y : E} (h : Good (if L = 4 then 5 else L) t x) (k : Good (L + 1) u y) : Good L (t ++ ((binS op).data.toList ++ u)) (mkE op 0 nil0 [x, y]) := fun s hs z hz => by
  have hl : 2 ≤ L ∧ L ≤ 6 := by
    unfold lvl at hL
    rw [if_neg (by omega)] at hL
    repeat (split at hL; · omega)
    omega
  have e : (t ++ ((binS op).data.toList ++ u)) ++ s = t ++ ((binS op).data.toList ++ (u ++ s)) := by simp
  rw [e]
  have ho := opTok_bin op h1 h2 (u ++ s)
  obtain ⟨b, hb⟩ := binS_hd op h1 h2
  have F : fol L ((binS op).data.toList ++ (u ++ s)) := ⟨fun c v e => by
      rw [hb] at e; injection e with e1 e2; subst e1; (decide), fun op' v e => by
      rw [ho] at e; injection e with e; injection e with e1 e2; subst e1; omega, fun _ e => by rw [hb] at e; simp at e, fun q => absurd q (by omega)⟩
  have R : LR L x ((binS op).data.toList ++ (u ++ s)) z := by
    obtain ⟨N, hN⟩ := k s (hs.mono (Nat.le_succ _)) (y, s) (LR.stop (by omega) hs y)
    obtain ⟨M, hM⟩ := hz
    refine ⟨max N M + 1, fun n hn => ?_⟩
    obtain ⟨m, rfl, hm⟩ := pos_succ hn
    rw [lp, if_neg (by omega), if_pos hl.2, ho]
    show (if lvl op = (L : Int) then (ps m (L + 1) (u ++ s)).bind _ else _) = _
    rw [if_pos hL.symm, hN m (by omega)]
    exact hM m (by omega)
  by_cases h4 : L = 4
  · rw [if_pos h4] at h
    subst h4
    exact (h _ (F.mono (by decide)) (x, _) (LR.stop (by decide) F x)).lp (by decide) (by decide) R
  · rw [if_neg h4] at h
    exact h _ F z R
end Go.Proofs.YtcheigpejbmaoaaDoor

/- Plain: every well-formed expression is read back from its text; so its text determines it. -/
namespace Go.Proofs.YtcheigpejbmaoaaDoor
open Go.RowKit
theorem ps_par (t : List UInt8) : ∀ n r, ps n r (41 :: t) = none
  | 0, r => by rw [ps]
  | n + 1, r => by
    rw [ps]
    by_cases h7 : r = 7
    · rw [if_pos h7, ps_par t n 8]
      show (if (some (41 : UInt8)) = some 45 then _ else if _ = true then _ else none) = none
      rw [if_neg (by decide), if_neg (by simp [List.isPrefixOf])]
    · rw [if_neg h7]
      by_cases h9 : r < 9
      · rw [if_pos h9, ps_par t n (r + 1)]; rfl
      · rw [if_neg h9, if_neg (by simp), if_neg (by simp), if_neg (by simp; decide), if_neg (by simp; decide)]
theorem Good.ne41 {t : List UInt8} {x : E} (h : Good 1 t x) : (∀ u, t ≠ 41 :: u) ∧ t ≠ [] := by
  have := h.one (fol1 (c := 41) (by decide) [])
  obtain ⟨N, hN⟩ := this
  have := hN N (Nat.le_refl _)
  constructor
  · rintro u rfl
    rw [show (41 :: u) ++ [41] = 41 :: (u ++ [41]) from rfl, ps_par] at this; cases this
  · rintro rfl
    rw [List.nil_append, ps_par] at this; cases this
theorem size0 {n : ByteArray} (h : n.size = 0) : n = nil0 := by
  rw [← Lib.mk_data n]
  rw [Lib.size_eq] at h
  rw [List.length_eq_zero_iff.1 h]; rfl
theorem len1 {α : Type} {l : List α} (h : l.length = 1) : ∃ x, l = [x] := by
  match l, h with
  | [x], _ => exact ⟨x, rfl⟩
theorem len2 {α : Type} {l : List α} (h : l.length = 2) : ∃ x y, l = [x, y] := by
  match l, h with
  | [x, y], _ => exact ⟨x, y, rfl⟩
theorem len3 {α : Type} {l : List α} (h : l.length = 3) : ∃ x y z, l = [x, y, z] := by
  match l, h with
  | [x, y, z], _ => exact ⟨x, y, z, rfl⟩
def Rd1 (x : E) : Prop := ∃ q : Nat, (q : Int) = lvl x.op ∧ Good q (txB x) (nrm x)
theorem Rd1.one {x : E} (h : Rd1 x) : Good 1 (txB x) (nrm x) := by
  obtain ⟨q, hq, g⟩ := h
  have := lvl_pos x.op
  exact g.le (by decide) (by omega) (by omega)
theorem Rd1.par {x : E} (h : Rd1 x) {r : Nat} (h1 : 1 ≤ r) (h9 : r ≤ 9) : Good r (par x.op (r : Int) (txB x)) (nrm x) := by
  obtain ⟨q, hq, g⟩ := h
  exact g.par hq h1 h9
theorem rdE : ∀ (m : Nat) (e : E), E.sz e < m → okE e = true → Rd1 e := by
  intro m
  induction m with
  | zero => intro e h; exact absurd h (by omega)
  | succ m ih =>
    intro e hm hok
    rw [okE_eq, Bool.and_eq_true] at hok
    obtain ⟨hall, hsh⟩ := hok
    have hA : ∀ x ∈ e.args, Rd1 x := fun x hx => by
      obtain ⟨i, hi, rfl⟩ := List.mem_iff_getElem.1 hx
      exact ih _ (by have := E.sz_arg (e := e) (List.getElem?_eq_getElem hi); omega) (List.all_eq_true.1 hall _ hx)
    unfold Rd1
    rw [txB_eq, nrm_eq]
    obtain ⟨op, hop⟩ : ∃ q, q = e.op := ⟨_, rfl⟩
    obtain ⟨v, hv⟩ : ∃ q, q = e.val := ⟨_, rfl⟩
    obtain ⟨n, hn⟩ : ∃ q, q = e.name := ⟨_, rfl⟩
    obtain ⟨l, hl⟩ : ∃ q, q = e.args := ⟨_, rfl⟩
    rw [← hop, ← hv, ← hn, ← hl] at hsh ⊢
    rw [← hl] at hA
    clear hop hv hn hl hall hm ih
    unfold okSh at hsh
    by_cases h1 : op = 1
    · subst h1
      rw [if_pos rfl] at hsh
      simp only [Bool.and_eq_true, decide_eq_true_eq] at hsh
      obtain ⟨q1, q2⟩ := hsh
      obtain rfl := List.length_eq_zero_iff.1 q1
      obtain rfl := size0 q2
      exact ⟨9, rfl, by unfold asm; rw [if_pos rfl]; exact Good.num v⟩
    rw [if_neg h1] at hsh
    by_cases h2 : op = 2
    · subst h2
      rw [if_pos rfl] at hsh
      simp only [Bool.and_eq_true, decide_eq_true_eq] at hsh
      obtain ⟨⟨q1, q2⟩, q3⟩ := hsh
      obtain rfl := List.length_eq_zero_iff.1 q1
      subst q2
      exact ⟨9, rfl, by unfold asm; rw [if_neg (by decide), if_pos rfl]; exact Good.name q3⟩
    rw [if_neg h2] at hsh
    by_cases h34 : op = 3 ∨ op = 4
    · rw [if_pos h34] at hsh
      simp only [Bool.and_eq_true, decide_eq_true_eq] at hsh
      obtain ⟨⟨q1, q2⟩, q3⟩ := hsh
      obtain rfl := List.length_eq_zero_iff.1 q1
      subst q2
      obtain rfl := size0 q3
      rcases h34 with rfl | rfl
      · exact ⟨9, rfl, by unfold asm; rw [if_neg (by decide), if_neg (by decide), if_pos rfl]; exact Good.tt⟩
      · exact ⟨9, rfl, by unfold asm; rw [if_neg (by decide), if_neg (by decide), if_neg (by decide), if_pos rfl]; exact Good.ff⟩
    rw [if_neg h34] at hsh
    by_cases h5 : op = 5
    · subst h5
      rw [if_pos rfl] at hsh
      simp only [Bool.and_eq_true, decide_eq_true_eq] at hsh
      obtain ⟨q2, q3⟩ := hsh
      subst q2
      refine ⟨9, rfl, ?_⟩
      unfold asm
      rw [if_neg (by decide), if_neg (by decide), if_neg (by decide), if_neg (by decide), if_pos rfl]
      have := Good.call q3 l (fun x hx => (hA x hx).one) (fun x l' e t => ((hA x (by rw [e]; exact List.mem_cons_self ..)).one.ne41).1 t) (fun x l' e => ((hA x (by rw [e]; exact List.mem_cons_self ..)).one.ne41).2)
      rw [show (n ++ ⟨#[40]⟩ : ByteArray).data.toList ++ (comF true (l.map txB) ++ (⟨#[41]⟩ : ByteArray).data.toList) = n.data.toList ++ (40 :: (comF true (l.map txB) ++ [41])) by rw [ByteArray.data_append, Array.toList_append]; simp]
      exact this
    rw [if_neg h5] at hsh
    by_cases h6 : op = 6
    · subst h6
      rw [if_pos rfl] at hsh
      simp only [Bool.and_eq_true, decide_eq_true_eq] at hsh
      obtain ⟨q2, q3⟩ := hsh
      obtain rfl := size0 q3
      refine ⟨9, rfl, ?_⟩
      unfold asm
      rw [if_neg (by decide), if_neg (by decide), if_neg (by decide), if_neg (by decide), if_neg (by decide), if_pos rfl]
      have := Good.hash v l (by rintro rfl; exact absurd q2 (by decide)) (fun x hx => (hA x hx).one)
      rw [show ((⟨#[104, 97, 115, 104, 40]⟩ : ByteArray) ++ ⟨(Lib.decDigits v).toArray⟩ ++ ⟨#[59, 32]⟩ : ByteArray).data.toList ++ (comF true (l.map txB) ++ (⟨#[41]⟩ : ByteArray).data.toList) = [104, 97, 115, 104, 40] ++ (Lib.decDigits v ++ (59 :: 32 :: (comF true (l.map txB) ++ [41]))) by simp only [ByteArray.data_append, Array.toList_append]; simp]
      exact this
    rw [if_neg h6] at hsh
    by_cases h7 : op = 7
    · subst h7
      rw [if_pos rfl] at hsh
      simp only [Bool.and_eq_true, decide_eq_true_eq] at hsh
      obtain ⟨⟨q1, q2⟩, q3⟩ := hsh
      subst q2
      obtain rfl := size0 q3
      refine ⟨9, rfl, ?_⟩
      unfold asm
      rw [if_neg (by decide), if_neg (by decide), if_neg (by decide), if_neg (by decide), if_neg (by decide), if_neg (by decide), if_pos rfl]
      exact Good.list l (by rintro rfl; exact absurd q1 (by decide)) (fun x hx => (hA x hx).one)
    rw [if_neg h7] at hsh
    by_cases h910 : op = 9 ∨ op = 10
    · rw [if_pos h910] at hsh
      simp only [Bool.and_eq_true, decide_eq_true_eq] at hsh
      obtain ⟨⟨q1, q2⟩, q3⟩ := hsh
      obtain ⟨x, rfl⟩ := len1 q1
      have hx := hA x (List.mem_cons_self ..)
      subst q2
      obtain rfl := size0 q3
      have o0 : oAt [x] 0 = x.op := rfl
      rcases h910 with rfl | rfl
      · refine ⟨7, rfl, ?_⟩
        unfold asm
        rw [if_neg (by decide), if_neg (by decide), if_neg (by decide), if_neg (by decide), if_neg (by decide), if_neg (by decide), if_neg (by decide), if_neg (by decide), if_pos rfl, o0]
        by_cases h9 : x.op = 9
        · rw [if_pos h9]
          exact Good.neg ((hx.par (r := 8) (by decide) (by decide)).le (by decide) (by decide) (by decide))
        · rw [if_neg h9]
          exact Good.neg (hx.par (r := 7) (by decide) (by decide))
      · refine ⟨7, rfl, ?_⟩
        unfold asm
        rw [if_neg (by decide), if_neg (by decide), if_neg (by decide), if_neg (by decide), if_neg (by decide), if_neg (by decide), if_neg (by decide), if_neg (by decide), if_neg (by decide), if_pos rfl, o0]
        exact Good.not (hx.par (r := 7) (by decide) (by decide))
    rw [if_neg h910] at hsh
    by_cases h20 : op = 20
    · subst h20
      rw [if_pos rfl] at hsh
      simp only [Bool.and_eq_true, decide_eq_true_eq] at hsh
      obtain ⟨⟨q1, q2⟩, q3⟩ := hsh
      obtain ⟨x, y, z, rfl⟩ := len3 q1
      have hx := hA x (by simp)
      have hy := hA y (by simp)
      have hz := hA z (by simp)
      subst q2
      obtain rfl := size0 q3
      refine ⟨1, rfl, ?_⟩
      unfold asm
      rw [if_neg (by decide), if_neg (by decide), if_neg (by decide), if_neg (by decide), if_neg (by decide), if_neg (by decide), if_neg (by decide), if_neg (by decide), if_neg (by decide), if_neg (by decide), if_pos rfl, par_one, par_one]
      exact Good.cond (hx.par (r := 2) (by decide) (by decide)) hy.one hz.one
    rw [if_neg h20] at hsh
    by_cases h8 : op = 8 ∨ 11 ≤ op ∧ op ≤ 19
    · rw [if_pos h8] at hsh
      simp only [Bool.and_eq_true, decide_eq_true_eq] at hsh
      obtain ⟨⟨q1, q2⟩, q3⟩ := hsh
      obtain ⟨x, y, rfl⟩ := len2 q1
      have hx := hA x (by simp)
      have hy := hA y (by simp)
      subst q2
      obtain rfl := size0 q3
      rcases h8 with rfl | ⟨ha, hb⟩
      · refine ⟨8, rfl, ?_⟩
        unfold asm
        rw [if_neg (by decide), if_neg (by decide), if_neg (by decide), if_neg (by decide), if_neg (by decide), if_neg (by decide), if_neg (by decide), if_pos rfl, par_one]
        exact Good.index (hx.par (r := 8) (by decide) (by decide)) hy.one
      · have hl := lvl_pos op
        have hl6 : lvl op ≤ 6 := by
          unfold lvl
          rw [if_neg h20]
          repeat (split; · omega)
          omega
        obtain ⟨L, hL⟩ : ∃ L : Nat, (L : Int) = lvl op := ⟨(lvl op).toNat, by omega⟩
        refine ⟨L, hL, ?_⟩
        unfold asm
        rw [if_neg h1, if_neg h2, if_neg (by omega), if_neg (by omega), if_neg h5, if_neg h6, if_neg h7, if_neg (by omega), if_neg (by omega), if_neg (by omega), if_neg h20]
        refine Good.bin ha hb hL ?_ ?_
        · rw [← hL]
          by_cases h4 : L = 4
          · rw [if_pos h4, if_pos (by omega)]
            exact hx.par (r := 5) (by decide) (by decide)
          · rw [if_neg h4, if_neg (by omega)]
            exact hx.par (by omega) (by omega)
        · rw [← hL]
          exact hy.par (r := L + 1) (by omega) (by omega)
    rw [if_neg h8] at hsh
    cases hsh
/-- The text of a well-formed expression determines it, whatever stands behind it. -/
theorem txB_inj {x y : E} (hx : okE x = true) (hy : okE y = true) {s t : List UInt8} (hs : fol 1 s) (ht : fol 1 t) (h : txB x ++ s = txB y ++ t) : eqE x y = true ∧ s = t := by
  have h1 := (rdE _ x (Nat.lt_succ_self _) hx).one.one hs
  have h2 := (rdE _ y (Nat.lt_succ_self _) hy).one.one ht
  rw [h] at h1
  have := h1.det h2
  simp only [Prod.mk.injEq] at this
  exact ⟨eqE_nrm x y this.1, this.2⟩
end Go.Proofs.YtcheigpejbmaoaaDoor

/- Plain: the text of a well-formed program determines it. -/
namespace Go.Proofs.YtcheigpejbmaoaaDoor
open Go.RowKit
theorem nm_inj {n m : ByteArray} (hn : nameOk n = true) (hm : nameOk m = true) {s t : List UInt8} (hs : ∀ c u, s = c :: u → nb c = false) (ht : ∀ c u, t = c :: u → nb c = false) (h : n.data.toList ++ s = m.data.toList ++ t) : n = m ∧ s = t := by
  obtain ⟨a1, a2⟩ := takeW _ s (nameOk_all hn) hs
  obtain ⟨b1, b2⟩ := takeW _ t (nameOk_all hm) ht
  rw [h] at a1 a2
  have e := a1.symm.trans b1
  refine ⟨?_, a2.symm.trans b2⟩
  rw [← Lib.mk_data n, ← Lib.mk_data m, e]
theorem dg_inj {u v : Nat} {s t : List UInt8} (hs : ∀ c w, s = c :: w → dgt c = false) (ht : ∀ c w, t = c :: w → dgt c = false) (h : Lib.decDigits u ++ s = Lib.decDigits v ++ t) : u = v ∧ s = t := by
  obtain ⟨a1, a2⟩ := takeW _ s (dec_dig u) hs
  obtain ⟨b1, b2⟩ := takeW _ t (dec_dig v) ht
  rw [h] at a1 a2
  exact ⟨dec_inj (a1.symm.trans b1), a2.symm.trans b2⟩
theorem hdc {p : UInt8 → Bool} {b : Bool} {c : UInt8} (h : p c = b) (t : List UInt8) : ∀ d u, c :: t = d :: u → p d = b := fun d u e => by injection e with e1 e2; rw [← e1]; exact h
theorem tyB_hd (n : Int) (s : List UInt8) (hs : ∀ c u, s = c :: u → nb c = false ∧ c ≠ 91) : ∀ c u, tyB n ++ s = c :: u → dgt c = false := by
  intro c u e
  unfold tyB at e
  by_cases h : 0 < n
  · rw [if_pos h] at e
    injection e with e1 e2
    rw [← e1]; decide
  · rw [if_neg h] at e
    have := (hs c u e).1
    cases hd : dgt c
    · rfl
    · rw [dgt_nb hd] at this; cases this
theorem tyB_inj {n m : Int} (hn : 0 ≤ n) (hm : 0 ≤ m) {s t : List UInt8} (hs : ∀ c u, s = c :: u → nb c = false ∧ c ≠ 91) (ht : ∀ c u, t = c :: u → nb c = false ∧ c ≠ 91) (h : tyB n ++ s = tyB m ++ t) : n = m ∧ s = t := by
  unfold tyB at h
  by_cases h1 : 0 < n
  · rw [if_pos h1] at h
    by_cases h2 : 0 < m
    · rw [if_pos h2] at h
      simp only [List.append_assoc, List.cons_append, List.nil_append, List.cons.injEq, true_and] at h
      obtain ⟨q1, q2⟩ := dg_inj (hdc (p := dgt) (b := false) (by decide) _) (hdc (p := dgt) (b := false) (by decide) _) h
      simp only [List.cons.injEq, true_and] at q2
      exact ⟨by omega, q2⟩
    · rw [if_neg h2] at h
      exact absurd rfl (ht 91 _ h.symm).2
  · rw [if_neg h1] at h
    by_cases h2 : 0 < m
    · rw [if_pos h2] at h
      exact absurd rfl (hs 91 _ h).2
    · rw [if_neg h2] at h
      exact ⟨by omega, h⟩
theorem ty_inj {x y : Ty} (hx : tyOk x.k x.b x.n = true) (hy : tyOk y.k y.b y.n = true) {s t : List UInt8} (hs : ∀ c u, s = c :: u → nb c = false ∧ c ≠ 91) (ht : ∀ c u, t = c :: u → nb c = false ∧ c ≠ 91) (h : tyTx x.k x.b x.n ++ s = tyTx y.k y.b y.n ++ t) : x = y ∧ s = t := by
  obtain ⟨k, b, n⟩ := x
  obtain ⟨k', b', n'⟩ := y
  simp only at hx hy h
  unfold tyOk at hx hy
  simp only [Bool.and_eq_true, decide_eq_true_eq] at hx hy
  obtain ⟨n0, n1, hk⟩ := hx
  obtain ⟨m0, m1, hk'⟩ := hy
  unfold tyTx at h
  rw [List.append_assoc, List.append_assoc] at h
  have A : ∀ (k b : Int), (if k = 1 ∨ k = 2 then decide (b = 0) else if k = 3 then decide (1 ≤ b) && decide (b ≤ 62) else false) = true → (k = 1 ∧ b = 0) ∨ (k = 2 ∧ b = 0) ∨ (k = 3 ∧ 1 ≤ b) := fun k b h => by
    by_cases h1 : k = 1 ∨ k = 2
    · rw [if_pos h1] at h
      have := of_decide_eq_true h
      omega
    · rw [if_neg h1] at h
      by_cases h3 : k = 3
      · rw [if_pos h3] at h
        simp only [Bool.and_eq_true, decide_eq_true_eq] at h
        omega
      · rw [if_neg h3] at h; cases h
  rcases A k b hk with ⟨rfl, rfl⟩ | ⟨rfl, rfl⟩ | ⟨rfl, hb⟩ <;> rcases A k' b' hk' with ⟨rfl, rfl⟩ | ⟨rfl, rfl⟩ | ⟨rfl, hb'⟩
  · have h' : tyB n ++ s = tyB n' ++ t := by simpa [tyA] using h
    obtain ⟨rfl, q⟩ := tyB_inj n0 m0 hs ht h'
    exact ⟨rfl, q⟩
  · simp [tyA] at h
  · simp [tyA] at h
  · simp [tyA] at h
  · have h' : tyB n ++ s = tyB n' ++ t := by simpa [tyA] using h
    obtain ⟨rfl, q⟩ := tyB_inj n0 m0 hs ht h'
    exact ⟨rfl, q⟩
  · simp [tyA] at h
  · simp [tyA] at h
  · simp [tyA] at h
  · have h' : Lib.decDigits b.toNat ++ (tyB n ++ s) = Lib.decDigits b'.toNat ++ (tyB n' ++ t) := by simpa [tyA] using h
    obtain ⟨e1, e2⟩ := dg_inj (tyB_hd n s hs) (tyB_hd n' t ht) h'
    obtain ⟨rfl, q⟩ := tyB_inj n0 m0 hs ht e2
    obtain rfl : b = b' := by omega
    exact ⟨rfl, q⟩
theorem lines_inj {T : Type} (sep : UInt8) (tx : T → List UInt8) (ok : T → Bool) (eq : T → T → Bool) (st : List UInt8 → Prop) (hst : ∀ x s, ok x = true → st (tx x ++ s)) :
    ∀ (l l' : List T) (s t : List UInt8), (∀ x ∈ l, ∀ y s t, ok x = true → ok y = true → tx x ++ (sep :: s) = tx y ++ (sep :: t) → eq x y = true ∧ s = t) → l.all ok = true → l'.all ok = true → ¬ st s → ¬ st t → linesL sep tx l ++ s = linesL sep tx l' ++ t → eqL eq l l' = true ∧ s = t
  | [], [], s, t, _, _, _, _, _, h => ⟨rfl, h⟩
  | [], y :: l', s, t, _, _, h2, h3, _, h => by
    rw [List.all_cons, Bool.and_eq_true] at h2
    have h' : s = (tx y ++ (sep :: linesL sep tx l')) ++ t := h
    rw [List.append_assoc] at h'
    exact absurd (hst y _ h2.1) (by rw [← h']; exact h3)
  | x :: l, [], s, t, _, h1, _, _, h4, h => by
    rw [List.all_cons, Bool.and_eq_true] at h1
    have h' : (tx x ++ (sep :: linesL sep tx l)) ++ s = t := h
    rw [List.append_assoc] at h'
    exact absurd (hst x _ h1.1) (by rw [h']; exact h4)
  | x :: l, y :: l', s, t, hi, h1, h2, h3, h4, h => by
    rw [List.all_cons, Bool.and_eq_true] at h1 h2
    have h' : (tx x ++ (sep :: linesL sep tx l)) ++ s = (tx y ++ (sep :: linesL sep tx l')) ++ t := h
    rw [List.append_assoc, List.append_assoc, List.cons_append, List.cons_append] at h'
    obtain ⟨q1, q2⟩ := hi x (List.mem_cons_self ..) y _ _ h1.1 h2.1 h'
    obtain ⟨q3, q4⟩ := lines_inj sep tx ok eq st hst l l' s t (fun u hu => hi u (List.mem_cons_of_mem _ hu)) h1.2 h2.2 h3 h4 q2
    exact ⟨by rw [eqL_cons, q1, q3]; rfl, q4⟩
theorem okS_kind {x : S} (h : okS x = true) : (x.kind = 1 ∧ (if x.typed = true then tyOk x.t.k x.t.b x.t.n else eqT x.t ⟨0, 0, 0⟩) = true ∧ nameOk x.name = true ∧ okE x.e = true ∧ x.lo = 0 ∧ x.hi = 0 ∧ x.body = []) ∨
    (x.kind = 2 ∧ x.name.size = 0 ∧ x.typed = false ∧ x.t = ⟨0, 0, 0⟩ ∧ okE x.e = true ∧ x.lo = 0 ∧ x.hi = 0 ∧ x.body = []) ∨
    (x.kind = 3 ∧ nameOk x.name = true ∧ x.typed = false ∧ x.t = ⟨0, 0, 0⟩ ∧ emE x.e = true ∧ 0 ≤ x.lo ∧ 0 ≤ x.hi ∧ x.body.all okS = true) := by
  rw [okS_eq] at h
  by_cases h1 : x.kind = 1
  · rw [if_pos h1] at h
    simp only [Bool.and_eq_true, decide_eq_true_eq] at h
    obtain ⟨a, b, c, d, e, f⟩ := h
    exact .inl ⟨h1, a, b, c, d, e, List.length_eq_zero_iff.1 f⟩
  rw [if_neg h1] at h
  by_cases h2 : x.kind = 2
  · rw [if_pos h2] at h
    simp only [Bool.and_eq_true, decide_eq_true_eq, Bool.not_eq_true'] at h
    obtain ⟨a, ⟨b, b2⟩, c, d, e, f⟩ := h
    exact .inr (.inl ⟨h2, a, b, eqT_eq b2, c, d, e, List.length_eq_zero_iff.1 f⟩)
  rw [if_neg h2] at h
  by_cases h3 : x.kind = 3
  · rw [if_pos h3] at h
    simp only [Bool.and_eq_true, decide_eq_true_eq, Bool.not_eq_true', lpN] at h
    obtain ⟨a, ⟨b, b2⟩, c, ⟨d, _⟩, ⟨e, _⟩, f⟩ := h
    exact .inr (.inr ⟨h3, a, b, eqT_eq b2, c, d, e, f⟩)
  rw [if_neg h3] at h; cases h
theorem emE_eq {x y : E} (hx : emE x = true) (hy : emE y = true) : eqE x y = true := by
  unfold emE at hx hy
  simp only [Bool.and_eq_true, decide_eq_true_eq] at hx hy
  obtain ⟨a, b, c, d⟩ := hx
  obtain ⟨a', b', c', d'⟩ := hy
  rw [eqE_eq, a, b, size0 c, List.length_eq_zero_iff.1 d, a', b', size0 c', List.length_eq_zero_iff.1 d']
  rfl
/-- A text at which a statement begins. -/
def stS (s : List UInt8) : Prop := ∃ c t, s = c :: t ∧ (c = 108 ∨ c = 97 ∨ c = 102)
theorem txS_st (x : S) (s : List UInt8) (h : okS x = true) : stS (txS x ++ s) := by
  rw [txS_eq]
  rcases okS_kind h with h | h | h
  · rw [if_pos h.1]; exact ⟨_, _, rfl, .inl rfl⟩
  · rw [if_neg (by rw [h.1]; decide), if_pos h.1]; exact ⟨_, _, rfl, .inr (.inl rfl)⟩
  · rw [if_neg (by rw [h.1]; decide), if_neg (by rw [h.1]; decide), if_pos h.1]; exact ⟨_, _, rfl, .inr (.inr rfl)⟩
theorem semi (s : List UInt8) : fol 1 (59 :: s) := fol1 (by decide) s
theorem ty_opt {x y : S} (hx : (if x.typed = true then tyOk x.t.k x.t.b x.t.n else eqT x.t ⟨0, 0, 0⟩) = true) (hy : (if y.typed = true then tyOk y.t.k y.t.b y.t.n else eqT y.t ⟨0, 0, 0⟩) = true) {s t : List UInt8}
    (h : (if x.typed = true then [58, 32] ++ tyTx x.t.k x.t.b x.t.n else []) ++ (32 :: s) = (if y.typed = true then [58, 32] ++ tyTx y.t.k y.t.b y.t.n else []) ++ (32 :: t)) : x.typed = y.typed ∧ x.t = y.t ∧ s = t := by
  have H : ∀ u : List UInt8, ∀ c v, 32 :: u = c :: v → nb c = false ∧ c ≠ 91 := fun u c v e => by injection e with e1 e2; subst e1; decide
  cases h1 : x.typed <;> cases h2 : y.typed
  · rw [h1] at hx h; rw [h2] at hy h
    simp only [Bool.false_eq_true, if_false, List.nil_append, List.cons.injEq, true_and] at hx hy h
    exact ⟨rfl, (eqT_eq hx).trans (eqT_eq hy).symm, h⟩
  · rw [h1, h2] at h
    simp at h
  · rw [h1, h2] at h
    simp at h
  · rw [h1] at hx h; rw [h2] at hy h
    simp only [if_true, List.append_assoc, List.cons_append, List.nil_append, List.cons.injEq, true_and] at hx hy h
    obtain ⟨q1, q2⟩ := ty_inj hx hy (H s) (H t) h
    injection q2 with _ q2
    exact ⟨rfl, q1, q2⟩
theorem txS_inj : ∀ (m : Nat) (x : S), S.sz x < m → ∀ (y : S) (s t : List UInt8), okS x = true → okS y = true → txS x ++ s = txS y ++ t → eqS x y = true ∧ s = t
  | 0, _, h, _, _, _, _, _, _ => absurd h (by omega)
  | m + 1, x, hm, y, s, t, hx, hy, h => by
    rw [txS_eq, txS_eq y] at h
    rw [eqS_eq]
    rcases okS_kind hx with ⟨k, q⟩ | ⟨k, q⟩ | ⟨k, q⟩ <;> rcases okS_kind hy with ⟨k', q'⟩ | ⟨k', q'⟩ | ⟨k', q'⟩ <;> rw [k, k'] at h ⊢
    · obtain ⟨a1, a2, a3, a4, a5, a6⟩ := q
      obtain ⟨b1, b2, b3, b4, b5, b6⟩ := q'
      simp only [if_true, List.append_assoc, List.cons_append, List.nil_append, List.cons.injEq, true_and] at h
      obtain ⟨c1, c2⟩ := nm_inj a2 b2 (fun c u e => by
        cases ht : x.typed
        · rw [ht] at e
          simp at e
          rw [← e.1]; decide
        · rw [ht] at e
          simp at e
          rw [← e.1]; decide) (fun c u e => by
        cases ht : y.typed
        · rw [ht] at e
          simp at e
          rw [← e.1]; decide
        · rw [ht] at e
          simp at e
          rw [← e.1]; decide) h
      obtain ⟨d1, d2, d3⟩ := ty_opt a1 b1 c2
      simp only [List.cons.injEq, true_and] at d3
      obtain ⟨e1, e2⟩ := txB_inj a3 b3 (semi s) (semi t) d3
      injection e2 with _ e2
      refine ⟨?_, e2⟩
      rw [c1, d1, d2, a4, a5, a6, b4, b5, b6, e1, eqT_refl]
      simp [strEq, eqL]
    · simp at h
    · simp at h
    · simp at h
    · obtain ⟨a1, a2, a3, a4, a5, a6, a7⟩ := q
      obtain ⟨b1, b2, b3, b4, b5, b6, b7⟩ := q'
      simp only [show ¬ ((2 : Int) = 1) from by decide, if_false, if_true, List.append_assoc, List.cons_append, List.nil_append, List.cons.injEq, true_and] at h
      obtain ⟨e1, e2⟩ := txB_inj a4 b4 (semi s) (semi t) h
      injection e2 with _ e2
      refine ⟨?_, e2⟩
      rw [a2, a3, a5, a6, a7, b2, b3, b5, b6, b7, e1, size0 a1, size0 b1, eqT_refl]
      simp [strEq, eqL]
    · simp at h
    · simp at h
    · simp at h
    · obtain ⟨a1, a2, a3, a4, a5, a6, a7⟩ := q
      obtain ⟨b1, b2, b3, b4, b5, b6, b7⟩ := q'
      simp only [show ¬ ((3 : Int) = 1) from by decide, show ¬ ((3 : Int) = 2) from by decide, if_false, if_true, List.append_assoc, List.cons_append, List.nil_append, List.cons.injEq, true_and] at h
      obtain ⟨c1, c2⟩ := nm_inj a1 b1 (hdc (p := nb) (b := false) (by decide) _) (hdc (p := nb) (b := false) (by decide) _) h
      simp only [List.cons.injEq, true_and] at c2
      obtain ⟨d1, d2⟩ := dg_inj (hdc (p := dgt) (b := false) (by decide) _) (hdc (p := dgt) (b := false) (by decide) _) c2
      simp only [List.cons.injEq, true_and] at d2
      obtain ⟨e1, e2⟩ := dg_inj (hdc (p := dgt) (b := false) (by decide) _) (hdc (p := dgt) (b := false) (by decide) _) d2
      simp only [List.cons.injEq, true_and] at e2
      rw [txSs_lines, txSs_lines] at e2
      have ns : ∀ u : List UInt8, ¬ stS (125 :: u) := fun u ⟨c, v, e, hc⟩ => by injection e with e3 _; subst e3; revert hc; decide
      obtain ⟨f1, f2⟩ := lines_inj 32 txS okS eqS stS txS_st x.body y.body (125 :: s) (125 :: t) (fun u hu v s t ho hv he => by
        obtain ⟨i, hi, rfl⟩ := List.mem_iff_getElem.1 hu
        obtain ⟨g1, g2⟩ := txS_inj m _ (by have := S.sz_arg (e := x) (List.getElem?_eq_getElem hi); omega) v _ _ ho hv he
        injection g2 with _ g2
        exact ⟨g1, g2⟩) a7 b7 (ns s) (ns t) e2
      injection f2 with _ f2
      refine ⟨?_, f2⟩
      have hlo : x.lo = y.lo := by omega
      have hhi : x.hi = y.hi := by omega
      rw [c1, a2, a3, b2, b3, hlo, hhi, f1, emE_eq a4 b4, eqT_refl]
      simp [strEq]
theorem body_inj {l l' : List S} (h1 : l.all okS = true) (h2 : l'.all okS = true) (sep : UInt8) {s t : List UInt8} (hs : ¬ stS s) (ht : ¬ stS t) (h : linesL sep txS l ++ s = linesL sep txS l' ++ t) : eqL eqS l l' = true ∧ s = t :=
  lines_inj sep txS okS eqS stS txS_st l l' s t (fun u _ v s t ho hv he => by
    obtain ⟨g1, g2⟩ := txS_inj _ u (Nat.lt_succ_self _) v _ _ ho hv he
    injection g2 with _ g2
    exact ⟨g1, g2⟩) h1 h2 hs ht h
theorem txP_inj {x y : P} (hx : okP x = true) (hy : okP y = true) {s t : List UInt8} (hs : ∀ c u, s = c :: u → nb c = false ∧ c ≠ 91) (ht : ∀ c u, t = c :: u → nb c = false ∧ c ≠ 91) (h : txP x ++ s = txP y ++ t) : eqP x y = true ∧ s = t := by
  unfold okP at hx hy
  rw [Bool.and_eq_true] at hx hy
  unfold txP at h
  simp only [List.append_assoc, List.cons_append, List.nil_append] at h
  obtain ⟨c1, c2⟩ := nm_inj hx.1 hy.1 (hdc (p := nb) (b := false) (by decide) _) (hdc (p := nb) (b := false) (by decide) _) h
  simp only [List.cons.injEq, true_and] at c2
  obtain ⟨d1, d2⟩ := ty_inj hx.2 hy.2 hs ht c2
  refine ⟨?_, d2⟩
  unfold eqP
  rw [c1, d1, eqT_refl]; simp [strEq]
theorem txP_ne {x : P} (h : okP x = true) : ∃ c t, txP x = c :: t ∧ c ≠ 41 := by
  unfold okP at h
  rw [Bool.and_eq_true] at h
  obtain ⟨c, t, e, hl⟩ := nameOk_hd h.1
  unfold txP
  rw [e]
  refine ⟨c, _, rfl, ?_⟩
  rintro rfl
  revert hl; decide
theorem ps_inj : ∀ (f : Bool) (l l' : List P) (s t : List UInt8), l.all okP = true → l'.all okP = true → comF f (l.map txP) ++ (41 :: s) = comF f (l'.map txP) ++ (41 :: t) → eqL eqP l l' = true ∧ s = t
  | f, [], [], s, t, _, _, h => by
    have h' : 41 :: s = 41 :: t := h
    injection h' with _ h'
    exact ⟨rfl, h'⟩
  | f, [], y :: l', s, t, _, h2, h => by
    rw [List.all_cons, Bool.and_eq_true] at h2
    obtain ⟨c, u, e, hc⟩ := txP_ne h2.1
    cases f
    · simp [comF] at h
    · simp [comF, e] at h
      exact absurd h.1.symm hc
  | f, x :: l, [], s, t, h1, _, h => by
    rw [List.all_cons, Bool.and_eq_true] at h1
    obtain ⟨c, u, e, hc⟩ := txP_ne h1.1
    cases f
    · simp [comF] at h
    · simp [comF, e] at h
      exact absurd h.1 hc
  | f, x :: l, y :: l', s, t, h1, h2, h => by
    rw [List.all_cons, Bool.and_eq_true] at h1 h2
    have hd : ∀ (l : List P) (s : List UInt8) (c : UInt8) (u : List UInt8), comF false (l.map txP) ++ (41 :: s) = c :: u → nb c = false ∧ c ≠ 91 := fun l s c u e => by
      cases l with
      | nil =>
        have e' : 41 :: s = c :: u := e
        injection e' with e1 _; subst e1; decide
      | cons z l =>
        simp [comF] at e
        rw [← e.1]; decide
    have h' : txP x ++ (comF false (l.map txP) ++ (41 :: s)) = txP y ++ (comF false (l'.map txP) ++ (41 :: t)) := by
      cases f <;> simpa [comF] using h
    obtain ⟨q1, q2⟩ := txP_inj h1.1 h2.1 (hd l s) (hd l' t) h'
    obtain ⟨q3, q4⟩ := ps_inj false l l' s t h1.2 h2.2 q2
    exact ⟨by rw [eqL_cons, q1, q3]; rfl, q4⟩
theorem txF_inj {x y : F} (hx : okF x = true) (hy : okF y = true) {s t : List UInt8} (h : txF x ++ s = txF y ++ t) : eqFn x y = true ∧ s = t := by
  unfold okF at hx hy
  simp only [Bool.and_eq_true] at hx hy
  obtain ⟨a1, a2, a3, a4, a5⟩ := hx
  obtain ⟨b1, b2, b3, b4, b5⟩ := hy
  unfold txF at h
  simp only [List.append_assoc, List.cons_append, List.nil_append, List.cons.injEq, true_and] at h
  obtain ⟨c1, c2⟩ := nm_inj a1 b1 (hdc (p := nb) (b := false) (by decide) _) (hdc (p := nb) (b := false) (by decide) _) h
  simp only [List.cons.injEq, true_and] at c2
  obtain ⟨d1, d2⟩ := ps_inj true _ _ _ _ a2 b2 c2
  simp only [List.cons.injEq, true_and] at d2
  have H : ∀ u : List UInt8, ∀ c v, 32 :: u = c :: v → nb c = false ∧ c ≠ 91 := fun u c v e => by injection e with e1 e2; subst e1; decide
  obtain ⟨e1, e2⟩ := ty_inj a3 b3 (H _) (H _) d2
  simp only [List.cons.injEq, true_and] at e2
  rw [txSs_lines, txSs_lines] at e2
  have ns : ∀ u : List UInt8, ¬ stS (114 :: u) := fun u ⟨c, v, e, hc⟩ => by injection e with e3 _; subst e3; revert hc; decide
  obtain ⟨f1, f2⟩ := body_inj a4 b4 32 (ns _) (ns _) e2
  simp only [List.cons.injEq, true_and] at f2
  obtain ⟨g1, g2⟩ := txB_inj a5 b5 (semi _) (semi _) f2
  simp only [List.cons.injEq, true_and] at g2
  refine ⟨?_, g2⟩
  unfold eqFn
  rw [c1, d1, e1, f1, g1, eqT_refl]; simp [strEq]
theorem txD_inj {x y : D} (hx : okD x = true) (hy : okD y = true) {s t : List UInt8} (h : txD x ++ s = txD y ++ t) : eqD x y = true ∧ s = t := by
  unfold okD at hx hy
  rw [Bool.and_eq_true] at hx hy
  unfold txD at h
  have key : x.pub = y.pub ∧ x.name.data.toList ++ ([58, 32] ++ (tyTx x.t.k x.t.b x.t.n ++ (59 :: s))) = y.name.data.toList ++ ([58, 32] ++ (tyTx y.t.k y.t.b y.t.n ++ (59 :: t))) := by
    cases hp : x.pub <;> cases hq : y.pub <;> rw [hp, hq] at h
    · exact ⟨rfl, by simpa using h⟩
    · simp at h
    · simp at h
    · exact ⟨rfl, by simpa using h⟩
  obtain ⟨k1, k2⟩ := key
  simp only [List.cons_append, List.nil_append] at k2
  obtain ⟨c1, c2⟩ := nm_inj hx.1 hy.1 (hdc (p := nb) (b := false) (by decide) _) (hdc (p := nb) (b := false) (by decide) _) k2
  simp only [List.cons.injEq, true_and] at c2
  have H : ∀ u : List UInt8, ∀ c v, 59 :: u = c :: v → nb c = false ∧ c ≠ 91 := fun u c v e => by injection e with e1 e2; subst e1; decide
  obtain ⟨d1, d2⟩ := ty_inj hx.2 hy.2 (H _) (H _) c2
  injection d2 with _ d2
  refine ⟨?_, d2⟩
  unfold eqD
  rw [k1, c1, d1, eqT_refl]; simp [strEq]
def stF (s : List UInt8) : Prop := ∃ t, s = 102 :: 110 :: t
def stD (s : List UInt8) : Prop := ∃ c t, s = c :: t ∧ (c = 112 ∨ c = 115)
theorem txD_st (x : D) (s : List UInt8) : stD (txD x ++ s) := by
  unfold txD
  cases x.pub
  · exact ⟨_, _, rfl, .inr rfl⟩
  · exact ⟨_, _, rfl, .inl rfl⟩
theorem txS_hd {x : S} (h : okS x = true) (s : List UInt8) : ¬ stF (txS x ++ s) ∧ ¬ stD (txS x ++ s) := by
  rw [txS_eq]
  rcases okS_kind h with h | h | h
  · rw [if_pos h.1]
    exact ⟨fun ⟨t, e⟩ => by simp at e, fun ⟨c, t, e, hc⟩ => by (simp at e; rw [← e.1] at hc; revert hc; decide)⟩
  · rw [if_neg (by rw [h.1]; decide), if_pos h.1]
    exact ⟨fun ⟨t, e⟩ => by simp at e, fun ⟨c, t, e, hc⟩ => by (simp at e; rw [← e.1] at hc; revert hc; decide)⟩
  · rw [if_neg (by rw [h.1]; decide), if_neg (by rw [h.1]; decide), if_pos h.1]
    exact ⟨fun ⟨t, e⟩ => by simp at e, fun ⟨c, t, e, hc⟩ => by (simp at e; rw [← e.1] at hc; revert hc; decide)⟩
theorem bodyL_hd : ∀ {l : List S}, l.all okS = true → ¬ stF (linesL 10 txS l) ∧ ¬ stD (linesL 10 txS l)
  | [], _ => ⟨fun ⟨t, e⟩ => by (cases e), fun ⟨c, t, e, _⟩ => by (cases e)⟩
  | x :: l, h => by
    rw [List.all_cons, Bool.and_eq_true] at h
    exact txS_hd h.1 _
theorem restL_hd {d : List D} {l : List S} (h : l.all okS = true) : ¬ stF (linesL 10 txD d ++ linesL 10 txS l) := by
  cases d with
  | nil => exact (bodyL_hd h).1
  | cons x d =>
    rintro ⟨t, e⟩
    have e' : (txD x ++ (10 :: linesL 10 txD d)) ++ linesL 10 txS l = 102 :: 110 :: t := e
    rw [List.append_assoc] at e'
    obtain ⟨c, u, e2, hc⟩ := txD_st x ((10 :: linesL 10 txD d) ++ linesL 10 txS l)
    rw [e'] at e2
    injection e2 with e2 _
    subst e2
    revert hc; decide
/-- The text of a well-formed program determines it. -/
theorem txG_inj {x y : G} (hx : okG x = true) (hy : okG y = true) (h : txG x = txG y) : eqG x y = true := by
  unfold okG at hx hy
  simp only [Bool.and_eq_true] at hx hy
  unfold txG at h
  obtain ⟨q1, q2⟩ := lines_inj 10 txF okF eqFn stF (fun f s _ => ⟨_, rfl⟩) x.funcs y.funcs _ _ (fun u _ v s t ho hv he => by
    obtain ⟨g1, g2⟩ := txF_inj ho hv he
    injection g2 with _ g2
    exact ⟨g1, g2⟩) hx.1 hy.1 (restL_hd hx.2.2) (restL_hd hy.2.2) h
  obtain ⟨q3, q4⟩ := lines_inj 10 txD okD eqD stD (fun d s _ => txD_st d s) x.decls y.decls _ _ (fun u _ v s t ho hv he => by
    obtain ⟨g1, g2⟩ := txD_inj ho hv he
    injection g2 with _ g2
    exact ⟨g1, g2⟩) hx.2.1 hy.2.1 (bodyL_hd hx.2.2).2 (bodyL_hd hy.2.2).2 q2
  have ns : ¬ stS [] := fun ⟨c, t, e, _⟩ => by cases e
  obtain ⟨q5, _⟩ := body_inj hx.2.2 hy.2.2 10 ns ns (s := []) (t := []) (by rw [List.append_nil, List.append_nil]; exact q4)
  unfold eqG
  rw [q1, q3, q5]; rfl
end Go.Proofs.YtcheigpejbmaoaaDoor
