/- Plain: every well-formed expression is read back from its text. -/
import Derived.Test.YtcheigpejbmaoaaDoorPj1
namespace Go.Proofs.YtcheigpejbmaoaaDoor
open Go.RowKit
theorem Good.prim {t : List UInt8} {x : E} (h : ∀ s, fol 9 s → PR 9 (t ++ s) (x, s)) : Good 9 t x := fun s hs z hz => by rw [LR.flat_eq (.inr (Nat.le_refl 9)) hz]; exact h s hs
theorem Good.unary {t : List UInt8} {x : E} (h : ∀ s, fol 7 s → PR 7 (t ++ s) (x, s)) : Good 7 t x := fun s hs z hz => by rw [LR.flat_eq (.inl rfl) hz]; exact h s hs
theorem Good.par {op : Int} {t : List UInt8} {x : E} {q : Nat} (hq : (q : Int) = lvl op) (h : Good q t x) {r : Nat} (h1 : 1 ≤ r) (h9 : r ≤ 9) : Good r (par op (r : Int) t) x := by
  have hl := lvl_pos op
  unfold Go.Proofs.YtcheigpejbmaoaaDoor.par
  by_cases hr : lvl op < (r : Int)
  · rw [if_pos hr]
    refine Good.le h1 h9 (Nat.le_refl 9) (Good.prim fun s hs => ?_)
    have g1 : Good 1 t x := h.le (by decide) (by omega) (by omega)
    obtain ⟨N, hN⟩ := g1.one (fol1 (c := 41) (by decide) s)
    refine ⟨N + 1, fun n hn => ?_⟩
    obtain ⟨m, rfl, hm⟩ := pos_succ hn
    have e : ((⟨#[40]⟩ : ByteArray).data.toList ++ (t ++ (⟨#[41]⟩ : ByteArray).data.toList)) ++ s = 40 :: (t ++ 41 :: s) := by simp
    rw [e, ps, if_neg (by decide), if_neg (by decide), if_pos (by rfl)]
    show (ps m 1 (t ++ 41 :: s)).bind _ = _
    rw [hN m hm]; rfl
  · rw [if_neg hr]
    exact h.le h1 (by omega) (by omega)
theorem la_ok (s : List UInt8) (hs : fol 1 s) (hc : [44, 32].isPrefixOf s = false) : ∀ (x : E) (l : List E), (∀ y ∈ x :: l, Good 1 (txB y) (nrm y)) → AR (txB x ++ (comF false (l.map txB) ++ s)) (nrm x :: l.map nrm, s)
  | x, [], h => by
    obtain ⟨N, hN⟩ := (h x (List.mem_cons_self ..)).one hs
    refine ⟨N + 1, fun n hn => ?_⟩
    obtain ⟨m, rfl, hm⟩ := pos_succ hn
    show la (m + 1) (txB x ++ s) = _
    rw [la, hN m hm]
    show (if [44, 32].isPrefixOf s = true then _ else some ([nrm x], s)) = _
    rw [if_neg (by rw [hc]; decide)]; rfl
  | x, y :: l, h => by
    obtain ⟨M, hM⟩ := la_ok s hs hc y l (fun u hu => h u (List.mem_cons_of_mem _ hu))
    have e : comF false ((y :: l).map txB) ++ s = 44 :: 32 :: (txB y ++ (comF false (l.map txB) ++ s)) := by simp [comF]
    obtain ⟨N, hN⟩ := (h x (List.mem_cons_self ..)).one (fol1 (c := 44) (by decide) (32 :: (txB y ++ (comF false (l.map txB) ++ s))))
    refine ⟨max N M + 1, fun n hn => ?_⟩
    obtain ⟨m, rfl, hm⟩ := pos_succ hn
    rw [e, la, hN m (by omega)]
    simp only [Option.bind_some]
    rw [if_pos (by rfl)]
    show (la m (txB y ++ (comF false (l.map txB) ++ s))).bind _ = _
    rw [hM m (by omega)]; rfl
theorem ps_word (m : Nat) (w s : List UInt8) (hw : ∃ c t, w = c :: t ∧ dgt c = false ∧ c ≠ 40 ∧ c ≠ 91) (hall : ∀ c ∈ w, nb c = true) (hs : ∀ c t, s = c :: t → nb c = false) :
    ps (m + 1) 9 (w ++ s) = (if w = [116, 114, 117, 101] then some (mkE 3 0 nil0 [], s)
      else if w = [102, 97, 108, 115, 101] then some (mkE 4 0 nil0 [], s)
      else if w = [110, 111, 116] then none
      else if w = [104, 97, 115, 104] then
        (la m ((s.tail.dropWhile dgt).drop 2)).bind fun z => if z.2.head? = some 41 then some (mkE 6 (numV (s.tail.takeWhile dgt)) nil0 z.1, z.2.tail) else none
      else if s.head? = some 40 then
        if s.tail.head? = some 41 then some (mkE 5 0 ⟨w.toArray⟩ [], s.tail.tail)
        else (la m s.tail).bind fun z => if z.2.head? = some 41 then some (mkE 5 0 ⟨w.toArray⟩ z.1, z.2.tail) else none
      else some (mkE 2 0 ⟨w.toArray⟩ [], s)) := by
  obtain ⟨t1, t2⟩ := takeW w s hall hs
  obtain ⟨c, t, e, h1, h2, h3⟩ := hw
  have hc : nb c = true := hall c (by rw [e]; exact List.mem_cons_self ..)
  have hh : (w ++ s).head? = some c := by rw [e]; rfl
  rw [ps, if_neg (by decide), if_neg (by decide), hh, if_neg (by simpa using h2), if_neg (by simpa using h3), if_neg (by simp [h1]), if_pos (by simp [hc]), t1, t2]
theorem Good.num (v : Nat) : Good 9 (Lib.decDigits v) (mkE 1 v nil0 []) := Good.prim fun s hs => ⟨1, fun n hn => by
  obtain ⟨m, rfl, _⟩ := pos_succ (N := 0) hn
  obtain ⟨c, t, e, hd⟩ := dec_ne v
  obtain ⟨t1, t2⟩ := takeW (p := dgt) (Lib.decDigits v) s (dec_dig v) (fun d u hu => by
    have := (hs.hd d u hu).1
    cases hq : dgt d
    · rfl
    · rw [dgt_nb hq] at this; cases this)
  have hh : (Lib.decDigits v ++ s).head? = some c := by rw [e]; rfl
  have n1 : c ≠ 40 := fun q => by rw [q] at hd; revert hd; decide
  have n2 : c ≠ 91 := fun q => by rw [q] at hd; revert hd; decide
  rw [ps, if_neg (by decide), if_neg (by decide), hh, if_neg (by simpa using n1), if_neg (by simpa using n2), if_pos (by simp [hd]), t1, t2, numV_dec]⟩
/-- What a name is, of bytes. -/
structure NmW (w : List UInt8) : Prop where
  hd : ∃ c t, w = c :: t ∧ dgt c = false ∧ c ≠ 40 ∧ c ≠ 91
  all : ∀ c ∈ w, nb c = true
  kw : w ≠ [116, 114, 117, 101] ∧ w ≠ [102, 97, 108, 115, 101] ∧ w ≠ [110, 111, 116] ∧ w ≠ [104, 97, 115, 104]
theorem nameOk_all {n : ByteArray} (h : nameOk n = true) : ∀ c ∈ n.data.toList, nb c = true := by
  unfold nameOk at h
  simp only [Bool.and_eq_true] at h
  obtain ⟨⟨_, h4⟩, _⟩ := h
  intro c hc
  obtain ⟨i, hi, rfl⟩ := List.mem_iff_getElem.1 hc
  have := List.all_eq_true.1 h4 i (by rw [List.mem_range, Lib.size_eq]; exact hi)
  unfold byteAt at this
  rw [List.getD_eq_getElem?_getD, List.getElem?_eq_getElem hi] at this
  exact this
theorem nameOk_kw {n : ByteArray} (h : nameOk n = true) {k : ByteArray} (hk : k ∈ kwL) : n.data.toList ≠ k.data.toList := by
  intro e
  unfold nameOk at h
  simp only [Bool.and_eq_true] at h
  have h5 := h.2
  rw [Bool.not_eq_true', List.any_eq_false] at h5
  apply h5 k hk
  have : n = k := by rw [← Lib.mk_data n, ← Lib.mk_data k, e]
  rw [this]; simp [strEq]
theorem nameOk_hd {n : ByteArray} (h : nameOk n = true) : ∃ c t, n.data.toList = c :: t ∧ letB (c.toNat : Int) = true := by
  unfold nameOk at h
  simp only [Bool.and_eq_true, decide_eq_true_eq] at h
  obtain ⟨⟨⟨⟨h1, _⟩, h3⟩, _⟩, _⟩ := h
  rw [Lib.size_eq] at h1
  unfold byteAt at h3
  cases hn : n.data.toList with
  | nil => rw [hn] at h1; exact absurd h1 (by decide)
  | cons c t => rw [hn] at h3; exact ⟨c, t, rfl, h3⟩
theorem NmW.of {n : ByteArray} (h : nameOk n = true) : NmW n.data.toList := by
  refine ⟨?_, nameOk_all h, nameOk_kw h (k := ⟨#[116, 114, 117, 101]⟩) (by simp [kwL]), nameOk_kw h (k := ⟨#[102, 97, 108, 115, 101]⟩) (by simp [kwL]), nameOk_kw h (k := ⟨#[110, 111, 116]⟩) (by simp [kwL]), nameOk_kw h (k := ⟨#[104, 97, 115, 104]⟩) (by simp [kwL])⟩
  obtain ⟨c, t, e, hl⟩ := nameOk_hd h
  unfold letB at hl
  simp only [Bool.and_eq_true, decide_eq_true_eq] at hl
  refine ⟨c, t, e, ?_, ?_, ?_⟩
  · unfold dgt digB
    rw [Bool.and_eq_false_iff]
    exact .inr (decide_eq_false (by omega))
  · rintro rfl; revert hl; decide
  · rintro rfl; revert hl; decide
theorem Good.name {n : ByteArray} (h : nameOk n = true) : Good 9 n.data.toList (mkE 2 0 n []) := Good.prim fun s hs => ⟨1, fun k hk => by
  obtain ⟨m, rfl, _⟩ := pos_succ (N := 0) hk
  have W := NmW.of h
  rw [ps_word m _ s W.hd W.all (fun c t e => (hs.hd c t e).1), if_neg W.kw.1, if_neg W.kw.2.1, if_neg W.kw.2.2.1, if_neg W.kw.2.2.2, if_neg (fun e => by
    cases s with
    | nil => cases e
    | cons c t => exact (hs.hd c t rfl).2 (by simpa using e)), Lib.mk_data]⟩
theorem Good.tt : Good 9 [116, 114, 117, 101] (mkE 3 0 nil0 []) := Good.prim fun s hs => ⟨1, fun k hk => by
  obtain ⟨m, rfl, _⟩ := pos_succ (N := 0) hk
  rw [ps_word m _ s ⟨116, _, rfl, by decide⟩ (by decide) (fun c t e => (hs.hd c t e).1), if_pos (by rfl)]⟩
theorem Good.ff : Good 9 [102, 97, 108, 115, 101] (mkE 4 0 nil0 []) := Good.prim fun s hs => ⟨1, fun k hk => by
  obtain ⟨m, rfl, _⟩ := pos_succ (N := 0) hk
  rw [ps_word m _ s ⟨102, _, rfl, by decide⟩ (by decide) (fun c t e => (hs.hd c t e).1), if_neg (by decide), if_pos (by rfl)]⟩
theorem com_cons (x : E) (l : List E) (s : List UInt8) : comF true ((x :: l).map txB) ++ s = txB x ++ (comF false (l.map txB) ++ s) := by simp [comF]
theorem Good.list (l : List E) (hl : l ≠ []) (h : ∀ x ∈ l, Good 1 (txB x) (nrm x)) : Good 9 (91 :: (comF true (l.map txB) ++ [93])) (mkE 7 0 nil0 (l.map nrm)) := Good.prim fun s _ => by
  cases l with
  | nil => exact absurd rfl hl
  | cons x l =>
    obtain ⟨N, hN⟩ := la_ok (93 :: s) (fol1 (by decide) s) rfl x l h
    refine ⟨N + 1, fun n hn => ?_⟩
    obtain ⟨m, rfl, hm⟩ := pos_succ hn
    have e : (91 :: (comF true ((x :: l).map txB) ++ [93])) ++ s = 91 :: (txB x ++ (comF false (l.map txB) ++ 93 :: s)) := by simp [comF]
    rw [e, ps, if_neg (by decide), if_neg (by decide), if_neg (by simp), if_pos (by rfl)]
    show (la m (txB x ++ (comF false (l.map txB) ++ 93 :: s))).bind _ = _
    rw [hN m hm]; rfl
theorem Good.call {n : ByteArray} (h : nameOk n = true) (l : List E) (hl : ∀ x ∈ l, Good 1 (txB x) (nrm x)) (hd : ∀ x l', l = x :: l' → ∀ t, txB x ≠ 41 :: t) (hd2 : ∀ x l', l = x :: l' → txB x ≠ []) :
    Good 9 (n.data.toList ++ (40 :: (comF true (l.map txB) ++ [41]))) (mkE 5 0 n (l.map nrm)) := Good.prim fun s _ => by
  have W := NmW.of h
  cases l with
  | nil =>
    refine ⟨1, fun k hk => ?_⟩
    obtain ⟨m, rfl, _⟩ := pos_succ (N := 0) hk
    have e : (n.data.toList ++ (40 :: (comF true (([] : List E).map txB) ++ [41]))) ++ s = n.data.toList ++ (40 :: 41 :: s) := by simp [comF]
    rw [e, ps_word m _ _ W.hd W.all (fun c t e => by injection e with e1 e2; subst e1; decide), if_neg W.kw.1, if_neg W.kw.2.1, if_neg W.kw.2.2.1, if_neg W.kw.2.2.2, if_pos (by rfl), if_pos (by rfl), Lib.mk_data]; rfl
  | cons x l =>
    obtain ⟨N, hN⟩ := la_ok (41 :: s) (fol1 (by decide) s) rfl x l hl
    refine ⟨N + 1, fun k hk => ?_⟩
    obtain ⟨m, rfl, hm⟩ := pos_succ hk
    have e : (n.data.toList ++ (40 :: (comF true ((x :: l).map txB) ++ [41]))) ++ s = n.data.toList ++ (40 :: (txB x ++ (comF false (l.map txB) ++ 41 :: s))) := by simp [comF]
    rw [e, ps_word m _ _ W.hd W.all (fun c t e => by injection e with e1 e2; subst e1; decide), if_neg W.kw.1, if_neg W.kw.2.1, if_neg W.kw.2.2.1, if_neg W.kw.2.2.2, if_pos (by rfl), if_neg (fun q => by
      cases hx : txB x with
      | nil => exact hd2 x l rfl hx
      | cons c t =>
        rw [hx] at q
        have : c = 41 := by simpa using q
        rw [this] at hx
        exact hd x l rfl t hx), Lib.mk_data]
    show (la m (txB x ++ (comF false (l.map txB) ++ 41 :: s))).bind _ = _
    rw [hN m hm]; rfl
theorem Good.hash (v : Nat) (l : List E) (hl : l ≠ []) (h : ∀ x ∈ l, Good 1 (txB x) (nrm x)) :
    Good 9 ([104, 97, 115, 104, 40] ++ (Lib.decDigits v ++ (59 :: 32 :: (comF true (l.map txB) ++ [41])))) (mkE 6 v nil0 (l.map nrm)) := Good.prim fun s _ => by
  cases l with
  | nil => exact absurd rfl hl
  | cons x l =>
    obtain ⟨N, hN⟩ := la_ok (41 :: s) (fol1 (by decide) s) rfl x l h
    refine ⟨N + 1, fun n hn => ?_⟩
    obtain ⟨m, rfl, hm⟩ := pos_succ hn
    have e : ([104, 97, 115, 104, 40] ++ (Lib.decDigits v ++ (59 :: 32 :: (comF true ((x :: l).map txB) ++ [41])))) ++ s = [104, 97, 115, 104] ++ (40 :: (Lib.decDigits v ++ (59 :: 32 :: (txB x ++ (comF false (l.map txB) ++ 41 :: s))))) := by simp [comF]
    obtain ⟨t1, t2⟩ := takeW (p := dgt) (Lib.decDigits v) (59 :: 32 :: (txB x ++ (comF false (l.map txB) ++ 41 :: s))) (dec_dig v) (fun d u hu => by injection hu with e1 e2; subst e1; decide)
    rw [e, ps_word m _ _ ⟨104, _, rfl, by decide⟩ (by decide) (fun c t e => by injection e with e1 e2; subst e1; decide), if_neg (by decide), if_neg (by decide), if_neg (by decide), if_pos (by rfl), List.tail_cons, t1, t2]
    show (la m (txB x ++ (comF false (l.map txB) ++ 41 :: s))).bind _ = _
    rw [hN m hm, numV_dec]; rfl
theorem ps9_neg (t : List UInt8) : ∀ m, ps m 9 (45 :: t) = none
  | 0 => by rw [ps]
  | m + 1 => by rw [ps, if_neg (by decide), if_neg (by decide), if_neg (by simp), if_neg (by simp), if_neg (by simp; decide), if_neg (by simp; decide)]
theorem ps8_neg (t : List UInt8) : ∀ m, ps m 8 (45 :: t) = none
  | 0 => by rw [ps]
  | m + 1 => by rw [ps, if_neg (by decide), if_pos (by decide), ps9_neg]; rfl
theorem ps9_not (t : List UInt8) : ∀ m, ps m 9 (110 :: 111 :: 116 :: 32 :: t) = none
  | 0 => by rw [ps]
  | m + 1 => by
    show ps (m + 1) 9 ([110, 111, 116] ++ (32 :: t)) = none
    rw [ps_word m _ _ ⟨110, _, rfl, by decide⟩ (by decide) (fun c t e => by injection e with e1 e2; subst e1; decide), if_neg (by decide), if_neg (by decide), if_pos (by rfl)]
theorem ps8_not (t : List UInt8) : ∀ m, ps m 8 (110 :: 111 :: 116 :: 32 :: t) = none
  | 0 => by rw [ps]
  | m + 1 => by rw [ps, if_neg (by decide), if_pos (by decide), ps9_not]; rfl
theorem Good.neg {t : List UInt8} {x : E} (h : Good 7 t x) : Good 7 (45 :: t) (mkE 9 0 nil0 [x]) := Good.unary fun s hs => by
  obtain ⟨N, hN⟩ := h s hs (x, s) (LR.flat (.inl rfl) x s)
  refine ⟨N + 1, fun n hn => ?_⟩
  obtain ⟨m, rfl, hm⟩ := pos_succ hn
  show ps (m + 1) 7 (45 :: (t ++ s)) = _
  rw [ps, if_pos (by rfl), ps8_neg]
  show (if (some (45 : UInt8)) = some 45 then (ps m 7 (t ++ s)).bind _ else _) = _
  rw [if_pos (by rfl), hN m hm]; rfl
theorem Good.not {t : List UInt8} {x : E} (h : Good 7 t x) : Good 7 (110 :: 111 :: 116 :: 32 :: t) (mkE 10 0 nil0 [x]) := Good.unary fun s hs => by
  obtain ⟨N, hN⟩ := h s hs (x, s) (LR.flat (.inl rfl) x s)
  refine ⟨N + 1, fun n hn => ?_⟩
  obtain ⟨m, rfl, hm⟩ := pos_succ hn
  show ps (m + 1) 7 (110 :: 111 :: 116 :: 32 :: (t ++ s)) = _
  rw [ps, if_pos (by rfl), ps8_not]
  show (if (some (110 : UInt8)) = some 45 then _ else if _ = true then (ps m 7 (t ++ s)).bind _ else _) = _
  rw [if_neg (by decide), if_pos (by rfl), hN m hm]; rfl
theorem fol_ix (t : List UInt8) : fol 8 (91 :: t) := ⟨fun d u e => by injection e with e1 e2; subst e1; (decide), fun op u e => by (rw [opTok_no (fun u e => by injection e with e1 e2; exact absurd e1 (by decide))] at e; cases e), fun q => absurd q (by decide), fun q => absurd q (by decide)⟩
theorem Good.index {t u : List UInt8} {x y : E} (h : Good 8 t x) (k : Good 1 u y) : Good 8 (t ++ (91 :: (u ++ [93]))) (mkE 8 0 nil0 [x, y]) := fun s _ z hz => by
  have e : (t ++ (91 :: (u ++ [93]))) ++ s = t ++ (91 :: (u ++ 93 :: s)) := by simp
  rw [e]
  refine h _ (fol_ix _) z ?_
  obtain ⟨N, hN⟩ := k.one (fol1 (c := 93) (by decide) s)
  obtain ⟨M, hM⟩ := hz
  refine ⟨max N M + 1, fun n hn => ?_⟩
  obtain ⟨m, rfl, hm⟩ := pos_succ hn
  rw [lp, if_neg (by decide), if_neg (by decide), if_pos (by rfl), if_pos (by rfl)]
  show (ps m 1 (u ++ 93 :: s)).bind _ = _
  rw [hN m (by omega)]
  exact hM m (by omega)
theorem fol_q (t : List UInt8) : fol 2 (32 :: 63 :: t) := ⟨fun d u e => by injection e with e1 e2; subst e1; (decide), fun op u e => by (rw [opTok_q] at e; cases e), fun _ e => by (simp at e), fun q => absurd q (by decide)⟩
theorem Good.cond {t u v : List UInt8} {x y z : E} (h : Good 2 t x) (k : Good 1 u y) (j : Good 1 v z) : Good 1 (t ++ (32 :: 63 :: 32 :: (u ++ (32 :: 58 :: 32 :: v)))) (mkE 20 0 nil0 [x, y, z]) := fun s hs r hr => by
  rw [LR.one_eq hs hr]
  have e : (t ++ (32 :: 63 :: 32 :: (u ++ (32 :: 58 :: 32 :: v)))) ++ s = t ++ (32 :: 63 :: 32 :: (u ++ (32 :: 58 :: 32 :: (v ++ s)))) := by simp
  rw [e]
  have h2 := h (32 :: 63 :: 32 :: (u ++ (32 :: 58 :: 32 :: (v ++ s)))) (fol_q _) (x, _) (by
    refine ⟨1, fun n hn => ?_⟩
    obtain ⟨m, rfl, _⟩ := pos_succ (N := 0) hn
    rw [lp, if_neg (by decide), if_pos (by decide), opTok_q])
  refine h2.lp (by decide) (by decide) ?_
  obtain ⟨N, hN⟩ := k.one (fol1_colon (32 :: (v ++ s)))
  obtain ⟨M, hM⟩ := j.one hs
  refine ⟨max N M + 1, fun n hn => ?_⟩
  obtain ⟨m, rfl, hm⟩ := pos_succ hn
  rw [lp, if_pos (by rfl)]
  show (if [32, 63, 32].isPrefixOf (32 :: 63 :: 32 :: (u ++ (32 :: 58 :: 32 :: (v ++ s)))) = true then (ps m 1 (u ++ (32 :: 58 :: 32 :: (v ++ s)))).bind _ else _) = _
  rw [if_pos (by rfl), hN m (by omega)]
  simp only [Option.bind_some]
  rw [if_pos (by rfl)]
  show (ps m 1 (v ++ s)).bind _ = _
  rw [hM m (by omega)]; rfl
theorem binS_hd (op : Int) (h1 : 11 ≤ op) (h2 : op ≤ 19) : ∃ t, (binS op).data.toList = 32 :: t := by
  have : op = 11 ∨ op = 12 ∨ op = 13 ∨ op = 14 ∨ op = 15 ∨ op = 16 ∨ op = 17 ∨ op = 18 ∨ op = 19 := by omega
  rcases this with rfl | rfl | rfl | rfl | rfl | rfl | rfl | rfl | rfl <;> exact ⟨_, rfl⟩
theorem Good.bin {op : Int} (h1 : 11 ≤ op) (h2 : op ≤ 19) {L : Nat} (hL : (L : Int) = lvl op) {t u : List UInt8} {x y : E} (h : Good (if L = 4 then 5 else L) t x) (k : Good (L + 1) u y) : Good L (t ++ ((binS op).data.toList ++ u)) (mkE op 0 nil0 [x, y]) := fun s hs z hz => by
  have hl : 2 ≤ L ∧ L ≤ 6 := by
    unfold lvl at hL
    rw [if_neg (by omega)] at hL
    repeat (split at hL; · omega)
    omega
  have e : (t ++ ((binS op).data.toList ++ u)) ++ s = t ++ ((binS op).data.toList ++ (u ++ s)) := by simp
  rw [e]
  have ho := opTok_bin op h1 h2 (u ++ s)
  obtain ⟨b, hb⟩ := binS_hd op h1 h2
  have F : fol L ((binS op).data.toList ++ (u ++ s)) := ⟨fun c v e => by
      rw [hb] at e; injection e with e1 e2; subst e1; (decide), fun op' v e => by
      rw [ho] at e; injection e with e; injection e with e1 e2; subst e1; omega, fun _ e => by rw [hb] at e; simp at e, fun q => absurd q (by omega)⟩
  have R : LR L x ((binS op).data.toList ++ (u ++ s)) z := by
    obtain ⟨N, hN⟩ := k s (hs.mono (Nat.le_succ _)) (y, s) (LR.stop (by omega) hs y)
    obtain ⟨M, hM⟩ := hz
    refine ⟨max N M + 1, fun n hn => ?_⟩
    obtain ⟨m, rfl, hm⟩ := pos_succ hn
    rw [lp, if_neg (by omega), if_pos hl.2, ho]
    show (if lvl op = (L : Int) then (ps m (L + 1) (u ++ s)).bind _ else _) = _
    rw [if_pos hL.symm, hN m (by omega)]
    exact hM m (by omega)
  by_cases h4 : L = 4
  · rw [if_pos h4] at h
    subst h4
    exact (h _ (F.mono (by decide)) (x, _) (LR.stop (by decide) F x)).lp (by decide) (by decide) R
  · rw [if_neg h4] at h
    exact h _ F z R
end Go.Proofs.YtcheigpejbmaoaaDoor
