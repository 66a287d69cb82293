/- A region that draws its order, by facts, with a small frame: each operation is walked over a frame that holds nothing but what the operation looks at. -/
import Derived.Test.YtcheigpejbmaoaaDoorGA
import Derived.BigCall
namespace Go.Proofs.YtcheigpejbmaoaaDoor
open Go.RowKit

inductive FV where
  | val (v : Value)
  | prop (F : Fact)
def FV.F : FV → Fact
  | .val v => eqF v
  | .prop F => F
def favs : List FV → Nat → FV
  | f :: _, 0 => f
  | _ :: Fs, i + 1 => favs Fs i
  | [], _ => .prop fun _ _ => True
theorem fat_map : ∀ (Fs : List FV) (i : Nat), fat (Fs.map FV.F) i = (favs Fs i).F
  | [], _ => rfl
  | _ :: _, 0 => rfl
  | _ :: Fs, i + 1 => fat_map Fs i
def DepsF1 : FV → World → Option Tmp → (Act → Prop) → Act → Prop
  | .val v, _, t, k, a => k (a.put t v)
  | .prop F, w, t, k, a => ∀ v, F w v → k (a.put t v)
def DepsF (Fs : List FV) (w : World) : List (Nat × Tmp) → (Act → Prop) → Act → Prop
  | [], k, a => k a
  | x :: d, k, a => DepsF1 (favs Fs x.1) w (some x.2) (DepsF Fs w d k) a
def EndF (w : World) : List FV → List (Option Tmp) → (Act → Prop) → Act → Prop
  | f :: Fs, t :: T, k, a => DepsF1 f w t (EndF w Fs T k) a
  | _, _, k, a => k a
def opsOf (ops : Array Oper) (o : Oper) : Array Oper := match o.guard with
  | none => #[]
  | some _ => ops
def OpPostE (w : World) (t : Option Tmp) (F : Fact) : Exit → Act → World → Prop
  | .normal, a', w' => a'.defers = [] ∧ Ext w w' ∧ ∃ v, F w' v ∧ ∀ d, t = some d → a'.tmps[d]? = some v
  | _, _, _ => False
theorem OpPostE.some {a' : Act} {w w' : World} {d : Tmp} {F : Fact} (v : Value) (hd : a'.defers = []) (hv : nth a'.tmps.toList d = Option.some v) (hx : Ext w w') (hF : F w' v) : OpPostE w (Option.some d) F .normal a' w' :=
  ⟨hd, hx, v, hF, fun _ h => by injection h with h; subst h; rw [nth_eq] at hv; rw [← hv, Array.getElem?_toList]⟩
def FromM (P : Program) (ops : Array Oper) (Q : Exit → Act → World → Prop) (a0 b0 : Act) (w0 : World) (T0 : List (Option Tmp)) : List Oper → List (List (Nat × Tmp)) → List (Option Tmp) → List FV → Prop
  | o :: l, d :: D, t :: T, Fs => ∃ f : FV, Mono f.F ∧ (∀ w, Ext w0 w → DepsF Fs w d (fun b => wpList P (opsOf ops o) (OpPostE w t f.F) [o] b w) b0) ∧ FromM P ops Q a0 b0 w0 T0 l D T (Fs ++ [f])
  | l, _, _, Fs => ∀ w, Ext w0 w → EndF w Fs T0 (fun a => wpList P ops Q l a w) a0

section
variable {P : Program} {ops : Array Oper} {Q : Exit → Act → World → Prop} {a0 b0 : Act} {w0 : World}

theorem wanted_of (o : Oper) (tmps : Array Value) : Region.wanted o (yielded (opsOf ops o) tmps) = Region.wanted o (yielded ops tmps) := by
  unfold opsOf Region.wanted
  cases h : o.guard with
  | none => rfl
  | some g => rfl
theorem obl_transfer {o : Oper} {a b : Act} {w : World} {F : Fact} (hs : a.tmps.size = b.tmps.size) (_hbd : b.defers = [])
    (hag : execOp a.eval o = execOp b.eval o ∧ Region.wanted o (yielded ops a.tmps) = Region.wanted o (yielded ops b.tmps))
    (h : wpList P (opsOf ops o) (OpPostE w o.dst F) [o] b w) : wpList P ops (OpPost a w o.dst F) [o] a w := by
  simp only [wpList] at h ⊢
  rw [wanted_of] at h
  rw [hag.2]
  have fin : ∀ (u : Value) (w' : World), OpPostE w o.dst F .normal (b.put o.dst u) w' → OpPost a w o.dst F .normal (a.put o.dst u) w' := fun u w' hp => by
    obtain ⟨_, hx, v, hF, hv⟩ := hp
    refine ⟨put_defers _ _ _, hx, v, hF, fun d hd => ?_⟩
    have := hv d hd
    rw [hd, put_get, if_pos rfl] at this ⊢
    rw [hs]; exact this
  split
  · rename_i hw
    rw [if_pos hw] at h
    refine .inl ?_
    rcases h with h | ⟨_, _, _, hf⟩
    case inr => exact hf.elim
    unfold Oper.wp at *
    rw [hag.1]
    have nodef : ∀ (d : Deferred) (u : Value) (w' : World), OpPostE w o.dst F .normal (({ b with defers := d :: b.defers } : Act).put o.dst u) w' → False := fun d u w' hp => by
      obtain ⟨hd, _⟩ := hp
      rw [put_defers] at hd
      cases hd
    generalize (execOp b.eval o).run P w = r at *
    cases r with
    | ok n w' =>
      cases n <;> simp only [Oper.upon] at h ⊢
      case value u => exact fin u w' h
      case skip => exact fin _ w' h
      case defer d => exact (nodef d _ w' h).elim
      case enter f args =>
        refine Calls.mono h fun e w'' he => ?_
        cases e with
        | returned u => exact fin u w'' he
        | panicked c => exact he.elim
        | outgrown => obtain ⟨_, _, hf⟩ := he; exact hf.elim
      case row row args => exact Rows.mono h fun u w'' he => fin u w'' he
    | halt x w' =>
      cases x <;> simp only [Oper.upon] at h ⊢
      case panic u => exact h.elim
  · rename_i hw
    rw [if_neg hw] at h
    exact fin _ _ h

theorem put_get2 {a b : Act} (t : Option Tmp) (v : Value) {u : Tmp} (hs : a.tmps.size = b.tmps.size) (h : a.tmps[u]? = b.tmps[u]? ∨ t = some u) : (a.put t v).tmps[u]? = (b.put t v).tmps[u]? := by
  cases t with
  | none => rcases h with h | h; exact h; cases h
  | some d =>
    rw [put_get, put_get, hs]
    by_cases e : d = u
    · rw [if_pos e, if_pos e]
    · rw [if_neg e, if_neg e]
      rcases h with h | h
      · exact h
      · injection h with h; exact absurd h e
theorem DepsF.toV {Fs : List FV} {w : World} {ka kb : Act → Prop} (look : List Tmp) (hk : ∀ a b : Act, a.tmps.size = b.tmps.size → b.defers = [] → (∀ t ∈ look, a.tmps[t]? = b.tmps[t]?) → kb b → ka a) :
    ∀ (d : List (Nat × Tmp)) (a b : Act), a.tmps.size = b.tmps.size → b.defers = [] → (∀ t ∈ look, a.tmps[t]? = b.tmps[t]? ∨ ∃ x ∈ d, x.2 = t) → DepsF Fs w d kb b → DepsV (Fs.map FV.F) w d ka a
  | [], a, b, hs, hd, hl, h => hk a b hs hd (fun t ht => (hl t ht).resolve_right (fun ⟨x, hx, _⟩ => by cases hx)) h
  | x :: d, a, b, hs, hd, hl, h => by
    have step : ∀ v, DepsF Fs w d kb (b.put (some x.2) v) → DepsV (Fs.map FV.F) w d ka (a.put (some x.2) v) := fun v hv =>
      DepsF.toV look hk d _ _ (by rw [put_size, put_size, hs]) (by rw [put_defers, hd]) (fun t ht => by
        rcases hl t ht with h1 | ⟨y, hy, hyt⟩
        · exact .inl (put_get2 _ _ hs (.inl h1))
        · rcases List.mem_cons.1 hy with rfl | hy
          · exact .inl (put_get2 _ _ hs (.inr (by rw [hyt])))
          · exact .inr ⟨y, hy, hyt⟩) hv
    intro v hv
    rw [fat_map] at hv
    have h2 : DepsF1 (favs Fs x.1) w (some x.2) (DepsF Fs w d kb) b := h
    generalize favs Fs x.1 = f at h2 hv
    cases f with
    | val u =>
      have : v = u := hv
      subst this
      exact step v h2
    | prop F => exact step v (h2 v hv)
theorem EndF.toV {w : World} {k : Act → Prop} : ∀ (Fs : List FV) (T : List (Option Tmp)) (a : Act), EndF w Fs T k a → EndV w (Fs.map FV.F) T k a
  | [], _, _, h => h
  | _ :: _, [], _, h => h
  | f :: Fs, t :: T, a, h => by
    intro v hv
    refine EndF.toV Fs T _ ?_
    have h2 : DepsF1 f w t (EndF w Fs T k) a := h
    cases f with
    | val u =>
      have : v = u := hv
      subst this
      exact h2
    | prop F => exact h2 v hv

def maskL : List Bool → List Value → List Value
  | true :: B, v :: l => v :: maskL B l
  | false :: B, _ :: l => undef :: maskL B l
  | [], l => l
  | _ :: _, [] => []
theorem maskL_len : ∀ (B : List Bool) (l : List Value), (maskL B l).length = l.length
  | true :: B, _ :: l => by rw [maskL, List.length_cons, List.length_cons, maskL_len B l]
  | false :: B, _ :: l => by rw [maskL, List.length_cons, List.length_cons, maskL_len B l]
  | [], l => by rw [maskL]
  | true :: _, [] => rfl
  | false :: _, [] => rfl
theorem maskL_get : ∀ (B : List Bool) (l : List Value) (t : Nat), B.getD t true = true → (maskL B l)[t]? = l[t]?
  | true :: B, _ :: l, 0, _ => rfl
  | false :: B, _ :: l, 0, h => by cases h
  | true :: B, _ :: l, t + 1, h => by rw [maskL, List.getElem?_cons_succ, List.getElem?_cons_succ]; exact maskL_get B l t h
  | false :: B, _ :: l, t + 1, h => by rw [maskL, List.getElem?_cons_succ, List.getElem?_cons_succ]; exact maskL_get B l t h
  | [], l, _, _ => by rw [maskL]
  | true :: _, [], _, _ => rfl
  | false :: _, [], _, _ => rfl
def chkM (ops : Array Oper) (D : List (List (Nat × Tmp))) (Bm : List Bool) : Bool :=
  (List.range D.length).all fun i => match ops[i]? with
    | some o => (o.looksAt ops).all fun t => Bm.getD t true || (D.getD i []).any fun x => x.2 == t
    | none => true
def noSel (ops : Array Oper) : Bool := (List.range ops.size).all fun i => match ops[i]? with
  | some o => !isSel o.op
  | none => true

theorem FromM.toFrom {T0 : List (Option Tmp)} (hs : a0.tmps.size = b0.tmps.size) (hd : b0.defers = []) (L : List Oper) (D0 : List (List (Nat × Tmp)))
    (hl : ∀ i o, i < D0.length → L[i]? = some o → (∀ cs b, o.op ≠ .select cs b) ∧ ∀ t ∈ o.looksAt ops, a0.tmps[t]? = b0.tmps[t]? ∨ ∃ x ∈ D0.getD i [], x.2 = t)
    (hT : ∀ i o, i < D0.length → L[i]? = some o → T0.getD i none = o.dst) (hTl : T0.length = D0.length) :
    ∀ (D : List (List (Nat × Tmp))) (k : Nat) (l : List Oper) (T : List (Option Tmp)) (Fs : List FV), l = L.drop k → D = D0.drop k → T = T0.drop k → FromM P ops Q a0 b0 w0 T0 l D T Fs → From P ops Q a0 w0 T0 l D T (Fs.map FV.F) := by
  intro D
  induction D with
  | nil =>
    intro k l T Fs _ _ _ h
    have h2 : ∀ w, Ext w0 w → EndF w Fs T0 (fun a => wpList P ops Q l a w) a0 := by cases l <;> exact h
    have h3 : ∀ w, Ext w0 w → EndV w (Fs.map FV.F) T0 (fun a => wpList P ops Q l a w) a0 := fun w hx => EndF.toV _ _ _ (h2 w hx)
    cases l <;> exact h3
  | cons d D ih =>
    intro k l T Fs hlk hDk hTk h
    have hk : k < D0.length := by
      rcases Nat.lt_or_ge k D0.length with h | h
      · exact h
      · rw [List.drop_eq_nil_of_le h] at hDk; cases hDk
    have hDc := hDk
    rw [List.drop_eq_getElem_cons hk] at hDc
    injection hDc with hd0 hDr
    cases l with
    | nil =>
      have h3 : ∀ w, Ext w0 w → EndV w (Fs.map FV.F) T0 (fun a => wpList P ops Q [] a w) a0 := fun w hx => EndF.toV _ _ _ (h w hx)
      exact h3
    | cons o l =>
      cases T with
      | nil =>
        exfalso
        have := congrArg List.length hTk
        rw [List.length_drop] at this
        simp at this; omega
      | cons t T =>
        obtain ⟨f, hm, hop, hrest⟩ := h
        have hkL : k < L.length := by
          rcases Nat.lt_or_ge k L.length with h | h
          · exact h
          · rw [List.drop_eq_nil_of_le h] at hlk; cases hlk
        have hlc := hlk
        rw [List.drop_eq_getElem_cons hkL] at hlc
        injection hlc with ho0 hlr
        have hkT : k < T0.length := by omega
        have hTc := hTk
        rw [List.drop_eq_getElem_cons hkT] at hTc
        injection hTc with ht0 hTr
        have hLo : L[k]? = some o := by rw [List.getElem?_eq_getElem hkL, ho0]
        obtain ⟨h1, h2⟩ := hl k o hk hLo
        have h3 := hT k o hk hLo
        rw [List.getD_eq_getElem?_getD, List.getElem?_eq_getElem hkT, Option.getD_some, ← ht0] at h3
        rw [List.getD_eq_getElem?_getD, List.getElem?_eq_getElem hk, Option.getD_some, ← hd0] at h2
        subst h3
        refine ⟨f.F, hm, fun w hx => ?_, ?_⟩
        · exact DepsF.toV (o.looksAt ops) (fun a b hs hd hag hb => obl_transfer hs hd (agree (i := 0) h1 hag) hb) d a0 b0 hs hd h2 (hop w hx)
        · have := ih (k + 1) l T (Fs ++ [f]) hlr hDr hTr hrest
          rw [List.map_append] at this
          exact this

/-- **A region that draws its order, by facts, over small frames.** Bm: the slots from outside that its operations look at. -/
theorem region_factsM {id : Nat} {l : List Oper} {L0 : List Value} {ds : List Deferred} (D : List (List (Nat × Tmp))) (T : List (Option Tmp)) (Bm : List Bool) (hm : P.follows .mixedOrders = true) (hc : chk l.toArray (Region.before l.toArray) D T = true) (hcm : chkM l.toArray D Bm = true)
    (h : FromM P l.toArray Q ⟨L0.toArray, ds⟩ ⟨(maskL Bm L0).toArray, []⟩ w0 T l D T []) : (Code.region id l.toArray true).wp P Q ⟨L0.toArray, ds⟩ w0 := by
  have C := Chk.of hc
  refine region_facts D T hm hc ?_
  have := FromM.toFrom (a0 := ⟨L0.toArray, ds⟩) (b0 := ⟨(maskL Bm L0).toArray, []⟩) (w0 := w0) (P := P) (ops := l.toArray) (Q := Q) (T0 := T) (by simp [maskL_len]) rfl l D (fun i o hi ho => ?_) (fun i o hi ho => (C.op i o (by simpa using ho)).dst hi) C.len D 0 l T [] rfl rfl rfl h
  · exact this
  · refine ⟨(C.op i o (by simpa using ho)).sel, fun t ht => ?_⟩
    unfold chkM at hcm
    rw [List.all_eq_true] at hcm
    have h1 := hcm i (List.mem_range.2 hi)
    have ho2 : l.toArray[i]? = some o := by simpa using ho
    rw [ho2] at h1
    simp only [List.all_eq_true, Bool.or_eq_true, List.any_eq_true, beq_iff_eq] at h1
    rcases h1 t ht with h2 | h2
    · left
      simp only [List.getElem?_toArray]
      exact (maskL_get Bm L0 t h2).symm
    · exact .inr h2

def setN : List Value → Nat → Value → List Value
  | _ :: l, 0, v => v :: l
  | x :: l, n + 1, v => x :: setN l n v
  | [], _, _ => []
def setO (l : List Value) : Option Tmp → Value → List Value
  | none, _ => l
  | some t, v => setN l t v
theorem setN_set : ∀ (l : List Value) (n : Nat) (v : Value), setN l n v = l.set n v
  | [], _, _ => rfl
  | _ :: _, 0, _ => rfl
  | x :: l, n + 1, v => by rw [setN, setN_set l n v]; rfl
theorem put_list (l : List Value) (ds : List Deferred) (t : Option Tmp) (v : Value) : (⟨l.toArray, ds⟩ : Act).put t v = ⟨(setO l t v).toArray, ds⟩ := by
  cases t with
  | none => rfl
  | some t => simp [Act.put, setO, setN_set]
def DepsL1 : FV → World → Option Tmp → (List Value → Prop) → List Value → Prop
  | .val v, _, t, k, l => k (setO l t v)
  | .prop F, w, t, k, l => ∀ v, F w v → k (setO l t v)
def DepsL (Fs : List FV) (w : World) : List (Nat × Tmp) → (List Value → Prop) → List Value → Prop
  | [], k, l => k l
  | x :: d, k, l => DepsL1 (favs Fs x.1) w (some x.2) (DepsL Fs w d k) l
def EndL (w : World) : List FV → List (Option Tmp) → (List Value → Prop) → List Value → Prop
  | f :: Fs, t :: T, k, l => DepsL1 f w t (EndL w Fs T k) l
  | _, _, k, l => k l
def FromL (P : Program) (ops : Array Oper) (Q : Exit → Act → World → Prop) (ds : List Deferred) (L0 B0 : List Value) (w0 : World) (T0 : List (Option Tmp)) : List Oper → List (List (Nat × Tmp)) → List (Option Tmp) → List FV → Prop
  | o :: l, d :: D, t :: T, Fs => ∃ f : FV, Mono f.F ∧ (∀ w, Ext w0 w → DepsL Fs w d (fun b => wpList P (opsOf ops o) (OpPostE w t f.F) [o] ⟨b.toArray, []⟩ w) B0) ∧ FromL P ops Q ds L0 B0 w0 T0 l D T (Fs ++ [f])
  | l, _, _, Fs => ∀ w, Ext w0 w → EndL w Fs T0 (fun a => wpList P ops Q l ⟨a.toArray, ds⟩ w) L0
section
variable {ds : List Deferred} {L0 B0 : List Value}
theorem DepsL.toF {Fs : List FV} {w : World} {k : Act → Prop} : ∀ (d : List (Nat × Tmp)) (l : List Value), DepsL Fs w d (fun b => k ⟨b.toArray, ds⟩) l → DepsF Fs w d k ⟨l.toArray, ds⟩
  | [], _, h => h
  | x :: d, l, h => by
    have h2 : DepsL1 (favs Fs x.1) w (some x.2) (DepsL Fs w d (fun b => k ⟨b.toArray, ds⟩)) l := h
    show DepsF1 (favs Fs x.1) w (some x.2) (DepsF Fs w d k) ⟨l.toArray, ds⟩
    cases hf : favs Fs x.1 with
    | val u =>
      rw [hf] at h2
      show DepsF Fs w d k _
      rw [put_list]; exact DepsL.toF d _ h2
    | prop F =>
      rw [hf] at h2
      intro v hv
      rw [put_list]; exact DepsL.toF d _ (h2 v hv)
theorem EndL.toF {w : World} {k : Act → Prop} : ∀ (Fs : List FV) (T : List (Option Tmp)) (l : List Value), EndL w Fs T (fun b => k ⟨b.toArray, ds⟩) l → EndF w Fs T k ⟨l.toArray, ds⟩
  | [], _, _, h => h
  | _ :: _, [], _, h => h
  | f :: Fs, t :: T, l, h => by
    have h2 : DepsL1 f w t (EndL w Fs T (fun b => k ⟨b.toArray, ds⟩)) l := h
    show DepsF1 f w t (EndF w Fs T k) ⟨l.toArray, ds⟩
    cases f with
    | val u =>
      show EndF w Fs T k _
      rw [put_list]; exact EndL.toF Fs T _ h2
    | prop F =>
      intro v hv
      rw [put_list]; exact EndL.toF Fs T _ (h2 v hv)
theorem FromL.toM {T0 : List (Option Tmp)} : ∀ (l : List Oper) (D : List (List (Nat × Tmp))) (T : List (Option Tmp)) (Fs : List FV), FromL P ops Q ds L0 B0 w0 T0 l D T Fs → FromM P ops Q ⟨L0.toArray, ds⟩ ⟨B0.toArray, []⟩ w0 T0 l D T Fs
  | [], _, _, _, h => fun w hx => EndL.toF _ _ _ (h w hx)
  | _ :: _, [], _, _, h => fun w hx => EndL.toF _ _ _ (h w hx)
  | _ :: _, _ :: _, [], _, h => fun w hx => EndL.toF _ _ _ (h w hx)
  | _ :: l, _ :: D, _ :: T, _, ⟨f, hm, hop, hrest⟩ => ⟨f, hm, fun w hx => DepsL.toF _ _ (hop w hx), FromL.toM l D T _ hrest⟩
theorem region_factsL {id : Nat} {l : List Oper} (D : List (List (Nat × Tmp))) (T : List (Option Tmp)) (Bm : List Bool) (hm : P.follows .mixedOrders = true) (hc : chk l.toArray (Region.before l.toArray) D T = true) (hcm : chkM l.toArray D Bm = true)
    (h : FromL P l.toArray Q ds L0 (maskL Bm L0) w0 T l D T []) : (Code.region id l.toArray true).wp P Q ⟨L0.toArray, ds⟩ w0 :=
  region_factsM D T Bm hm hc hcm (FromL.toM _ _ _ _ h)
theorem FromM.fin {T0 : List (Option Tmp)} {l : List Oper} {T : List (Option Tmp)} {Fs : List FV} (h : ∀ w, Ext w0 w → EndL w Fs T0 (fun a => wpList P ops Q l ⟨a.toArray, ds⟩ w) L0) : FromL P ops Q ds L0 B0 w0 T0 l [] T Fs := by
  cases l <;> exact h
theorem FromM.step {T0 : List (Option Tmp)} {o : Oper} {l : List Oper} {d : List (Nat × Tmp)} {D : List (List (Nat × Tmp))} {t : Option Tmp} {T : List (Option Tmp)} {Fs : List FV} (F : Fact) (hM : Mono F)
    (hop : ∀ w, Ext w0 w → DepsL Fs w d (fun b => wpList P (opsOf ops o) (OpPostE w t F) [o] ⟨b.toArray, []⟩ w) B0) (hrest : FromL P ops Q ds L0 B0 w0 T0 l D T (Fs ++ [.prop F])) : FromL P ops Q ds L0 B0 w0 T0 (o :: l) (d :: D) (t :: T) Fs := ⟨.prop F, hM, hop, hrest⟩
theorem FromM.eq {T0 : List (Option Tmp)} {o : Oper} {l : List Oper} {d : List (Nat × Tmp)} {D : List (List (Nat × Tmp))} {t : Option Tmp} {T : List (Option Tmp)} {Fs : List FV} (v : Value)
    (hop : ∀ w, Ext w0 w → DepsL Fs w d (fun b => wpList P (opsOf ops o) (OpPostE w t (eqF v)) [o] ⟨b.toArray, []⟩ w) B0) (hrest : FromL P ops Q ds L0 B0 w0 T0 l D T (Fs ++ [.val v])) : FromL P ops Q ds L0 B0 w0 T0 (o :: l) (d :: D) (t :: T) Fs :=
  ⟨.val v, fun _ _ _ _ h => h, hop, hrest⟩
end

def evO (l : List Value) : Operand → Option Value
  | .tmp t => nth l t
  | .const v => some v
  | _ => none
def evOs (l : List Value) : List Operand → Option (List Value)
  | [] => some []
  | x :: xs => match evO l x, evOs l xs with
    | some v, some vs => some (v :: vs)
    | _, _ => none
theorem evO_eval {a : Act} {x : Operand} {v : Value} (h : evO a.tmps.toList x = some v) : a.eval x = v := by
  cases x with
  | tmp t =>
    have h2 : nth a.tmps.toList t = some v := h
    rw [nth_eq, Array.getElem?_toList] at h2
    simp only [Act.eval, Array.getD_eq_getD_getElem?, h2, Option.getD_some]
  | const u => have : u = v := by simpa [evO] using h
               subst this; rfl
  | global g => cases h
  | func f => cases h
theorem evOs_eval {a : Act} : ∀ {xs : List Operand} {vs : List Value}, evOs a.tmps.toList xs = some vs → xs.map a.eval = vs
  | [], _, h => by have := (Option.some.inj h).symm; subst this; rfl
  | x :: xs, vs, h => by
    unfold evOs at h
    cases h1 : evO a.tmps.toList x with
    | none => rw [h1] at h; simp at h
    | some v =>
      cases h2 : evOs a.tmps.toList xs with
      | none => rw [h1, h2] at h; simp at h
      | some us =>
        rw [h1, h2] at h
        have := (Option.some.inj h).symm
        subst this
        rw [List.map_cons, evO_eval h1, evOs_eval h2]
/-- A call of a Go function by its contract. -/
theorem op_call {o : Oper} {b : Act} {w : World} {d : Tmp} {F : Fact} {R : Ending → World → Prop} (f : FuncId) (xs : List Operand) (tys : Array TypeId) (vals : List Value) (v0 : Value)
    (hgd : o.guard = none) (hdst : o.dst = some d) (ho : o.op = .call { callee := .value (.func f), args := xs.toArray, argTypes := tys }) (hv : evOs b.tmps.toList xs = some vals) (hd : nth b.tmps.toList d = some v0) (hbd : b.defers = [])
    (hcall : ∀ args w, (callFunc f args).run P w = .ok (.enter f args) w) (hc : Calls P f vals.toArray w R) (hR : ∀ e w', R e w' → ∃ v, e = .returned v ∧ Ext w w' ∧ F w' v) : wpList P ops (OpPostE w (some d) F) [o] b w := by
  refine wpList_plain hgd fun K hK => ?_
  have he : execOp b.eval o = callFunc f vals.toArray := by
    unfold execOp
    simp only [ho]
    have hargs : xs.toArray.map b.eval = vals.toArray := by rw [List.map_toArray, evOs_eval hv]
    show (resolve b.eval _ o.type >>= fun d => invoke d.target d.args) = _
    unfold resolve
    simp only [hargs]
    show callFunc f (#[] ++ vals.toArray ++ #[]) = _
    simp
  unfold Oper.wp
  rw [he, hcall]
  refine Calls.mono hc fun e w' hr => ?_
  obtain ⟨v, rfl, hx, hF⟩ := hR e w' hr
  refine hK _ _ ?_
  refine ⟨by rw [put_defers, hbd], hx, v, hF, fun d' h => ?_⟩
  injection h with h
  subst h
  rw [hdst, put_get, if_pos rfl, if_pos]
  rw [nth_eq] at hd
  have := (List.getElem?_eq_some_iff.1 hd).1
  simpa using this
end
end Go.Proofs.YtcheigpejbmaoaaDoor
