/- RegH RegX MkI Cm9, merged. -/
import Derived.Test.YtgnngifnoaagjaaGA
import Derived.Test.YtgnngifnoaagjaaRegM
import Derived.Test.YtgnngifnoaagjaaTr2
import Derived.Maps.RangeWalk
import Derived.Maps.OwnSet
import Derived.Test.YtgnngifnoaagjaaCm8
/- A region that draws its order and holds one step that writes into memory that the region made (an append onto a slice of its own). -/
namespace Go.Proofs.Ytgnngifnoaagjaa
open Go.RowKit
def PostI (a : Act) (t : Option Tmp) (K : Value → World → Prop) : Exit → Act → World → Prop
  | .normal, a', w' => a'.defers = a.defers ∧ ∃ v, K v w' ∧ ∀ d, t = some d → a'.tmps[d]? = some v
  | _, _, _ => False
section
variable {P : Program} {ops : Array Oper} {Q : Exit → Act → World → Prop} {a0 : Act} {w0 : World} {B : Array Nat} {D : List (List (Nat × Tmp))} {T T0 : List (Option Tmp)}
/-- From the obligation's frame to the true one. -/
theorem step_of_oblI {i : Nat} {o : Oper} {a b : Act} {w : World} {K : Act → World → Prop} {KI : Value → World → Prop} (ho : ops[i]? = some o) (hs : a.tmps.size = b.tmps.size)
    (hag : execOp a.eval o = execOp b.eval o ∧ Region.wanted o (yielded ops a.tmps) = Region.wanted o (yielded ops b.tmps))
    (h : wpList P ops (PostI b o.dst KI) [o] b w) (hK : ∀ v w', KI v w' → K (a.put o.dst v) w') : wpOp P ops Q i K a w := by
  unfold wpOp
  simp only [ho]
  rw [hag.2]
  simp only [wpList] at h
  split
  · rename_i hw
    rw [if_pos hw] at h
    refine .inl ?_
    rcases h with h | ⟨_, _, _, hf⟩
    case inr => exact hf.elim
    unfold Oper.wp at *
    rw [hag.1]
    have fin : ∀ (u : Value) (w' : World), PostI b o.dst KI .normal (b.put o.dst u) w' → K (a.put o.dst u) w' := fun u w' hp => by
      obtain ⟨_, v, hF, hv⟩ := hp
      rw [put_val hs hv]
      exact hK v w' hF
    have nodef : ∀ (d : Deferred) (u : Value) (w' : World), PostI b o.dst KI .normal (({ b with defers := d :: b.defers } : Act).put o.dst u) w' → False := fun d u w' hp => by
      obtain ⟨hd, _⟩ := hp
      rw [put_defers] at hd
      simp at hd
    generalize (execOp b.eval o).run P w = r at *
    cases r with
    | ok n w' =>
      cases n <;> simp only [Oper.upon] at h ⊢
      case value u => exact fin u w' h
      case skip => exact fin _ w' h
      case defer d => exact (nodef d _ w' h).elim
      case enter f args =>
        refine Calls.mono h fun e w'' he => ?_
        cases e with
        | returned u => exact fin u w'' he
        | panicked c => exact he.elim
        | outgrown => obtain ⟨_, _, hf⟩ := he; exact hf.elim
      case row row args => exact Rows.mono h fun u w'' he => fin u w'' he
    | halt x w' =>
      cases x <;> simp only [Oper.upon] at h ⊢
      case panic u => exact h.elim
  · rename_i hw
    rw [if_neg hw] at h
    obtain ⟨_, v, hF, hv⟩ := h
    rw [put_val hs hv]
    exact hK v w hF

theorem Chk.headI (C : Chk ops B D T) (l : List Oper) (hl : ops = l.toArray) (Inv : (Nat → Bool) → (Nat → Value) → World → Prop)
    (hstep : ∀ i o (L : Nat → Bool) vs w, i < D.length → l[i]? = some o → L i = false → (∀ j, j < ops.size → anc B i j = true → L j = true) → (∀ k, k < ops.size → L k = true → ∀ j, j < ops.size → anc B k j = true → L j = true) → Inv L vs w →
      wpList P ops (PostI (putD vs (D.getD i []) a0) o.dst fun v w' => Inv (fun k => k == i || L k) (fun k => if k = i then v else vs k) w') [o] (putD vs (D.getD i []) a0) w)
    (hend : ∀ vs w, Inv (fun k => decide (k < D.length)) vs w → wpList P ops Q (l.drop D.length) (putT vs 0 T a0) w) :
    ∀ (fuel : Nat) (L : Array Bool) (vs : Nat → Value) (a : Act) (w : World), L.size = ops.size → cnt (fun i => L.getD i false) ops.size = fuel → Closed ops L → (∀ i, i < ops.size → D.length ≤ i → L.getD i false = false) →
      Desc ops a0 (fun i => L.getD i false) vs a → Inv (fun i => L.getD i false) vs w → wpAny P .any ops Q fuel L a w := by
  intro fuel
  induction fuel with
  | zero =>
    intro L vs a w hs hcnt hcl hsuf hd hI
    have hall := cnt_none _ hcnt
    have hDn : D.length = ops.size := by
      rcases Nat.lt_or_ge D.length ops.size with h | h
      · have h1 := hsuf _ h (Nat.le_refl _); rw [hall _ h] at h1; cases h1
      · have := C.le; omega
    refine C.tail l hl 0 ops.size L a w (by omega) (by omega) hs (fun i hi => by simp only [hi, decide_true]; exact hall i hi) ?_
    have eL : (fun i => L.getD i false) = fun k => decide (k < D.length) := funext fun k => by
      by_cases hk : k < ops.size
      · rw [hall k hk]; simp; omega
      · simp [Array.getD, hs, hk]; omega
    have := hend vs w (eL ▸ hI)
    rw [hDn] at this
    have ha : a = putT vs 0 T a0 := by
      refine Desc.ext (a0 := a0) (vs := vs) (L := fun k => decide (k < D.length)) ?_ (putT_desc C vs T 0 a0 rfl (Nat.zero_le _) ?_)
      · refine ⟨hd.defers, hd.size, fun i o d ho hli => hd.put i o d ho (hall i (Array.getElem?_eq_some_iff.1 ho).1), fun t ht => hd.old t (fun i o ho _ => ht i o ho ?_)⟩
        have := (Array.getElem?_eq_some_iff.1 ho).1
        simp; omega
      · simpa using Desc.start (ops := ops) (a0 := a0) vs
    rw [ha]
    exact this
  | succ fuel ih =>
    intro L vs a w hs hcnt hcl hsuf hd hI
    by_cases hall : ∀ i, i < D.length → L.getD i false = true
    · have hL : ∀ i, i < ops.size → L.getD i false = decide (i < D.length) := fun i hi => by
        by_cases h : i < D.length
        · simp [h, hall i h]
        · simp [h, hsuf i hi (by omega)]
      have hfuel : D.length + (fuel + 1) = ops.size := by
        rw [← hcnt]
        have key : ∀ k, D.length ≤ k → k ≤ ops.size → D.length + cnt (fun i => L.getD i false) k = k := by
          intro k
          induction k with
          | zero => intro h1 _; show D.length + 0 = 0; omega
          | succ k ihk =>
            intro h1 h2
            rw [cnt]
            by_cases hk : k < D.length
            · have e : k + 1 = D.length := by omega
              have hz : cnt (fun i => L.getD i false) k = 0 := by
                have z : ∀ j, j ≤ k → cnt (fun i => L.getD i false) j = 0 := by
                  intro j
                  induction j with
                  | zero => intro _; rfl
                  | succ j ihj => intro hj; rw [cnt, ihj (by omega)]; simp [hall j (by omega)]
                exact z k (Nat.le_refl _)
              rw [hz]; simp [hall k hk]; omega
            · have h3 : L.getD k false = false := hsuf k (by omega) (by omega)
              have := ihk (by omega) (by omega)
              rw [h3]; simp only [Bool.false_eq_true, if_false]; omega
        exact key ops.size C.le (Nat.le_refl _)
      refine C.tail l hl (fuel + 1) D.length L a w (Nat.le_refl _) hfuel hs hL ?_
      have eL : (fun i => L.getD i false) = fun k => decide (k < D.length) := funext fun k => by
        by_cases hk : k < ops.size
        · exact hL k hk
        · have := C.le
          simp [Array.getD, hs, hk]; omega
      have := hend vs w (eL ▸ hI)
      have ha : a = putT vs 0 T a0 := by
        refine Desc.ext (a0 := a0) (vs := vs) (L := fun k => decide (k < D.length)) ?_ (putT_desc C vs T 0 a0 rfl (Nat.zero_le _) ?_)
        · refine ⟨hd.defers, hd.size, fun i o d ho hli => hd.put i o d ho (by have := (Array.getElem?_eq_some_iff.1 ho).1; simp only [hL i this]; exact hli), fun t ht => hd.old t (fun i o ho hli => ht i o ho ?_)⟩
          have := (Array.getElem?_eq_some_iff.1 ho).1
          simpa only [hL i this] using hli
        · simpa using Desc.start (ops := ops) (a0 := a0) vs
      rw [ha]
      exact this
    · have hex : ∃ i, i < D.length ∧ L.getD i false = false := by
        rcases Classical.em (∃ i, i < D.length ∧ L.getD i false = false) with h | h
        · exact h
        · refine absurd (fun i hi => ?_) hall
          cases hq : L.getD i false
          · exact absurd ⟨i, hi, hq⟩ h
          · rfl
      obtain ⟨j0, hj0, hlj0⟩ := hex
      refine ⟨fun hr => absurd hr (C.some_ready hs j0 (by have := C.le; omega) hlj0), fun i hr => ?_⟩
      obtain ⟨h0, o, ho, hedges⟩ := mem_ready.1 hr
      have hin : i < ops.size := (Array.getElem?_eq_some_iff.1 ho).1
      have hli : L.getD i false = false := by rw [← getD_tf hs hin]; exact h0
      have Ci := C.op i o ho
      have hiD : i < D.length := by
        rcases Nat.lt_or_ge i D.length with h | h
        · exact h
        · have := C.ready_anc hcl hr (j := j0) (by have := C.le; omega) (Ci.all (by omega) j0 (by omega))
          rw [hlj0] at this; cases this
      have hlo : l[i]? = some o := by rw [hl] at ho; simpa using ho
      have hobl := hstep i o (fun j => L.getD j false) vs w hiD hlo hli (fun j hj ha => C.ready_anc hcl hr hj ha) (fun k hk hlk j hj ha => C.closed_anc hcl k hk hlk j hj ha) hI
      have hag : ∀ t ∈ o.looksAt ops, a.tmps[t]? = (putD vs (D.getD i []) a0).tmps[t]? := fun t ht => by
        by_cases hwr : ∃ k ok, ops[k]? = some ok ∧ ok.dst = some t ∧ k ≠ i
        · obtain ⟨k, ok, hk, hkd, hki⟩ := hwr
          have hks : k < ops.size := (Array.getElem?_eq_some_iff.1 hk).1
          have huniq : ∀ x ∈ D.getD i [], x.2 = t → x.1 = k := fun x hxm hxt => by
            obtain ⟨h1, h2⟩ := Ci.deps hiD x hxm
            cases hq : ops[x.1]? with
            | none => rw [hq] at h2; cases h2
            | some ox =>
              rw [hq, Option.bind_some, hxt] at h2
              have hxs : x.1 < ops.size := (Array.getElem?_eq_some_iff.1 hq).1
              have hxi := C.anc_lt i hin x.1 hxs h1
              rcases Classical.em (x.1 = k) with e | e
              · exact e
              · exact absurd h2 (((C.op x.1 ox hq).apart (by omega) k ok t hk hkd (fun e' => e e'.symm)).1)
          rcases (Ci.apart hiD k ok t hk hkd hki).2 ht with ⟨x, hxm, hxk⟩ | hka
          · obtain ⟨h1, h2⟩ := Ci.deps hiD x hxm
            subst hxk
            rw [hk, Option.bind_some, hkd] at h2
            injection h2 with h2
            have hlk := C.ready_anc hcl hr hks h1
            by_cases hts : t < a0.tmps.size
            · rw [hd.put x.1 ok t hk hlk hkd hts, putD_new vs t x.1 _ _ hts ⟨x, hxm, rfl, h2.symm⟩ huniq]
            · rw [Array.getElem?_eq_none (by rw [hd.size]; exact Nat.le_of_not_lt hts), Array.getElem?_eq_none (by rw [putD_size]; exact Nat.le_of_not_lt hts)]
          · have hlk : L.getD k false = false := by
              cases hq : L.getD k false
              · rfl
              · have := C.closed_anc hcl k hks hq i hin hka
                rw [hli] at this; cases this
            rw [putD_old vs t _ _ (fun x hxm hxt => ?_)]
            · refine hd.old t (fun k' ok' hk' hlk' hkd' => ?_)
              have hne : k' ≠ k := fun e => by subst e; rw [hlk] at hlk'; cases hlk'
              have hk's : k' < ops.size := (Array.getElem?_eq_some_iff.1 hk').1
              have hk'D : k' < D.length := by
                rcases Nat.lt_or_ge k' D.length with h | h
                · exact h
                · have := hsuf k' hk's h; rw [this] at hlk'; cases hlk'
              exact ((C.op k' ok' hk').apart hk'D k ok t hk hkd (fun e => hne e.symm)).1 hkd'
            · have hxk := huniq x hxm hxt
              obtain ⟨h1, _⟩ := Ci.deps hiD x hxm
              rw [hxk] at h1
              have l1 := C.anc_lt i hin k hks h1
              have l2 := C.anc_lt k hks i hin hka
              omega
        · have hno : ∀ k ok, ops[k]? = some ok → L.getD k false = true → ok.dst ≠ some t := fun k ok hk hlk hkd => by
            by_cases hki : k = i
            · subst hki; rw [hli] at hlk; cases hlk
            · exact hwr ⟨k, ok, hk, hkd, hki⟩
          rw [hd.old t hno, putD_old vs t _ _ (fun x hxm hxt => ?_)]
          obtain ⟨h1, h2⟩ := Ci.deps hiD x hxm
          cases hq : ops[x.1]? with
          | none => rw [hq] at h2; cases h2
          | some ox =>
            rw [hq, Option.bind_some, hxt] at h2
            have hxs : x.1 < ops.size := (Array.getElem?_eq_some_iff.1 hq).1
            have hxi := C.anc_lt i hin x.1 hxs h1
            exact hwr ⟨x.1, ox, hq, h2, by omega⟩
      refine step_of_oblI (b := putD vs (D.getD i []) a0) ho (by rw [hd.size, putD_size]) (agree (i := i) Ci.sel hag) hobl (fun v w' hF => ?_)
      have hset := getD_set L ops.size i
      refine ih (L.setIfInBounds i true) (fun k => if k = i then v else vs k) (a.put o.dst v) w' (by simpa using hs) ?_ (hcl.step hs hr) (fun k hk hDk => ?_) ?_ ?_
      · have := cnt_set (L := fun j => L.getD j false) (L' := fun j => (L.setIfInBounds i true).getD j false) (i := i) hli (by simp only [hset i hs hin]; simp) (fun j hj => by simp only [hset j hs hin]; simp [hj]) ops.size hin
        omega
      · rw [hset k hs hin, hsuf k hk hDk]; simp; omega
      · have hst := hd.step (i := i) ho hli (fun k ok d hk hdk hne => (Ci.apart hiD k ok d hk hdk hne).1) v
        have e : (fun j => (L.setIfInBounds i true).getD j false) = (fun k => k == i || L.getD k false) := funext fun j => hset j hs hin
        rw [e]; exact hst
      · have e : (fun j => (L.setIfInBounds i true).getD j false) = (fun k => k == i || L.getD k false) := funext fun j => hset j hs hin
        rw [e]; exact hF

theorem PostI.of {a : Act} {t : Option Tmp} {K K' : Value → World → Prop} (h : ∀ v w', K v w' → K' v w') {a' : Act} {w' : World} (hp : PostI a t K .normal a' w') : PostI a t K' .normal a' w' :=
  ⟨hp.1, hp.2.choose, h _ _ hp.2.choose_spec.1, hp.2.choose_spec.2⟩
theorem PostI.mono1 {o : Oper} {a b : Act} {t : Option Tmp} {w : World} {K K' : Value → World → Prop} (hK : ∀ v w', K v w' → K' v w') (h : wpList P ops (PostI b t K) [o] a w) : wpList P ops (PostI b t K') [o] a w := by
  simp only [wpList] at h ⊢
  split
  · rename_i hw
    rw [if_pos hw] at h
    rcases h with h | ⟨_, _, _, hf⟩
    case inr => exact hf.elim
    refine .inl ?_
    unfold Oper.wp at *
    generalize (execOp a.eval o).run P w = r at *
    cases r with
    | ok n w' =>
      cases n <;> simp only [Oper.upon] at h ⊢
      case value u => exact PostI.of hK h
      case skip => exact PostI.of hK h
      case defer d => exact PostI.of hK h
      case enter f args =>
        refine Calls.mono h fun e w'' he => ?_
        cases e with
        | returned u => exact PostI.of hK he
        | panicked c => exact he.elim
        | outgrown => obtain ⟨_, _, hf⟩ := he; exact hf.elim
      case row row args => exact Rows.mono h fun u w'' he => PostI.of hK he
    | halt x w' =>
      cases x <;> simp only [Oper.upon] at h ⊢
      case panic u => exact h.elim
  · rename_i hw
    rw [if_neg hw] at h
    exact PostI.of hK h
theorem PostI.some {a a' : Act} {w' : World} {d : Tmp} {K : Value → World → Prop} (v : Value) (hd : a'.defers = a.defers) (hv : nth a'.tmps.toList d = Option.some v) (hK : K v w') : PostI a (Option.some d) K .normal a' w' :=
  ⟨hd, v, hK, fun _ h => by injection h with h; subst h; rw [nth_eq] at hv; rw [← hv, Array.getElem?_toList]⟩

def valF (W : Value → Prop) : Fact := fun _ v => W v
/-- Obligations of a region in which operation h writes into memory that the region made. Fs: facts as they are before h; Ws: what is left of them behind h. -/
def FromH (P : Program) (ops : Array Oper) (Q : Exit → Act → World → Prop) (a0 : Act) (w0 : World) (T0 : List (Option Tmp)) (B : Array Nat) (h : Nat) : Nat → List Oper → List (List (Nat × Tmp)) → List (Option Tmp) → List Fact → List Fact → Prop
  | i, o :: l, d :: D, t :: T, Fs, Ws =>
    (i = h ∧ ∃ F, Mono F ∧ (∀ w, Ext w0 w → DepsV Fs w d (fun a => wpList P ops (PostI a t fun v w' => Ext w0 w' ∧ F w' v) [o] a w) a0) ∧ FromH P ops Q a0 w0 T0 B h (i + 1) l D T (Fs ++ [F]) (Ws ++ [F])) ∨
    (anc B h i = true ∧ ∃ F, ∃ W : Value → Prop, Mono F ∧ (∀ w v, F w v → W v) ∧ (∀ w, Ext w0 w → DepsV Fs w d (fun a => wpList P ops (PostI a t fun v w' => Ext w w' ∧ F w' v) [o] a w) a0) ∧ FromH P ops Q a0 w0 T0 B h (i + 1) l D T (Fs ++ [F]) (Ws ++ [valF W])) ∨
    (i ≠ h ∧ anc B h i = false ∧ ∃ W : Value → Prop, (∀ w, Ext w0 w → DepsV Ws w d (fun a => wpList P ops (PostI a t fun v w' => Ext w w' ∧ W v) [o] a w) a0) ∧ FromH P ops Q a0 w0 T0 B h (i + 1) l D T (Fs ++ [valF W]) (Ws ++ [valF W]))
  | _, l, _, _, _, Ws => ∀ w, Ext w0 w → EndV w Ws T0 (fun a => wpList P ops Q l a w) a0

/-- What an operation of FromH says. -/
def SaysH (P : Program) (ops : Array Oper) (a0 : Act) (w0 : World) (B : Array Nat) (h i : Nat) (o : Oper) (d : List (Nat × Tmp)) (t : Option Tmp) (Gs Vs : List Fact) : Prop :=
  (i = h ∧ Mono (fat Gs i) ∧ fat Vs i = fat Gs i ∧ ∀ w, Ext w0 w → DepsV (Gs.take i) w d (fun a => wpList P ops (PostI a t fun v w' => Ext w0 w' ∧ fat Gs i w' v) [o] a w) a0) ∨
  (anc B h i = true ∧ Mono (fat Gs i) ∧ (∀ w w' v, fat Gs i w v → fat Vs i w' v) ∧ (∀ w w' v, fat Vs i w v → fat Vs i w' v) ∧ ∀ w, Ext w0 w → DepsV (Gs.take i) w d (fun a => wpList P ops (PostI a t fun v w' => Ext w w' ∧ fat Gs i w' v) [o] a w) a0) ∨
  (i ≠ h ∧ anc B h i = false ∧ fat Vs i = fat Gs i ∧ (∀ w w' v, fat Gs i w v → fat Gs i w' v) ∧ ∀ w, Ext w0 w → DepsV (Vs.take i) w d (fun a => wpList P ops (PostI a t fun v w' => Ext w w' ∧ fat Gs i w' v) [o] a w) a0)

theorem fat_app (Fs : List Fact) (F : Fact) (Gs : List Fact) : fat (Fs ++ F :: Gs) Fs.length = F := by
  induction Fs with
  | nil => rfl
  | cons a Fs ih => exact ih
theorem FromH.out {h : Nat} : ∀ (l : List Oper) (D : List (List (Nat × Tmp))) (T : List (Option Tmp)) (Fs Ws : List Fact), Ws.length = Fs.length → FromH P ops Q a0 w0 T0 B h Fs.length l D T Fs Ws → D.length ≤ l.length → T.length = D.length →
    ∃ Gs Vs : List Fact, Gs.length = D.length ∧ Vs.length = D.length ∧ (∀ i, i < D.length → ∀ o, l[i]? = some o → SaysH P ops a0 w0 B h (Fs.length + i) o (D.getD i []) (T.getD i none) (Fs ++ Gs) (Ws ++ Vs)) ∧
      (∀ w, Ext w0 w → EndV w (Ws ++ Vs) T0 (fun a => wpList P ops Q (l.drop D.length) a w) a0) := by
  intro l D
  induction D generalizing l with
  | nil =>
    intro T Fs Ws hlW hF _ hT
    refine ⟨[], [], rfl, rfl, fun i hi => by simp at hi, ?_⟩
    cases l <;> simpa [FromH] using hF
  | cons d D ih =>
    intro T Fs Ws hlW hF hl hT
    cases l with
    | nil => simp at hl
    | cons o l =>
      cases T with
      | nil => simp at hT
      | cons t T =>
        have key : ∀ (F V : Fact), FromH P ops Q a0 w0 T0 B h (Fs.length + 1) l D T (Fs ++ [F]) (Ws ++ [V]) →
            (∀ Gs Vs, SaysH P ops a0 w0 B h Fs.length o d t (Fs ++ F :: Gs) (Ws ++ V :: Vs)) →
            ∃ Gs Vs : List Fact, Gs.length = (d :: D).length ∧ Vs.length = (d :: D).length ∧ (∀ i, i < (d :: D).length → ∀ o', (o :: l)[i]? = some o' → SaysH P ops a0 w0 B h (Fs.length + i) o' ((d :: D).getD i []) ((t :: T).getD i none) (Fs ++ Gs) (Ws ++ Vs)) ∧
              (∀ w, Ext w0 w → EndV w (Ws ++ Vs) T0 (fun a => wpList P ops Q ((o :: l).drop (d :: D).length) a w) a0) := fun F V hrest hsay => by
          obtain ⟨Gs, Vs, h1, h2, h3, h4⟩ := ih l T (Fs ++ [F]) (Ws ++ [V]) (by simp [hlW]) (by simpa using hrest) (by simpa using hl) (by simpa using hT)
          refine ⟨F :: Gs, V :: Vs, by simp [h1], by simp [h2], fun i hi o' ho' => ?_, fun w hx => by simpa using h4 w hx⟩
          cases i with
          | zero =>
            obtain rfl : o = o' := by simpa using ho'
            exact hsay Gs Vs
          | succ i =>
            have := h3 i (by simpa using hi) o' (by simpa using ho')
            simp only [List.length_append, List.length_singleton, List.append_assoc, List.singleton_append] at this
            rw [show Fs.length + (i + 1) = Fs.length + 1 + i from by omega]
            simpa using this
        have tk : ∀ (F : Fact) (Gs : List Fact), (Fs ++ F :: Gs).take Fs.length = Fs := fun F Gs => by simp
        have tk2 : ∀ (F : Fact) (Gs : List Fact), (Ws ++ F :: Gs).take Fs.length = Ws := fun F Gs => by rw [← hlW]; simp
        have fw : ∀ (F : Fact) (Gs : List Fact), fat (Ws ++ F :: Gs) Fs.length = F := fun F Gs => by rw [← hlW]; exact fat_app _ _ _
        rcases hF with ⟨hi, F, hm, hop, hrest⟩ | ⟨hi, F, W, hm, hFW, hop, hrest⟩ | ⟨hi, hi2, W, hop, hrest⟩
        · exact key F F hrest fun Gs Vs => .inl ⟨hi, by rw [fat_app]; exact hm, by rw [fat_app, fw], by rw [fat_app, tk]; exact hop⟩
        · exact key F (valF W) hrest fun Gs Vs => .inr (.inl ⟨hi, by rw [fat_app]; exact hm, by rw [fat_app, fw]; exact fun w _ v hh => hFW w v hh, by rw [fw]; exact fun _ _ _ hh => hh, by rw [fat_app, tk]; exact hop⟩)
        · exact key (valF W) (valF W) hrest fun Gs Vs => .inr (.inr ⟨hi, hi2, by rw [fat_app, fw], by rw [fat_app]; exact fun _ _ _ hh => hh, by rw [fat_app, tk2]; exact hop⟩)

theorem SaysH.mono {h i : Nat} {o : Oper} {d : List (Nat × Tmp)} {t : Option Tmp} {Gs Vs : List Fact} (s : SaysH P ops a0 w0 B h i o d t Gs Vs) : Mono (fat Gs i) := by
  rcases s with ⟨_, hm, _⟩ | ⟨_, hm, _⟩ | ⟨_, _, _, hm, _⟩
  · exact hm
  · exact hm
  · exact fun w w' v _ hh => hm w w' v hh

/-- **A region that draws its order, by facts, with one step h that writes into memory that the region made.** -/
theorem region_factsH {id : Nat} {l : List Oper} (h : Nat) (D : List (List (Nat × Tmp))) (T : List (Option Tmp)) (hm : P.follows .mixedOrders = true) (hc : chk l.toArray (Region.before l.toArray) D T = true) (hh : h < D.length)
    (hF : FromH P l.toArray Q a0 w0 T (Region.before l.toArray) h 0 l D T [] []) : (Code.region id l.toArray true).wp P Q a0 w0 := by
  have C := Chk.of hc
  obtain ⟨Gs, Vs, hlen, hlenV, hS0, hend⟩ := FromH.out l D T [] [] rfl hF (by simpa using C.le) C.len
  have hS : ∀ i, i < D.length → ∀ o, l[i]? = some o → SaysH P l.toArray a0 w0 (Region.before l.toArray) h i o (D.getD i []) (T.getD i none) Gs Vs := fun i hi o ho => by simpa using hS0 i hi o ho
  have hle := C.le
  have hex : ∀ i, i < D.length → ∃ o, l[i]? = some o := fun i hi => ⟨_, List.getElem?_eq_getElem (by simp at hle; omega)⟩
  have hlt : ∀ i j, i < D.length → j < l.toArray.size → anc (Region.before l.toArray) i j = true → j < i := fun i j hi hj ha => C.anc_lt i (by omega) j hj ha
  have hmono : ∀ i, i < D.length → Mono (fat Gs i) := fun i hi => by obtain ⟨o, ho⟩ := hex i hi; exact (hS i hi o ho).mono
  have hanc : ∀ i, i < D.length → anc (Region.before l.toArray) h i = true → (∀ w w' v, fat Gs i w v → fat Vs i w' v) ∧ ∀ w w' v, fat Vs i w v → fat Vs i w' v := fun i hi ha => by
    obtain ⟨o, ho⟩ := hex i hi
    have hih := hlt h i hh (by omega) ha
    rcases hS i hi o ho with ⟨e, _⟩ | ⟨_, _, k1, k2, _⟩ | ⟨_, e, _⟩
    · omega
    · exact ⟨k1, k2⟩
    · rw [ha] at e; cases e
  have hnot : ∀ i, i < D.length → anc (Region.before l.toArray) h i = false → fat Vs i = fat Gs i ∧ (i ≠ h → ∀ w w' v, fat Gs i w v → fat Gs i w' v) := fun i hi ha => by
    obtain ⟨o, ho⟩ := hex i hi
    rcases hS i hi o ho with ⟨e, _, k, _⟩ | ⟨e, _⟩ | ⟨_, _, k1, k2, _⟩
    · exact ⟨k, fun hne => absurd e hne⟩
    · rw [ha] at e; cases e
    · exact ⟨k1, fun _ => k2⟩
  have hdeps : ∀ i, i < D.length → ∀ x ∈ D.getD i [], anc (Region.before l.toArray) i x.1 = true ∧ x.1 < i := fun i hi x hx => by
    obtain ⟨o, ho⟩ := hex i hi
    obtain ⟨h1, h2⟩ := (C.op i o (by simpa using ho)).deps hi x hx
    have hxs : x.1 < l.toArray.size := by
      cases hq : l.toArray[x.1]? with
      | none => rw [hq] at h2; cases h2
      | some _ => exact (Array.getElem?_eq_some_iff.1 hq).1
    exact ⟨h1, hlt i x.1 hi hxs h1⟩
  refine wp_region_any hm ?_
  refine C.headI (a0 := a0) l rfl (fun L vs w => Ext w0 w ∧ ∀ i, i < D.length → L i = true → if L h && anc (Region.before l.toArray) h i then fat Vs i w (vs i) else fat Gs i w (vs i)) ?_ ?_ _ _ (fun _ => undef) a0 _ (by simp) ?_ ?_ ?_ ?_ ?_
  · intro i o L vs w hi ho hLi hdone hclosed hI
    obtain ⟨hx, hf⟩ := hI
    have hdst : T.getD i none = o.dst := (C.op i o (by simpa using ho)).dst hi
    have hihh : L h = true → anc (Region.before l.toArray) h i = false := fun hLh => by
      cases ha : anc (Region.before l.toArray) h i
      · rfl
      · have := hclosed h (by omega) hLh i (by omega) ha
        rw [hLi] at this; cases this
    rcases hS i hi o ho with ⟨rfl, hm1, hVG, hop⟩ | ⟨ha, hm1, k1, k2, hop⟩ | ⟨hne, hna, hVG, hind, hop⟩
    · -- the writing step
      have hobl := DepsV.elim vs (D.getD i []) a0 (hop w hx) (fun x hxm => by
        obtain ⟨q1, q2⟩ := hdeps i hi x hxm
        rw [fat_take _ _ _ q2]
        have := hf x.1 (by omega) (hdone x.1 (by omega) q1)
        rw [hLi] at this; exact this)
      rw [hdst] at hobl
      refine PostI.mono1 (fun v w' hv => ?_) hobl
      refine ⟨hv.1, fun k hk hLk => ?_⟩
      have hself : anc (Region.before l.toArray) i i = false := by
        cases hq : anc (Region.before l.toArray) i i
        · rfl
        · exact absurd (hlt i i hi (by omega) hq) (Nat.lt_irrefl _)
      by_cases hki : k = i
      · subst hki; simp only [BEq.rfl, Bool.true_or, Bool.true_and, hself, if_true]; exact hv.2
      · have hLk2 : L k = true := by simpa [hki] using hLk
        have h0 := hf k hk hLk2
        rw [hLi, Bool.false_and] at h0
        simp only [if_neg hki, BEq.rfl, Bool.true_or, Bool.true_and] at h0 ⊢
        cases hak : anc (Region.before l.toArray) i k
        · simp only [Bool.false_eq_true, if_false] at h0 ⊢
          exact (hnot k hk hak).2 hki _ _ _ h0
        · simp only [Bool.false_eq_true, if_false, if_true] at h0 ⊢
          exact (hanc k hk hak).1 _ _ _ h0
    · -- before it
      have hLh : L h = false := by
        cases hq : L h
        · rfl
        · rw [hihh hq] at ha; cases ha
      have hobl := DepsV.elim vs (D.getD i []) a0 (hop w hx) (fun x hxm => by
        obtain ⟨q1, q2⟩ := hdeps i hi x hxm
        rw [fat_take _ _ _ q2]
        have := hf x.1 (by omega) (hdone x.1 (by omega) q1)
        rw [hLh] at this; exact this)
      rw [hdst] at hobl
      refine PostI.mono1 (fun v w' hv => ?_) hobl
      refine ⟨hx.trans hv.1, fun k hk hLk => ?_⟩
      have hhi : h ≠ i := fun e => by subst e; exact absurd (hlt h h hh (by omega) ha) (Nat.lt_irrefl _)
      have e1 : (h == i || L h) = false := by rw [hLh]; simp [hhi]
      simp only [e1, Bool.false_and, Bool.false_eq_true, if_false]
      by_cases hki : k = i
      · subst hki; rw [if_pos rfl]; exact hv.2
      · have hLk2 : L k = true := by simpa [hki] using hLk
        have h0 := hf k hk hLk2
        rw [hLh, Bool.false_and] at h0
        rw [if_neg hki]
        exact hmono k hk _ _ _ hv.1 (by simpa using h0)
    · -- beside it
      have hobl := DepsV.elim vs (D.getD i []) a0 (hop w hx) (fun x hxm => by
        obtain ⟨q1, q2⟩ := hdeps i hi x hxm
        rw [fat_take _ _ _ q2]
        have h0 := hf x.1 (by omega) (hdone x.1 (by omega) q1)
        cases hax : anc (Region.before l.toArray) h x.1
        · rw [hax, Bool.and_false] at h0
          rw [(hnot x.1 (by omega) hax).1]; simpa using h0
        · rw [hax, Bool.and_true] at h0
          cases hLh : L h
          · rw [hLh] at h0; exact (hanc x.1 (by omega) hax).1 _ _ _ (by simpa using h0)
          · rw [hLh] at h0; simpa using h0)
      rw [hdst] at hobl
      refine PostI.mono1 (fun v w' hv => ?_) hobl
      refine ⟨hx.trans hv.1, fun k hk hLk => ?_⟩
      have e1 : (h == i || L h) = L h := by
        have : (h == i) = false := by simp; exact fun e => hne e.symm
        rw [this, Bool.false_or]
      simp only [e1]
      by_cases hki : k = i
      · subst hki; rw [if_pos rfl, hna, Bool.and_false]; exact hv.2
      · have hLk2 : L k = true := by simpa [hki] using hLk
        have h0 := hf k hk hLk2
        rw [if_neg hki]
        split
        · rename_i hq
          rw [if_pos hq] at h0
          exact (hanc k hk (by rw [Bool.and_eq_true] at hq; exact hq.2)).2 _ _ _ h0
        · rename_i hq
          rw [if_neg hq] at h0
          exact hmono k hk _ _ _ hv.1 h0
  · intro vs w hI
    obtain ⟨hx, hf⟩ := hI
    refine EndV.elim vs Vs T 0 a0 (by simpa using hend w hx) (by rw [hlenV, C.len]) (fun j hj => ?_)
    rw [Nat.zero_add]
    have hjD : j < D.length := by omega
    have h0 := hf j hjD (by simp [hjD])
    cases ha : anc (Region.before l.toArray) h j
    · rw [ha, Bool.and_false] at h0
      rw [(hnot j hjD ha).1]; simpa using h0
    · rw [ha] at h0
      simpa [hh] using h0
  · have key : ∀ n k, k ≤ n → cnt (fun i => (Array.replicate n false).getD i false) k = k := by
      intro n k
      induction k with
      | zero => intro _; rfl
      | succ k ih => intro hk; rw [cnt, ih (by omega)]; simp [Array.getD]
    exact key _ _ (Nat.le_refl _)
  · intro i o ho hl
    simp [Array.getD] at hl
  · intro i hi _; simp [Array.getD]
  · have e : (fun i => (Array.replicate l.toArray.size false).getD i false) = fun _ => false := funext fun i => by simp [Array.getD]
    rw [e]; exact Desc.start _
  · refine ⟨(Ext.refl w0).drew, fun i _ hl => ?_⟩
    simp [Array.getD] at hl
section
variable {h i : Nat} {o : Oper} {l : List Oper} {d : List (Nat × Tmp)} {t : Option Tmp} {Fs Ws : List Fact}
theorem FromH.preEq (v : Value) (ha : anc B h i = true) (hop : ∀ w, Ext w0 w → DepsV Fs w d (fun a => wpList P ops (PostI a t fun u w' => Ext w w' ∧ eqF v w' u) [o] a w) a0)
    (hrest : FromH P ops Q a0 w0 T0 B h (i + 1) l D T (Fs ++ [eqF v]) (Ws ++ [valF (· = v)])) : FromH P ops Q a0 w0 T0 B h i (o :: l) (d :: D) (t :: T) Fs Ws :=
  .inr (.inl ⟨ha, eqF v, (· = v), fun _ _ _ _ hh => hh, fun _ _ hh => hh, hop, hrest⟩)
theorem FromH.pre (F : Fact) (W : Value → Prop) (ha : anc B h i = true) (hm : Mono F) (hw : ∀ w v, F w v → W v) (hop : ∀ w, Ext w0 w → DepsV Fs w d (fun a => wpList P ops (PostI a t fun u w' => Ext w w' ∧ F w' u) [o] a w) a0)
    (hrest : FromH P ops Q a0 w0 T0 B h (i + 1) l D T (Fs ++ [F]) (Ws ++ [valF W])) : FromH P ops Q a0 w0 T0 B h i (o :: l) (d :: D) (t :: T) Fs Ws :=
  .inr (.inl ⟨ha, F, W, hm, hw, hop, hrest⟩)
theorem FromH.wr (F : Fact) (he : i = h) (hm : Mono F) (hop : ∀ w, Ext w0 w → DepsV Fs w d (fun a => wpList P ops (PostI a t fun u w' => Ext w0 w' ∧ F w' u) [o] a w) a0)
    (hrest : FromH P ops Q a0 w0 T0 B h (i + 1) l D T (Fs ++ [F]) (Ws ++ [F])) : FromH P ops Q a0 w0 T0 B h i (o :: l) (d :: D) (t :: T) Fs Ws :=
  .inl ⟨he, F, hm, hop, hrest⟩
theorem FromH.beq (v : Value) (hne : i ≠ h) (ha : anc B h i = false) (hop : ∀ w, Ext w0 w → DepsV Ws w d (fun a => wpList P ops (PostI a t fun u w' => Ext w w' ∧ u = v) [o] a w) a0)
    (hrest : FromH P ops Q a0 w0 T0 B h (i + 1) l D T (Fs ++ [valF (· = v)]) (Ws ++ [valF (· = v)])) : FromH P ops Q a0 w0 T0 B h i (o :: l) (d :: D) (t :: T) Fs Ws :=
  .inr (.inr ⟨hne, ha, (· = v), hop, hrest⟩)
theorem FromH.be (W : Value → Prop) (hne : i ≠ h) (ha : anc B h i = false) (hop : ∀ w, Ext w0 w → DepsV Ws w d (fun a => wpList P ops (PostI a t fun u w' => Ext w w' ∧ W u) [o] a w) a0)
    (hrest : FromH P ops Q a0 w0 T0 B h (i + 1) l D T (Fs ++ [valF W]) (Ws ++ [valF W])) : FromH P ops Q a0 w0 T0 B h i (o :: l) (d :: D) (t :: T) Fs Ws :=
  .inr (.inr ⟨hne, ha, W, hop, hrest⟩)
theorem FromH.fin (hh : ∀ w, Ext w0 w → EndV w Ws T0 (fun a => wpList P ops Q l a w) a0) : FromH P ops Q a0 w0 T0 B h i l [] T Fs Ws := by
  cases l <;> exact hh
end
end
end Go.Proofs.Ytgnngifnoaagjaa

/- A region that draws its order, by facts, over small frames, in which two operations make slices of their own: these lie in two blocks. -/
namespace Go.Proofs.Ytgnngifnoaagjaa
open Go.RowKit

inductive Mk where
  | o | a | b
def FrB (n : Nat) (w : World) (v : Value) : Prop := ∀ k, v.ownBlock = some k → n ≤ k ∧ k < w.heap.size
def mkF : Mk → Nat → Fact → Fact
  | .o, _, F => F
  | .a, n, F => fun w v => F w v ∧ FrB n w v
  | .b, n, F => fun w v => F w v ∧ FrB n w v
def Dis (x y : Value) : Prop := ∀ k, x.ownBlock = some k → y.ownBlock ≠ some k
def mka : Mk → Value → Value → Value
  | .a, v, _ => v
  | .b, _, x => x
  | .o, _, x => x
def mkb : Mk → Value → Value → Value
  | .b, v, _ => v
  | .a, _, x => x
  | .o, _, x => x
def EndX1 : Mk → FV → World → Option Tmp → (Value → Value → List Value → Prop) → Value → Value → List Value → Prop
  | m, .val v, _, t, k, x, y, l => k (mka m v x) (mkb m v y) (setO l t v)
  | m, .prop F, w, t, k, x, y, l => ∀ v, F w v → k (mka m v x) (mkb m v y) (setO l t v)
def EndX (w : World) : List Mk → List FV → List (Option Tmp) → (Value → Value → List Value → Prop) → Value → Value → List Value → Prop
  | m :: M, f :: Fs, t :: T, k, x, y, l => EndX1 m f w t (EndX w M Fs T k) x y l
  | _, _, _, k, x, y, l => k x y l
def FromX (P : Program) (ops : Array Oper) (Q : Exit → Act → World → Prop) (ds : List Deferred) (L0 B0 : List Value) (w0 : World) (T0 : List (Option Tmp)) (M0 : List Mk) : List Mk → List Oper → List (List (Nat × Tmp)) → List (Option Tmp) → List FV → Prop
  | m :: M, o :: l, d :: D, t :: T, Fs => ∃ f : FV, Mono f.F ∧ (∀ w, Ext w0 w → DepsL Fs w d (fun b => wpList P (opsOf ops o) (OpPostE w t (mkF m w.heap.size f.F)) [o] ⟨b.toArray, []⟩ w) B0) ∧ FromX P ops Q ds L0 B0 w0 T0 M0 M l D T (Fs ++ [f])
  | _, l, _, _, Fs => ∀ w, Ext w0 w → EndX w M0 Fs T0 (fun x y a => Dis x y → wpList P ops Q l ⟨a.toArray, ds⟩ w) undef undef L0

section
variable {P : Program} {ops : Array Oper} {Q : Exit → Act → World → Prop} {w0 : World} {ds : List Deferred} {L0 B0 : List Value}
theorem obl_transferI {o : Oper} {a b : Act} {w : World} {F : Fact} {K : Value → World → Prop} (hs : a.tmps.size = b.tmps.size) (_hbd : b.defers = [])
    (hag : execOp a.eval o = execOp b.eval o ∧ Region.wanted o (yielded ops a.tmps) = Region.wanted o (yielded ops b.tmps))
    (h : wpList P (opsOf ops o) (OpPostE w o.dst F) [o] b w) (hK : ∀ v w', Ext w w' → F w' v → K v w') : wpList P ops (PostI a o.dst K) [o] a w := by
  simp only [wpList] at h ⊢
  rw [wanted_of] at h
  rw [hag.2]
  have fin : ∀ (u : Value) (w' : World), OpPostE w o.dst F .normal (b.put o.dst u) w' → PostI a o.dst K .normal (a.put o.dst u) w' := fun u w' hp => by
    obtain ⟨_, hx, v, hF, hv⟩ := hp
    refine ⟨put_defers _ _ _, v, hK v w' hx hF, fun d hd => ?_⟩
    have := hv d hd
    rw [hd, put_get, if_pos rfl] at this ⊢
    rw [hs]; exact this
  split
  · rename_i hw
    rw [if_pos hw] at h
    refine .inl ?_
    rcases h with h | ⟨_, _, _, hf⟩
    case inr => exact hf.elim
    unfold Oper.wp at *
    rw [hag.1]
    have nodef : ∀ (d : Deferred) (u : Value) (w' : World), OpPostE w o.dst F .normal (({ b with defers := d :: b.defers } : Act).put o.dst u) w' → False := fun d u w' hp => by
      obtain ⟨hd, _⟩ := hp
      rw [put_defers] at hd
      cases hd
    generalize (execOp b.eval o).run P w = r at *
    cases r with
    | ok n w' =>
      cases n <;> simp only [Oper.upon] at h ⊢
      case value u => exact fin u w' h
      case skip => exact fin _ w' h
      case defer d => exact (nodef d _ w' h).elim
      case enter f args =>
        refine Calls.mono h fun e w'' he => ?_
        cases e with
        | returned u => exact fin u w'' he
        | panicked c => exact he.elim
        | outgrown => obtain ⟨_, _, hf⟩ := he; exact hf.elim
      case row row args => exact Rows.mono h fun u w'' he => fin u w'' he
    | halt x w' =>
      cases x <;> simp only [Oper.upon] at h ⊢
      case panic u => exact h.elim
  · rename_i hw
    rw [if_neg hw] at h
    exact fin _ _ h
theorem DepsF.elim {Fs : List FV} {w : World} {k : Act → Prop} (vs : Nat → Value) : ∀ (d : List (Nat × Tmp)) (a : Act), DepsF Fs w d k a → (∀ x ∈ d, (favs Fs x.1).F w (vs x.1)) → k (putD vs d a)
  | [], _, h, _ => h
  | x :: d, a, h, hf => by
    have h2 : DepsF1 (favs Fs x.1) w (some x.2) (DepsF Fs w d k) a := h
    have hx := hf x (by simp)
    have : DepsF Fs w d k (a.put (some x.2) (vs x.1)) := by
      cases hq : favs Fs x.1 with
      | val u =>
        rw [hq] at h2 hx
        have e : vs x.1 = u := hx
        rw [e]; exact h2
      | prop F => rw [hq] at h2 hx; exact h2 _ hx
    exact DepsF.elim vs d _ this (fun y hy => hf y (by simp [hy]))
theorem putD_agree (vs : Nat → Value) (t : Tmp) : ∀ (d : List (Nat × Tmp)) (a b : Act), a.tmps.size = b.tmps.size → (a.tmps[t]? = b.tmps[t]? ∨ ∃ x ∈ d, x.2 = t) → (putD vs d a).tmps[t]? = (putD vs d b).tmps[t]?
  | [], _, _, _, h => h.resolve_right (fun ⟨x, hx, _⟩ => by cases hx)
  | x :: d, a, b, hs, h => putD_agree vs t d _ _ (by rw [put_size, put_size, hs]) (by
    rcases h with h | ⟨y, hy, hyt⟩
    · exact .inl (put_get2 _ _ hs (.inl h))
    · rcases List.mem_cons.1 hy with rfl | hy
      · exact .inl (put_get2 _ _ hs (.inr (by rw [hyt])))
      · exact .inr ⟨y, hy, hyt⟩)
def putTL (vs : Nat → Value) : Nat → List (Option Tmp) → List Value → List Value
  | _, [], l => l
  | i, t :: T, l => putTL vs (i + 1) T (setO l t (vs i))
theorem putTL_act (vs : Nat → Value) : ∀ (T : List (Option Tmp)) (i : Nat) (l : List Value), putT vs i T ⟨l.toArray, ds⟩ = ⟨(putTL vs i T l).toArray, ds⟩
  | [], _, _ => rfl
  | t :: T, i, l => by rw [putT, putTL, put_list]; exact putTL_act vs T (i + 1) _
theorem EndX.elim {w : World} {k : Value → Value → List Value → Prop} (vs : Nat → Value) : ∀ (M : List Mk) (Fs : List FV) (T : List (Option Tmp)) (i : Nat) (x y : Value) (l : List Value), EndX w M Fs T k x y l → M.length = T.length → Fs.length = T.length → (∀ j, j < Fs.length → (favs Fs j).F w (vs (i + j))) →
    ∃ x' y', k x' y' (putTL vs i T l) ∧ (x' = x ∨ ∃ j, M[j]? = some Mk.a ∧ x' = vs (i + j)) ∧ (y' = y ∨ ∃ j, M[j]? = some Mk.b ∧ y' = vs (i + j))
  | [], [], [], _, x, y, _, h, _, _, _ => ⟨x, y, h, .inl rfl, .inl rfl⟩
  | m :: M, f :: Fs, t :: T, i, x, y, l, h, hm, hl, hf => by
    have h2 : EndX1 m f w t (EndX w M Fs T k) x y l := h
    have h0 := hf 0 (by simp)
    have h3 : EndX w M Fs T k (mka m (vs i) x) (mkb m (vs i) y) (setO l t (vs i)) := by
      cases f with
      | val u =>
        have e : vs i = u := h0
        rw [e]; exact h2
      | prop F => exact h2 _ h0
    obtain ⟨x', y', hk, hx, hy⟩ := EndX.elim vs M Fs T (i + 1) _ _ _ h3 (by simpa using hm) (by simpa using hl) (fun j hj => by
      have := hf (j + 1) (by simpa using hj)
      rw [show i + 1 + j = i + (j + 1) from by omega]; exact this)
    refine ⟨x', y', hk, ?_, ?_⟩
    · rcases hx with hx | ⟨j, hj, hx⟩
      · cases m
        · exact .inl hx
        · exact .inr ⟨0, rfl, hx⟩
        · exact .inl hx
      · exact .inr ⟨j + 1, hj, by rw [hx]; congr 1; omega⟩
    · rcases hy with hy | ⟨j, hj, hy⟩
      · cases m
        · exact .inl hy
        · exact .inl hy
        · exact .inr ⟨0, rfl, hy⟩
      · exact .inr ⟨j + 1, hj, by rw [hy]; congr 1; omega⟩
  | [], _ :: _, [], _, _, _, _, _, _, hl, _ => by simp at hl
  | [], _, _ :: _, _, _, _, _, _, hm, _, _ => by simp at hm
  | _ :: _, _, [], _, _, _, _, _, hm, _, _ => by simp at hm
  | _ :: _, [], _ :: _, _, _, _, _, _, _, hl, _ => by simp at hl
theorem favs_app (Fs : List FV) (f : FV) (Gs : List FV) : favs (Fs ++ f :: Gs) Fs.length = f := by
  induction Fs with
  | nil => rfl
  | cons a Fs ih => exact ih
theorem FromX.out {T0 : List (Option Tmp)} {M0 : List Mk} : ∀ (M : List Mk) (l : List Oper) (D : List (List (Nat × Tmp))) (T : List (Option Tmp)) (Fs : List FV), FromX P ops Q ds L0 B0 w0 T0 M0 M l D T Fs → D.length ≤ l.length → T.length = D.length → M.length = D.length →
    ∃ Gs : List FV, Gs.length = D.length ∧ (∀ i, i < D.length → Mono (favs (Fs ++ Gs) (Fs.length + i)).F ∧ ∀ o m, l[i]? = some o → M[i]? = some m → ∀ w, Ext w0 w →
      DepsL ((Fs ++ Gs).take (Fs.length + i)) w (D.getD i []) (fun b => wpList P (opsOf ops o) (OpPostE w (T.getD i none) (mkF m w.heap.size (favs (Fs ++ Gs) (Fs.length + i)).F)) [o] ⟨b.toArray, []⟩ w) B0) ∧
      (∀ w, Ext w0 w → EndX w M0 (Fs ++ Gs) T0 (fun x y a => Dis x y → wpList P ops Q (l.drop D.length) ⟨a.toArray, ds⟩ w) undef undef L0) := by
  intro M l D
  induction D generalizing M l with
  | nil =>
    intro T Fs h _ hT hM
    refine ⟨[], rfl, fun i hi => by simp at hi, ?_⟩
    have hT2 : T = [] := List.eq_nil_of_length_eq_zero hT
    have hM2 : M = [] := List.eq_nil_of_length_eq_zero hM
    subst hT2 hM2
    cases l <;> simpa [FromX] using h
  | cons d D ih =>
    intro T Fs h hl hT hM
    cases M with
    | nil => simp at hM
    | cons m M =>
    cases l with
    | nil => simp at hl
    | cons o l =>
    cases T with
    | nil => simp at hT
    | cons t T =>
      obtain ⟨f, hm, hop, hrest⟩ := h
      obtain ⟨Gs, hlen, hG, hend⟩ := ih M l T (Fs ++ [f]) hrest (by simpa using hl) (by simpa using hT) (by simpa using hM)
      refine ⟨f :: Gs, by simp [hlen], fun i hi => ?_, ?_⟩
      · cases i with
        | zero =>
          rw [Nat.add_zero, favs_app]
          refine ⟨hm, fun o' m' ho' hm' w hx => ?_⟩
          obtain rfl : o = o' := by simpa using ho'
          obtain rfl : m = m' := by simpa using hm'
          have e : (Fs ++ f :: Gs).take Fs.length = Fs := by simp
          rw [e]
          exact hop w hx
        | succ i =>
          have := hG i (by simpa using hi)
          have e1 : Fs ++ [f] ++ Gs = Fs ++ f :: Gs := by simp
          have e2 : (Fs ++ [f]).length + i = Fs.length + (i + 1) := by simp; omega
          rw [e1, e2] at this
          exact ⟨this.1, fun o' m' ho' hm' w hx => this.2 o' m' (by simpa using ho') (by simpa using hm') w hx⟩
      · intro w hx
        have := hend w hx
        have e1 : Fs ++ [f] ++ Gs = Fs ++ f :: Gs := by simp
        rw [e1] at this
        simpa using this

/-- **A region that draws its order, in which two operations (marks a, b) make slices of their own.** -/
theorem region_factsX {id : Nat} {l : List Oper} (D : List (List (Nat × Tmp))) (T : List (Option Tmp)) (Bm : List Bool) (M : List Mk) (hMl : M.length = D.length) (hm : P.follows .mixedOrders = true) (hc : chk l.toArray (Region.before l.toArray) D T = true) (hcm : chkM l.toArray D Bm = true)
    (h : FromX P l.toArray Q ds L0 (maskL Bm L0) w0 T M M l D T []) : (Code.region id l.toArray true).wp P Q ⟨L0.toArray, ds⟩ w0 := by
  have C := Chk.of hc
  obtain ⟨Gs, hlen, hG0, hend0⟩ := FromX.out M l D T [] h (by simpa using C.le) C.len hMl
  simp only [List.nil_append, List.length_nil, Nat.zero_add] at hG0 hend0
  have hlook : ∀ i o, i < D.length → l[i]? = some o → ∀ t ∈ o.looksAt l.toArray, (⟨L0.toArray, ds⟩ : Act).tmps[t]? = (⟨(maskL Bm L0).toArray, []⟩ : Act).tmps[t]? ∨ ∃ x ∈ D.getD i [], x.2 = t := fun i o hi ho t ht => by
    unfold chkM at hcm
    rw [List.all_eq_true] at hcm
    have h1 := hcm i (List.mem_range.2 hi)
    have ho2 : l.toArray[i]? = some o := by simpa using ho
    rw [ho2] at h1
    simp only [List.all_eq_true, Bool.or_eq_true, List.any_eq_true, beq_iff_eq] at h1
    rcases h1 t ht with h2 | h2
    · left
      simp only [List.getElem?_toArray]
      exact (maskL_get Bm L0 t h2).symm
    · exact .inr h2
  have favs_take : ∀ (Fs : List FV) (k i : Nat), i < k → favs (Fs.take k) i = favs Fs i := by
    intro Fs
    induction Fs with
    | nil => intro k i _; rw [List.take_nil]
    | cons a Fs ih =>
      intro k i hik
      cases k with
      | zero => omega
      | succ k => cases i with
        | zero => rfl
        | succ i => exact ih k i (by omega)
  refine wp_region_any hm ?_
  refine C.headI (a0 := ⟨L0.toArray, ds⟩) l rfl (fun L vs w => Ext w0 w ∧ (∀ i, i < D.length → L i = true → (favs Gs i).F w (vs i)) ∧ (∀ i m, i < D.length → M[i]? = some m → m ≠ Mk.o → L i = true → ∀ k, (vs i).ownBlock = some k → k < w.heap.size) ∧
    (∀ i j m n, i ≠ j → i < D.length → j < D.length → M[i]? = some m → M[j]? = some n → m ≠ Mk.o → n ≠ Mk.o → L i = true → L j = true → Dis (vs i) (vs j))) ?_ ?_ _ _ (fun _ => undef) ⟨L0.toArray, ds⟩ _ (by simp) ?_ ?_ ?_ ?_ ?_
  · intro i o L vs w hi ho hLi hanc hcl ⟨hx, hf, hbd, hdis⟩
    have hin : i < l.toArray.size := by have := C.le; omega
    have Ci := C.op i o (by simpa using ho)
    obtain ⟨m, hmi⟩ : ∃ m, M[i]? = some m := ⟨_, List.getElem?_eq_getElem (by omega)⟩
    have hop := (hG0 i hi).2 o m ho hmi w hx
    rw [Ci.dst hi] at hop
    have hdeps : ∀ x ∈ D.getD i [], (favs (Gs.take i) x.1).F w (vs x.1) := fun x hxm => by
      obtain ⟨h1, h2⟩ := Ci.deps hi x hxm
      have hxs : x.1 < l.toArray.size := by
        cases hq : l.toArray[x.1]? with
        | none => rw [hq] at h2; cases h2
        | some _ => exact (Array.getElem?_eq_some_iff.1 hq).1
      have hxi := C.anc_lt i hin x.1 hxs h1
      rw [favs_take _ _ _ hxi]
      exact hf x.1 (by omega) (hanc x.1 hxs h1)
    have hobl := DepsF.elim vs (D.getD i []) ⟨(maskL Bm L0).toArray, []⟩ (DepsL.toF (ds := []) (k := fun b => wpList P (opsOf l.toArray o) (OpPostE w o.dst (mkF m w.heap.size (favs Gs i).F)) [o] b w) _ _ hop) hdeps
    have hss : (⟨L0.toArray, ds⟩ : Act).tmps.size = (⟨(maskL Bm L0).toArray, []⟩ : Act).tmps.size := by simp [maskL_len]
    refine obl_transferI (by rw [putD_size, putD_size, hss]) (by
      have : ∀ (d : List (Nat × Tmp)) (a : Act), (putD vs d a).defers = a.defers := by
        intro d
        induction d with
        | nil => intro a; rfl
        | cons x d ih => intro a; rw [putD, ih, put_defers]
      rw [this]) (agree (i := i) Ci.sel (fun t ht => putD_agree vs t _ _ _ hss (hlook i o hi ho t ht))) hobl (fun v w' hxx hF => ?_)
    have hFv : (favs Gs i).F w' v := by cases m <;> first | exact hF | exact hF.1
    have hFr : m ≠ Mk.o → FrB w.heap.size w' v := by cases m <;> first | exact fun q => absurd rfl q | exact fun _ => hF.2
    refine ⟨hx.trans hxx, fun k hk hL => ?_, fun k m' hk hmk hmo hL b hb => ?_, fun k j m' n' hkj hk hj hmk hmj hmo hno hLk hLj => ?_⟩
    · dsimp only
      by_cases e : k = i
      · subst e; rw [if_pos rfl]; exact hFv
      · rw [if_neg e]
        exact (hG0 k hk).1 w w' _ hxx (hf k hk (by simpa [e] using hL))
    · dsimp only at hb
      by_cases e : k = i
      · subst e
        rw [if_pos rfl] at hb
        rw [hmi] at hmk; injection hmk with hmk; subst hmk
        exact (hFr hmo b hb).2
      · rw [if_neg e] at hb
        have := hbd k m' hk hmk hmo (by simpa [e] using hL) b hb
        have := hxx.size; omega
    · dsimp only
      by_cases e : k = i
      · subst e
        rw [if_pos rfl, if_neg (fun q => hkj q.symm)]
        rw [hmi] at hmk; injection hmk with hmk; subst hmk
        have hj2 : L j = true := by simpa [show j ≠ k from fun q => hkj q.symm] using hLj
        intro b hb hb2
        have h1 := (hFr hmo b hb).1
        have h2 := hbd j n' hj hmj hno hj2 b hb2
        omega
      · by_cases e2 : j = i
        · subst e2
          rw [if_pos rfl, if_neg e]
          rw [hmi] at hmj; injection hmj with hmj; subst hmj
          have hk2 : L k = true := by simpa [e] using hLk
          intro b hb hb2
          have h1 := (hFr hno b hb2).1
          have h2 := hbd k m' hk hmk hmo hk2 b hb
          omega
        · rw [if_neg e, if_neg e2]
          exact hdis k j m' n' hkj hk hj hmk hmj hmo hno (by simpa [e] using hLk) (by simpa [e2] using hLj)
  · intro vs w ⟨hx, hf, hbd, hdis⟩
    obtain ⟨x', y', hk, hx', hy'⟩ := EndX.elim vs M Gs T 0 undef undef L0 (hend0 w hx) (by rw [hMl, C.len]) (by rw [hlen, C.len]) (fun j hj => by rw [Nat.zero_add]; exact hf j (by omega) (by simp; omega))
    rw [putTL_act]
    refine hk ?_
    have hu : (undef : Value).ownBlock = none := rfl
    rcases hx' with rfl | ⟨i, hi, rfl⟩
    · intro k hk; rw [hu] at hk; cases hk
    rcases hy' with rfl | ⟨j, hj, rfl⟩
    · intro k _ hk2; rw [hu] at hk2; cases hk2
    have hi2 : i < D.length := by have := (List.getElem?_eq_some_iff.1 hi).1; omega
    have hj2 : j < D.length := by have := (List.getElem?_eq_some_iff.1 hj).1; omega
    rw [Nat.zero_add, Nat.zero_add]
    exact hdis i j Mk.a Mk.b (fun q => by subst q; rw [hi] at hj; cases hj) hi2 hj2 hi hj (fun q => by cases q) (fun q => by cases q) (by simp; omega) (by simp; omega)
  · have key : ∀ n k, k ≤ n → cnt (fun i => (Array.replicate n false).getD i false) k = k := by
      intro n k
      induction k with
      | zero => intro _; rfl
      | succ k ih => intro hk; rw [cnt, ih (by omega)]; simp [Array.getD]
    exact key _ _ (Nat.le_refl _)
  · intro i o ho hl
    simp [Array.getD] at hl
  · intro i hi _; simp [Array.getD]
  · have e : (fun i => (Array.replicate l.toArray.size false).getD i false) = fun _ => false := funext fun i => by simp [Array.getD]
    rw [e]; exact Desc.start _
  · refine ⟨(Ext.refl w0).drew, fun i _ hl => ?_, fun i m _ _ _ hl => ?_, fun i j m n _ _ _ _ _ _ _ hl => ?_⟩ <;> simp [Array.getD] at hl
theorem FromX.fin {T0 : List (Option Tmp)} {M0 : List Mk} {l : List Oper} {T : List (Option Tmp)} {Fs : List FV} (h : ∀ w, Ext w0 w → EndX w M0 Fs T0 (fun x y a => Dis x y → wpList P ops Q l ⟨a.toArray, ds⟩ w) undef undef L0) : FromX P ops Q ds L0 B0 w0 T0 M0 [] l [] T Fs := by
  cases l <;> exact h
theorem FromX.step {T0 : List (Option Tmp)} {M0 M : List Mk} {o : Oper} {l : List Oper} {d : List (Nat × Tmp)} {D : List (List (Nat × Tmp))} {t : Option Tmp} {T : List (Option Tmp)} {Fs : List FV} (F : Fact) (hM : Mono F)
    (hop : ∀ w, Ext w0 w → DepsL Fs w d (fun b => wpList P (opsOf ops o) (OpPostE w t F) [o] ⟨b.toArray, []⟩ w) B0) (hrest : FromX P ops Q ds L0 B0 w0 T0 M0 M l D T (Fs ++ [.prop F])) : FromX P ops Q ds L0 B0 w0 T0 M0 (.o :: M) (o :: l) (d :: D) (t :: T) Fs := ⟨.prop F, hM, hop, hrest⟩
theorem FromX.eq {T0 : List (Option Tmp)} {M0 M : List Mk} {o : Oper} {l : List Oper} {d : List (Nat × Tmp)} {D : List (List (Nat × Tmp))} {t : Option Tmp} {T : List (Option Tmp)} {Fs : List FV} (v : Value)
    (hop : ∀ w, Ext w0 w → DepsL Fs w d (fun b => wpList P (opsOf ops o) (OpPostE w t (eqF v)) [o] ⟨b.toArray, []⟩ w) B0) (hrest : FromX P ops Q ds L0 B0 w0 T0 M0 M l D T (Fs ++ [.val v])) : FromX P ops Q ds L0 B0 w0 T0 M0 (.o :: M) (o :: l) (d :: D) (t :: T) Fs :=
  ⟨.val v, fun _ _ _ _ h => h, hop, hrest⟩
theorem FromX.new {T0 : List (Option Tmp)} {M0 M : List Mk} {m : Mk} (hmo : m = .a ∨ m = .b) {o : Oper} {l : List Oper} {d : List (Nat × Tmp)} {D : List (List (Nat × Tmp))} {t : Option Tmp} {T : List (Option Tmp)} {Fs : List FV} (F : Fact) (hM : Mono F)
    (hop : ∀ w, Ext w0 w → DepsL Fs w d (fun b => wpList P (opsOf ops o) (OpPostE w t (fun w' v => F w' v ∧ FrB w.heap.size w' v)) [o] ⟨b.toArray, []⟩ w) B0) (hrest : FromX P ops Q ds L0 B0 w0 T0 M0 M l D T (Fs ++ [.prop F])) : FromX P ops Q ds L0 B0 w0 T0 M0 (m :: M) (o :: l) (d :: D) (t :: T) Fs :=
  ⟨.prop F, hM, by rcases hmo with rfl | rfl <;> exact hop, hrest⟩
end
end Go.Proofs.Ytgnngifnoaagjaa

/- A set of numbers kept in a map[int]bool. -/
namespace Go.Proofs.Ytgnngifnoaagjaa
open Go.RowKit Go.Maps

theorem But.ofGrown {g : Nat} {w w' : World} (h : w.grownBy w' (some g)) : But g w w' := ⟨h.os, h.tape, h.output, h.size, fun k hk hne => h.block k hk (fun e => hne (Option.some.inj e))⟩
theorem law64 : Keyed Try.prog 3 := int_keyed Try.underlying3
theorem zeroB (w : World) : (zeroValue 4).run Try.prog w = .ok (.bool false) w := by kernel_rfl
/-- A number as a key. -/
def kl (x : Nat) : Lit := .int .i64 (x : Int)
theorem kl_inj {x y : Nat} (h : kl x = kl y) : x = y := by
  unfold kl at h; injection h with _ h; omega
theorem kl_key (x : Nat) : WideAt.IsKeyLit (kl x) := trivial
theorem kl_wf {x : Nat} (h : x < 9223372036854775808) : (Lit.int .i64 (x : Int)).wf = true := WalkArith.wf_i64 (by omega)
theorem kl_of {x : Nat} (h : x < 9223372036854775808) : keyOf Try.prog 3 (.int .i64 (x : Int)) = some (kl x) := keyOf_int_mk Try.underlying3 (kl_wf h)
theorem sameKl (x y : Nat) : (kl x).sameKey (kl y) = decide (x = y) := by
  by_cases h : x = y
  · subst h; rw [WideAt.sameKey_self (kl_key x)]; simp
  · rw [Maps.sameKey_ne (fun e => h (kl_inj e))]; simp [h]
/-- The map, as data, holds exactly the numbers of m, each with true. -/
structure SetD (D : DataW Unit) (m : List Nat) : Prop where
  has : ∀ x : Nat, Maps.has D (kl x) = decide (x ∈ m)
  at_ : ∀ (x : Nat) (z : DataW Unit), x ∈ m → D.atKey (kl x) z = .lit (.bool true)
  size : Maps.size D = m.length
  lt : ∀ x ∈ m, x < 9223372036854775808
def MapS (w : World) (b : Nat) (m : List Nat) : Prop := ∃ D : DataW Unit, w.ownsMap Try.prog 3 (plainElem Try.prog 4) b m.length D ∧ SetD D m
theorem tight {w : World} {b n : Nat} {D : DataW Unit} (h : w.ownsMap Try.prog 3 (plainElem Try.prog 4) b n D) : w.ownsMap Try.prog 3 (plainElem Try.prog 4) b (Maps.size D) D := by
  obtain ⟨es, clock, hb, F, hs, rfl⟩ := h
  exact ⟨es, clock, hb, F, by simp [Maps.size, length_sorted], rfl⟩
theorem MapS.mk {w : World} {b n : Nat} {D : DataW Unit} {m : List Nat} (h : w.ownsMap Try.prog 3 (plainElem Try.prog 4) b n D) (hs : SetD D m) : MapS w b m :=
  ⟨D, by have := tight h; rw [hs.size] at this; exact this, hs⟩
section
variable {w w' : World} {b : Nat} {m : List Nat}
theorem MapS.lt (h : MapS w b m) : b < w.heap.size := by obtain ⟨D, h, _⟩ := h; exact h.lt
theorem MapS.bd (h : MapS w b m) : ∀ x ∈ m, x < 9223372036854775808 := by obtain ⟨D, _, h⟩ := h; exact h.lt
theorem MapS.ext (h : MapS w b m) (hx : Ext w w') : MapS w' b m := by
  obtain ⟨D, ⟨es, clock, hb, r⟩, hs⟩ := h
  exact ⟨D, ⟨es, clock, (Below.block hx b (Array.getElem?_eq_some_iff.1 hb).1).trans hb, r⟩, hs⟩
theorem MapS.but {g : Nat} (h : MapS w b m) (hx : But g w w') (hne : b ≠ g) : MapS w' b m := by
  obtain ⟨D, ⟨es, clock, hb, r⟩, hs⟩ := h
  exact ⟨D, ⟨es, clock, (hx.block b (Array.getElem?_eq_some_iff.1 hb).1 hne).trans hb, r⟩, hs⟩
theorem MapS.made (w : World) : MapS (w.alloc (.map #[] 0)) w.heap.size [] :=
  ⟨.map [], World.ownsMap_made w _ _ _, ⟨fun x => by simp [Maps.has], fun x z h => by simp at h, rfl, fun x h => by simp at h⟩⟩
theorem MapS.perm {m' : List Nat} (h : MapS w b m) (hp : m.Perm m') : MapS w b m' := by
  obtain ⟨D, ho, hs⟩ := h
  exact .mk ho ⟨fun x => by rw [hs.has]; exact decide_eq_decide.2 hp.mem_iff, fun x z hx => hs.at_ x z (hp.mem_iff.2 hx), by rw [hs.size, hp.length_eq], fun x hx => hs.lt x (hp.mem_iff.2 hx)⟩
set_option maxRecDepth 100000 in
theorem plainElem_bool_inv {v : Value} {z : DataW Unit × List MemPlace} (h : plainElem Try.prog 4 v = some z) : ∃ a, v = .bool a ∧ z = (.lit (.bool a), []) := by
  unfold plainElem at h
  rw [Try.underlying4] at h
  cases v <;> simp at h
  exact ⟨_, rfl, h.symm⟩
/-- m[x] = true. -/
theorem MapS.put (h : MapS w b m) {x : Nat} (hx : x < 9223372036854775808) (hm : x ∉ m) (hl : m.length ≤ 1000000) :
    ∃ w', (Instr.mapUpdate 62 (.map (some b)) (.int .i64 (x : Int)) (.bool true)).run Try.prog w = .ok () w' ∧ MapS w' b (m ++ [x]) ∧ But b w w' := by
  obtain ⟨D, ho, hs⟩ := h
  obtain ⟨w', hrun, ho', ht⟩ := ho.store law64 Try.underlying62 (by unfold maxLen; omega) (kl_of hx) (plainElem_bool Try.underlying4 true)
  refine ⟨w', hrun, .mk ho' ?_, But.ofGrown ht.grown⟩
  have him := ho.isMap
  refine ⟨fun y => ?_, fun y z hy => ?_, ?_, fun y hy => ?_⟩
  · by_cases e : y = x
    · subst e; rw [has_put_same him (kl_key y)]; simp
    · rw [has_put_other (fun q => e (kl_inj q)), hs.has]; simp [e]
  · by_cases e : y = x
    · subst e; rw [atKey_put_same him (kl_key y)]
    · rw [atKey_put_other (fun q => e (kl_inj q))]; exact hs.at_ y z (by simpa [e] using hy)
  · rw [size_put (ho.tidy law64), hs.has, hs.size]; simp [hm]
  · rcases List.mem_append.1 hy with h1 | h1
    · exact hs.lt y h1
    · simp at h1; omega
/-- m[x] = true, x in m or not. -/
def ins (m : List Nat) (x : Nat) : List Nat := if x ∈ m then m else m ++ [x]
theorem MapS.put2 (h : MapS w b m) {x : Nat} (hx : x < 9223372036854775808) (hl : m.length ≤ 1000000) :
    ∃ w', (Instr.mapUpdate 62 (.map (some b)) (.int .i64 (x : Int)) (.bool true)).run Try.prog w = .ok () w' ∧ MapS w' b (ins m x) ∧ But b w w' := by
  by_cases hm : x ∈ m
  case neg => unfold ins; rw [if_neg hm]; exact h.put hx hm hl
  unfold ins
  rw [if_pos hm]
  obtain ⟨D, ho, hs⟩ := h
  obtain ⟨w', hrun, ho', ht⟩ := ho.store law64 Try.underlying62 (by unfold maxLen; omega) (kl_of hx) (plainElem_bool Try.underlying4 true)
  refine ⟨w', hrun, .mk ho' ?_, But.ofGrown ht.grown⟩
  have him := ho.isMap
  refine ⟨fun y => ?_, fun y z hy => ?_, ?_, hs.lt⟩
  · by_cases e : y = x
    · subst e; rw [has_put_same him (kl_key y)]; simp [hm]
    · rw [has_put_other (fun q => e (kl_inj q)), hs.has]
  · by_cases e : y = x
    · subst e; rw [atKey_put_same him (kl_key y)]
    · rw [atKey_put_other (fun q => e (kl_inj q))]; exact hs.at_ y z hy
  · rw [size_put (ho.tidy law64), hs.has, hs.size]; simp [hm]
theorem MapS.len (h : MapS w b m) (ty : TypeId) : (Builtin.len_ #[62] ty #[.map (some b)]).run Try.prog w = .ok (.int .i64 (m.length : Int)) w := by
  obtain ⟨D, ho, hs⟩ := h
  rw [ho.len Try.underlying62 ty, hs.size]
end
end Go.Proofs.Ytgnngifnoaagjaa

/- Plain law: Close and Apart of words near a line. -/
namespace Go.Proofs.Ytgnngifnoaagjaa
theorem filt_split {α : Type} (P : α → Bool) : ∀ l : List α, (l.filter P).length + (l.filter (fun x => !P x)).length = l.length
  | [] => rfl
  | x :: l => by
    have := filt_split P l
    cases h : P x <;> simp [h] <;> omega
theorem filt_one (c : Nat) : ∀ n, ((List.range n).filter (fun i => decide (i = c))).length ≤ if c < n then 1 else 0
  | 0 => by simp
  | n + 1 => by
    have ih := filt_one c n
    rw [List.range_succ, List.filter_append, List.length_append]
    by_cases h : n = c
    · subst h
      rw [if_neg (by omega)] at ih
      simp; omega
    · have : ([n].filter (fun i => decide (i = c))).length = 0 := by simp [h]
      rw [this]
      by_cases h2 : c < n
      · rw [if_pos h2] at ih; rw [if_pos (by omega)]; omega
      · rw [if_neg h2] at ih; rw [if_neg (by omega)]; omega
theorem filt_mem (n : Nat) : ∀ bad : List Nat, ((List.range n).filter (fun i => decide (i ∈ bad))).length ≤ bad.length
  | [] => by simp
  | c :: bad => by
    have ih := filt_mem n bad
    have h1 := filter_or (P := fun i => decide (i = c)) (Q := fun i => decide (i ∈ bad)) (R := fun i => decide (i ∈ c :: bad)) (fun i h => by
      have := of_decide_eq_true h
      rcases List.mem_cons.1 this with h | h
      · exact .inl (decide_eq_true h)
      · exact .inr (decide_eq_true h)) (List.range n)
    have h2 := filt_one c n
    have h3 : (if c < n then 1 else 0) ≤ 1 := by split <;> omega
    rw [List.length_cons]
    omega
theorem filt_le {n : Nat} {P : Nat → Bool} {bad : List Nat} (h : ∀ i, i < n → P i = true → i ∈ bad) : ((List.range n).filter P).length ≤ bad.length :=
  Nat.le_trans (filter_imp fun i hi hp => decide_eq_true (h i (List.mem_range.1 hi) hp)) (filt_mem n bad)
theorem asc_one {R : List (Nat × List Nat)} (ha : R.Pairwise (fun x y => x.1 < y.1)) {P : Nat × List Nat → Bool} (h : ∀ r ∈ R, ∀ q ∈ R, P r = true → P q = true → r.1 = q.1) : (R.filter P).length ≤ 1 := by
  have hp := ha.filter P
  have hm : ∀ r ∈ R.filter P, r ∈ R ∧ P r = true := fun r hr => List.mem_filter.1 hr
  match hS : R.filter P, hp, hm with
  | [], _, _ => simp
  | [_], _, _ => simp
  | r :: q :: S, hp, hm =>
    exfalso
    have h1 := (List.pairwise_cons.1 hp).1 q (by simp)
    have h2 := hm r (by simp)
    have h3 := hm q (by simp)
    have := h r h2.1 q h3.1 h2.2 h3.2
    omega

theorem apart_small {p k K : Nat} (hv : vld p = true) (hd : (p - 1) % 2 ^ k = 0) (a b : List Nat) {e : Nat} (he : 3 * e + K ≤ 2 ^ k) (hlen : e + 1 < (lineM p (2 ^ k) K a b e).length) : apM p (2 ^ k) a b (lineM p (2 ^ k) K a b e) ≤ e := by
  haveI := Q.nz_vld hv
  have hasc := lineK_asc p (2 ^ k) K a b e p
  have hmem : ∀ r, r ∈ lineM p (2 ^ k) K a b e → r.1 < p ∧ nearM p (2 ^ k) K (lnw p (2 ^ k) a b r.1) e = some r.2 := fun r hr => lineK_mem.1 hr
  change (lineM p (2 ^ k) K a b e).Pairwise _ at hasc
  generalize hR : lineM p (2 ^ k) K a b e = R at *
  obtain ⟨x, y, R', rfl⟩ : ∃ x y R', R = x :: y :: R' := by
    match R, hlen with
    | [], h => simp at h
    | [x], h => simp at h
    | x :: y :: R', _ => exact ⟨x, y, R', rfl⟩
  have hxm := hmem x (by simp)
  have hym := hmem y (by simp)
  have hxy : x.1 < y.1 := (List.pairwise_cons.1 hasc).1 y (by simp)
  have hFxy : ∀ [NeZero p], Q.F p x.1 ≠ Q.F p y.1 := fun h => by have := Q.F_inj hxm.1 hym.1 h; omega
  have hap : apM p (2 ^ k) a b (x :: y :: R') = ((apC p a b x y (2 ^ k) : Nat) : Int) := by
    unfold apM
    rw [if_neg (by simp)]; rfl
  rw [hap]
  rcases Nat.lt_or_ge e (apC p a b x y (2 ^ k)) with hbig | hsm
  case inr => omega
  exfalso
  rw [apC_filter] at hbig
  have hline : ∀ z ∈ x :: y :: R', ∀ j, j < 2 ^ k → Q.F p (z.2.getD j 0) = Q.F p (sta p x y j) + Q.F p z.1 * Q.F p (slp p x y j) := fun z hz j hj =>
    line_word hv hd a b he hFxy hxm.2 hym.2 (hmem z hz).2 j hj
  have key := count_two (R := x :: y :: R') (D := (List.range (2 ^ k)).filter (offB p a b x y)) (P := fun r j => decide ((lnw p (2 ^ k) a b r.1).getD j 0 ≠ r.2.getD j 0)) (e := e) (c := (x :: y :: R').length - 1) (fun r hr => by
    obtain ⟨f, _, q2, q3⟩ := near_sound (hmem r hr).2
    rw [lnw_red hv, dist_dif (by rw [q2]; exact cword_len _ _ _) (lnw_len _ _ _ _ _)] at q3
    rw [List.filter_filter]
    have : ((List.range (2 ^ k)).filter (fun j => decide ((lnw p (2 ^ k) a b r.1).getD j 0 ≠ r.2.getD j 0) && offB p a b x y j)).length ≤ (dif r.2 (lnw p (2 ^ k) a b r.1) (2 ^ k)).length := by
      unfold dif
      refine filter_imp fun i _ h => ?_
      rw [Bool.and_eq_true] at h
      exact decide_eq_true (fun q => (of_decide_eq_true h.1) q.symm)
    omega) (fun j hj => by
    obtain ⟨hj1, hj2⟩ := List.mem_filter.1 hj
    have hjk := List.mem_range.1 hj1
    have hs := filt_split (fun r : Nat × List Nat => decide ((lnw p (2 ^ k) a b r.1).getD j 0 ≠ r.2.getD j 0)) (x :: y :: R')
    have h1 : ((x :: y :: R').filter (fun r : Nat × List Nat => !decide ((lnw p (2 ^ k) a b r.1).getD j 0 ≠ r.2.getD j 0))).length ≤ 1 := asc_one hasc fun r hr q hq pr pq => by
      have er : (lnw p (2 ^ k) a b r.1).getD j 0 = r.2.getD j 0 := by simpa using pr
      have eq : (lnw p (2 ^ k) a b q.1).getD j 0 = q.2.getD j 0 := by simpa using pq
      have lr := hline r hr j hjk
      have lq := hline q hq j hjk
      rw [← er, Q.F_lnw hv _ _ _ _ _ hjk] at lr
      rw [← eq, Q.F_lnw hv _ _ _ _ _ hjk] at lq
      have hoff : Q.F p (a.getD j 0) ≠ Q.F p (sta p x y j) ∨ Q.F p (b.getD j 0) ≠ Q.F p (slp p x y j) := by
        have h3 : fred p (a.getD j 0) ≠ sta p x y j ∨ fred p (b.getD j 0) ≠ slp p x y j := by
          unfold offB at hj2
          rw [Bool.or_eq_true] at hj2
          rcases hj2 with h | h
          · exact .inl (of_decide_eq_true h)
          · exact .inr (of_decide_eq_true h)
        rcases h3 with h | h
        · left; intro q; apply h
          refine Q.F_inj (Q.fred_lt hv) (by unfold sta; unfold fsub; exact Q.fadd_lt hv) ?_
          rw [Q.F_fred hv]; exact q
        · right; intro q; apply h
          refine Q.F_inj (Q.fred_lt hv) (by unfold slp; exact Q.fmul_lt hv) ?_
          rw [Q.F_fred hv]; exact q
      have := agree_one hv hoff (r := Q.F p r.1) (q := Q.F p q.1) (by grind) (by grind)
      exact Q.F_inj (hmem r hr).1 (hmem q hq).1 this
    omega)
  obtain ⟨m, hm⟩ : ∃ m, (x :: y :: R').length = m + 1 := ⟨_, rfl⟩
  rw [hm] at key hlen
  obtain ⟨D, hD⟩ : ∃ D, D = ((List.range (2 ^ k)).filter (offB p a b x y)).length := ⟨_, rfl⟩
  rw [← hD] at key hbig
  have h1 : (e + 1) * m ≤ D * m := Nat.mul_le_mul_right _ hbig
  rw [show m + 1 - 1 = m from rfl] at key
  rw [Nat.add_mul] at h1 key
  have : e * m = m * e := Nat.mul_comm _ _
  omega

theorem near_all {p k K : Nat} (hv : vld p = true) (hd : (p - 1) % 2 ^ k = 0) (hK : K ≤ 2 ^ k) {A B a b bad : List Nat} (hA : A.length ≤ K) (hB : B.length ≤ K)
    (hab : ∀ j, j < 2 ^ k → j ∉ bad → a.getD j 0 = (cword p (2 ^ k) A).getD j 0 ∧ b.getD j 0 = (cword p (2 ^ k) B).getD j 0) {e : Nat} (hbad : bad.length ≤ e) (he : 2 * e + K ≤ 2 ^ k) (r : Nat) :
    nearM p (2 ^ k) K (lnw p (2 ^ k) a b r) e = some (cword p (2 ^ k) (comb p A B 1 r)) := by
  have hcl := comb_len p A B 1 r
  refine near_found hv hd hK _ (lnw_len _ _ _ _ _) e (by omega) _ (by omega) ?_
  rw [lnw_red hv, dist_dif (cword_len _ _ _) (lnw_len _ _ _ _ _)]
  unfold dif
  have : ((List.range (2 ^ k)).filter (fun i => decide ((cword p (2 ^ k) (comb p A B 1 r)).getD i 0 ≠ (lnw p (2 ^ k) a b r).getD i 0))).length ≤ bad.length := filt_le fun i hi h => by
    rcases Classical.em (i ∈ bad) with hb | hb
    · exact hb
    · exfalso
      apply of_decide_eq_true h
      obtain ⟨h1, h2⟩ := hab i hi hb
      rw [comb_word hv _ _ _ _ _ _ hi]
      unfold lnw
      rw [tab_get _ _ _ hi, h1, h2]
  omega
theorem line_all {p N K : Nat} {A B a b : List Nat} {e : Int} (h : ∀ r, nearM p N K (lnw p N a b r) e = some (cword p N (comb p A B 1 r))) : ∀ i, lineK p N K a b e i = (List.range i).map (fun r => (r, cword p N (comb p A B 1 r)))
  | 0 => rfl
  | i + 1 => by
    unfold lineK
    rw [h i, line_all h i, List.range_succ, List.map_append]; rfl
theorem together {p k K : Nat} (hv : vld p = true) (hd : (p - 1) % 2 ^ k = 0) (hK : K ≤ 2 ^ k) {A B a b bad : List Nat} (hA : A.length ≤ K) (hB : B.length ≤ K)
    (hab : ∀ j, j < 2 ^ k → j ∉ bad → a.getD j 0 = (cword p (2 ^ k) A).getD j 0 ∧ b.getD j 0 = (cword p (2 ^ k) B).getD j 0) {e : Nat} (hbad : bad.length ≤ e) (he : 2 * e + K ≤ 2 ^ k) :
    (lineM p (2 ^ k) K a b e).length = p ∧ apM p (2 ^ k) a b (lineM p (2 ^ k) K a b e) ≤ bad.length := by
  haveI := Q.nz_vld hv
  have hp := vld_bd hv
  have hl : lineM p (2 ^ k) K a b e = (List.range p).map (fun r => (r, cword p (2 ^ k) (comb p A B 1 r))) := line_all (near_all hv hd hK hA hB hab hbad he) p
  refine ⟨by rw [hl]; simp, ?_⟩
  have h0 : (lineM p (2 ^ k) K a b e).getD 0 (0, []) = (0, cword p (2 ^ k) (comb p A B 1 0)) := by
    rw [hl]; simp [List.getD, show 0 < p from by omega]
  have h1 : (lineM p (2 ^ k) K a b e).getD 1 (0, []) = (1, cword p (2 ^ k) (comb p A B 1 1)) := by
    rw [hl]; simp [List.getD, show 1 < p from by omega]
  have hlen : (lineM p (2 ^ k) K a b e).length = p := by rw [hl]; simp
  unfold apM
  rw [if_neg (by omega), h0, h1, apC_filter]
  have : ((List.range (2 ^ k)).filter (offB p a b (0, cword p (2 ^ k) (comb p A B 1 0)) (1, cword p (2 ^ k) (comb p A B 1 1)))).length ≤ bad.length := filt_le fun j hj h => by
    rcases Classical.em (j ∈ bad) with hb | hb
    · exact hb
    · exfalso
      obtain ⟨e1, e2⟩ := hab j hj hb
      have wlt : ∀ f : List Nat, (cword p (2 ^ k) f).getD j 0 < p := fun f => by unfold cword reva; rw [tab_get _ _ _ hj]; exact Q.horner_lt hv _ _
      have hne : Q.F p (0 : Nat) ≠ Q.F p (1 : Nat) := fun q => by have := Q.F_inj (by omega) (by omega) q; omega
      have hs := Q.F_slp hv (x := (0, cword p (2 ^ k) (comb p A B 1 0))) (y := (1, cword p (2 ^ k) (comb p A B 1 1))) hne j
      have ht := Q.F_sta hv (0, cword p (2 ^ k) (comb p A B 1 0)) (1, cword p (2 ^ k) (comb p A B 1 1)) j
      simp only at hs ht
      rw [comb_word hv _ _ _ _ _ _ hj, comb_word hv _ _ _ _ _ _ hj, Q.F_fadd hv, Q.F_fadd hv, Q.F_fmul hv, Q.F_fmul hv, Q.F_fmul hv, Q.F_zero, Q.F_one] at hs
      rw [comb_word hv _ _ _ _ _ _ hj, Q.F_fadd hv, Q.F_fmul hv, Q.F_fmul hv, Q.F_zero, Q.F_one] at ht
      unfold offB at h
      rw [Bool.or_eq_true] at h
      rcases h with h | h
      · apply of_decide_eq_true h
        refine Q.F_inj (Q.fred_lt hv) (by unfold sta; unfold fsub; exact Q.fadd_lt hv) ?_
        rw [Q.F_fred hv, e1, ht]; grind
      · apply of_decide_eq_true h
        refine Q.F_inj (Q.fred_lt hv) (by unfold slp; exact Q.fmul_lt hv) ?_
        rw [Q.F_fred hv, e2]; grind
  omega
end Go.Proofs.Ytgnngifnoaagjaa
