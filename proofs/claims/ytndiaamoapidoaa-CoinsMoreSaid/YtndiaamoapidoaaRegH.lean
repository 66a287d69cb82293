/- A region that draws its order and holds one step that writes into memory that the region made (an append onto a slice of its own). -/
import Derived.Test.YtndiaamoapidoaaReg
namespace Go.Proofs.Ytndiaamoapidoaa
open Go.RowKit
def PostI (a : Act) (t : Option Tmp) (K : Value → World → Prop) : Exit → Act → World → Prop
  | .normal, a', w' => a'.defers = a.defers ∧ ∃ v, K v w' ∧ ∀ d, t = some d → a'.tmps[d]? = some v
  | _, _, _ => False
section
variable {P : Program} {ops : Array Oper} {Q : Exit → Act → World → Prop} {a0 : Act} {w0 : World} {B : Array Nat} {D : List (List (Nat × Tmp))} {T T0 : List (Option Tmp)}
/-- From the obligation's frame to the true one. -/
theorem step_of_oblI {i : Nat} {o : Oper} {a b : Act} {w : World} {K : Act → World → Prop} {KI : Value → World → Prop} (ho : ops[i]? = some o) (hs : a.tmps.size = b.tmps.size)
    (hag : execOp a.eval o = execOp b.eval o ∧ Region.wanted o (yielded ops a.tmps) = Region.wanted o (yielded ops b.tmps))
    (h : wpList P ops (PostI b o.dst KI) [o] b w) (hK : ∀ v w', KI v w' → K (a.put o.dst v) w') : wpOp P ops Q i K a w := by
  unfold wpOp
  simp only [ho]
  rw [hag.2]
  simp only [wpList] at h
  split
  · rename_i hw
    rw [if_pos hw] at h
    refine .inl ?_
    rcases h with h | ⟨_, _, _, hf⟩
    case inr => exact hf.elim
    unfold Oper.wp at *
    rw [hag.1]
    have fin : ∀ (u : Value) (w' : World), PostI b o.dst KI .normal (b.put o.dst u) w' → K (a.put o.dst u) w' := fun u w' hp => by
      obtain ⟨_, v, hF, hv⟩ := hp
      rw [put_val hs hv]
      exact hK v w' hF
    have nodef : ∀ (d : Deferred) (u : Value) (w' : World), PostI b o.dst KI .normal (({ b with defers := d :: b.defers } : Act).put o.dst u) w' → False := fun d u w' hp => by
      obtain ⟨hd, _⟩ := hp
      rw [put_defers] at hd
      simp at hd
    generalize (execOp b.eval o).run P w = r at *
    cases r with
    | ok n w' =>
      cases n <;> simp only [Oper.upon] at h ⊢
      case value u => exact fin u w' h
      case skip => exact fin _ w' h
      case defer d => exact (nodef d _ w' h).elim
      case enter f args =>
        refine Calls.mono h fun e w'' he => ?_
        cases e with
        | returned u => exact fin u w'' he
        | panicked c => exact he.elim
        | outgrown => obtain ⟨_, _, hf⟩ := he; exact hf.elim
      case row row args => exact Rows.mono h fun u w'' he => fin u w'' he
    | halt x w' =>
      cases x <;> simp only [Oper.upon] at h ⊢
      case panic u => exact h.elim
  · rename_i hw
    rw [if_neg hw] at h
    obtain ⟨_, v, hF, hv⟩ := h
    rw [put_val hs hv]
    exact hK v w hF

theorem Chk.headI (C : Chk ops B D T) (l : List Oper) (hl : ops = l.toArray) (Inv : (Nat → Bool) → (Nat → Value) → World → Prop)
    (hstep : ∀ i o (L : Nat → Bool) vs w, i < D.length → l[i]? = some o → L i = false → (∀ j, j < ops.size → anc B i j = true → L j = true) → (∀ k, k < ops.size → L k = true → ∀ j, j < ops.size → anc B k j = true → L j = true) → Inv L vs w →
      wpList P ops (PostI (putD vs (D.getD i []) a0) o.dst fun v w' => Inv (fun k => k == i || L k) (fun k => if k = i then v else vs k) w') [o] (putD vs (D.getD i []) a0) w)
    (hend : ∀ vs w, Inv (fun k => decide (k < D.length)) vs w → wpList P ops Q (l.drop D.length) (putT vs 0 T a0) w) :
    ∀ (fuel : Nat) (L : Array Bool) (vs : Nat → Value) (a : Act) (w : World), L.size = ops.size → cnt (fun i => L.getD i false) ops.size = fuel → Closed ops L → (∀ i, i < ops.size → D.length ≤ i → L.getD i false = false) →
      Desc ops a0 (fun i => L.getD i false) vs a → Inv (fun i => L.getD i false) vs w → wpAny P .any ops Q fuel L a w := by
  intro fuel
  induction fuel with
  | zero =>
    intro L vs a w hs hcnt hcl hsuf hd hI
    have hall := cnt_none _ hcnt
    have hDn : D.length = ops.size := by
      rcases Nat.lt_or_ge D.length ops.size with h | h
      · have h1 := hsuf _ h (Nat.le_refl _); rw [hall _ h] at h1; cases h1
      · have := C.le; omega
    refine C.tail l hl 0 ops.size L a w (by omega) (by omega) hs (fun i hi => by simp only [hi, decide_true]; exact hall i hi) ?_
    have eL : (fun i => L.getD i false) = fun k => decide (k < D.length) := funext fun k => by
      by_cases hk : k < ops.size
      · rw [hall k hk]; simp; omega
      · simp [Array.getD, hs, hk]; omega
    have := hend vs w (eL ▸ hI)
    rw [hDn] at this
    have ha : a = putT vs 0 T a0 := by
      refine Desc.ext (a0 := a0) (vs := vs) (L := fun k => decide (k < D.length)) ?_ (putT_desc C vs T 0 a0 rfl (Nat.zero_le _) ?_)
      · refine ⟨hd.defers, hd.size, fun i o d ho hli => hd.put i o d ho (hall i (Array.getElem?_eq_some_iff.1 ho).1), fun t ht => hd.old t (fun i o ho _ => ht i o ho ?_)⟩
        have := (Array.getElem?_eq_some_iff.1 ho).1
        simp; omega
      · simpa using Desc.start (ops := ops) (a0 := a0) vs
    rw [ha]
    exact this
  | succ fuel ih =>
    intro L vs a w hs hcnt hcl hsuf hd hI
    by_cases hall : ∀ i, i < D.length → L.getD i false = true
    · have hL : ∀ i, i < ops.size → L.getD i false = decide (i < D.length) := fun i hi => by
        by_cases h : i < D.length
        · simp [h, hall i h]
        · simp [h, hsuf i hi (by omega)]
      have hfuel : D.length + (fuel + 1) = ops.size := by
        rw [← hcnt]
        have key : ∀ k, D.length ≤ k → k ≤ ops.size → D.length + cnt (fun i => L.getD i false) k = k := by
          intro k
          induction k with
          | zero => intro h1 _; show D.length + 0 = 0; omega
          | succ k ihk =>
            intro h1 h2
            rw [cnt]
            by_cases hk : k < D.length
            · have e : k + 1 = D.length := by omega
              have hz : cnt (fun i => L.getD i false) k = 0 := by
                have z : ∀ j, j ≤ k → cnt (fun i => L.getD i false) j = 0 := by
                  intro j
                  induction j with
                  | zero => intro _; rfl
                  | succ j ihj => intro hj; rw [cnt, ihj (by omega)]; simp [hall j (by omega)]
                exact z k (Nat.le_refl _)
              rw [hz]; simp [hall k hk]; omega
            · have h3 : L.getD k false = false := hsuf k (by omega) (by omega)
              have := ihk (by omega) (by omega)
              rw [h3]; simp only [Bool.false_eq_true, if_false]; omega
        exact key ops.size C.le (Nat.le_refl _)
      refine C.tail l hl (fuel + 1) D.length L a w (Nat.le_refl _) hfuel hs hL ?_
      have eL : (fun i => L.getD i false) = fun k => decide (k < D.length) := funext fun k => by
        by_cases hk : k < ops.size
        · exact hL k hk
        · have := C.le
          simp [Array.getD, hs, hk]; omega
      have := hend vs w (eL ▸ hI)
      have ha : a = putT vs 0 T a0 := by
        refine Desc.ext (a0 := a0) (vs := vs) (L := fun k => decide (k < D.length)) ?_ (putT_desc C vs T 0 a0 rfl (Nat.zero_le _) ?_)
        · refine ⟨hd.defers, hd.size, fun i o d ho hli => hd.put i o d ho (by have := (Array.getElem?_eq_some_iff.1 ho).1; simp only [hL i this]; exact hli), fun t ht => hd.old t (fun i o ho hli => ht i o ho ?_)⟩
          have := (Array.getElem?_eq_some_iff.1 ho).1
          simpa only [hL i this] using hli
        · simpa using Desc.start (ops := ops) (a0 := a0) vs
      rw [ha]
      exact this
    · have hex : ∃ i, i < D.length ∧ L.getD i false = false := by
        rcases Classical.em (∃ i, i < D.length ∧ L.getD i false = false) with h | h
        · exact h
        · refine absurd (fun i hi => ?_) hall
          cases hq : L.getD i false
          · exact absurd ⟨i, hi, hq⟩ h
          · rfl
      obtain ⟨j0, hj0, hlj0⟩ := hex
      refine ⟨fun hr => absurd hr (C.some_ready hs j0 (by have := C.le; omega) hlj0), fun i hr => ?_⟩
      obtain ⟨h0, o, ho, hedges⟩ := mem_ready.1 hr
      have hin : i < ops.size := (Array.getElem?_eq_some_iff.1 ho).1
      have hli : L.getD i false = false := by rw [← getD_tf hs hin]; exact h0
      have Ci := C.op i o ho
      have hiD : i < D.length := by
        rcases Nat.lt_or_ge i D.length with h | h
        · exact h
        · have := C.ready_anc hcl hr (j := j0) (by have := C.le; omega) (Ci.all (by omega) j0 (by omega))
          rw [hlj0] at this; cases this
      have hlo : l[i]? = some o := by rw [hl] at ho; simpa using ho
      have hobl := hstep i o (fun j => L.getD j false) vs w hiD hlo hli (fun j hj ha => C.ready_anc hcl hr hj ha) (fun k hk hlk j hj ha => C.closed_anc hcl k hk hlk j hj ha) hI
      have hag : ∀ t ∈ o.looksAt ops, a.tmps[t]? = (putD vs (D.getD i []) a0).tmps[t]? := fun t ht => by
        by_cases hwr : ∃ k ok, ops[k]? = some ok ∧ ok.dst = some t ∧ k ≠ i
        · obtain ⟨k, ok, hk, hkd, hki⟩ := hwr
          have hks : k < ops.size := (Array.getElem?_eq_some_iff.1 hk).1
          have huniq : ∀ x ∈ D.getD i [], x.2 = t → x.1 = k := fun x hxm hxt => by
            obtain ⟨h1, h2⟩ := Ci.deps hiD x hxm
            cases hq : ops[x.1]? with
            | none => rw [hq] at h2; cases h2
            | some ox =>
              rw [hq, Option.bind_some, hxt] at h2
              have hxs : x.1 < ops.size := (Array.getElem?_eq_some_iff.1 hq).1
              have hxi := C.anc_lt i hin x.1 hxs h1
              rcases Classical.em (x.1 = k) with e | e
              · exact e
              · exact absurd h2 (((C.op x.1 ox hq).apart (by omega) k ok t hk hkd (fun e' => e e'.symm)).1)
          rcases (Ci.apart hiD k ok t hk hkd hki).2 ht with ⟨x, hxm, hxk⟩ | hka
          · obtain ⟨h1, h2⟩ := Ci.deps hiD x hxm
            subst hxk
            rw [hk, Option.bind_some, hkd] at h2
            injection h2 with h2
            have hlk := C.ready_anc hcl hr hks h1
            by_cases hts : t < a0.tmps.size
            · rw [hd.put x.1 ok t hk hlk hkd hts, putD_new vs t x.1 _ _ hts ⟨x, hxm, rfl, h2.symm⟩ huniq]
            · rw [Array.getElem?_eq_none (by rw [hd.size]; exact Nat.le_of_not_lt hts), Array.getElem?_eq_none (by rw [putD_size]; exact Nat.le_of_not_lt hts)]
          · have hlk : L.getD k false = false := by
              cases hq : L.getD k false
              · rfl
              · have := C.closed_anc hcl k hks hq i hin hka
                rw [hli] at this; cases this
            rw [putD_old vs t _ _ (fun x hxm hxt => ?_)]
            · refine hd.old t (fun k' ok' hk' hlk' hkd' => ?_)
              have hne : k' ≠ k := fun e => by subst e; rw [hlk] at hlk'; cases hlk'
              have hk's : k' < ops.size := (Array.getElem?_eq_some_iff.1 hk').1
              have hk'D : k' < D.length := by
                rcases Nat.lt_or_ge k' D.length with h | h
                · exact h
                · have := hsuf k' hk's h; rw [this] at hlk'; cases hlk'
              exact ((C.op k' ok' hk').apart hk'D k ok t hk hkd (fun e => hne e.symm)).1 hkd'
            · have hxk := huniq x hxm hxt
              obtain ⟨h1, _⟩ := Ci.deps hiD x hxm
              rw [hxk] at h1
              have l1 := C.anc_lt i hin k hks h1
              have l2 := C.anc_lt k hks i hin hka
              omega
        · have hno : ∀ k ok, ops[k]? = some ok → L.getD k false = true → ok.dst ≠ some t := fun k ok hk hlk hkd => by
            by_cases hki : k = i
            · subst hki; rw [hli] at hlk; cases hlk
            · exact hwr ⟨k, ok, hk, hkd, hki⟩
          rw [hd.old t hno, putD_old vs t _ _ (fun x hxm hxt => ?_)]
          obtain ⟨h1, h2⟩ := Ci.deps hiD x hxm
          cases hq : ops[x.1]? with
          | none => rw [hq] at h2; cases h2
          | some ox =>
            rw [hq, Option.bind_some, hxt] at h2
            have hxs : x.1 < ops.size := (Array.getElem?_eq_some_iff.1 hq).1
            have hxi := C.anc_lt i hin x.1 hxs h1
            exact hwr ⟨x.1, ox, hq, h2, by omega⟩
      refine step_of_oblI (b := putD vs (D.getD i []) a0) ho (by rw [hd.size, putD_size]) (agree (i := i) Ci.sel hag) hobl (fun v w' hF => ?_)
      have hset := getD_set L ops.size i
      refine ih (L.setIfInBounds i true) (fun k => if k = i then v else vs k) (a.put o.dst v) w' (by simpa using hs) ?_ (hcl.step hs hr) (fun k hk hDk => ?_) ?_ ?_
      · have := cnt_set (L := fun j => L.getD j false) (L' := fun j => (L.setIfInBounds i true).getD j false) (i := i) hli (by simp only [hset i hs hin]; simp) (fun j hj => by simp only [hset j hs hin]; simp [hj]) ops.size hin
        omega
      · rw [hset k hs hin, hsuf k hk hDk]; simp; omega
      · have hst := hd.step (i := i) ho hli (fun k ok d hk hdk hne => (Ci.apart hiD k ok d hk hdk hne).1) v
        have e : (fun j => (L.setIfInBounds i true).getD j false) = (fun k => k == i || L.getD k false) := funext fun j => hset j hs hin
        rw [e]; exact hst
      · have e : (fun j => (L.setIfInBounds i true).getD j false) = (fun k => k == i || L.getD k false) := funext fun j => hset j hs hin
        rw [e]; exact hF

theorem PostI.of {a : Act} {t : Option Tmp} {K K' : Value → World → Prop} (h : ∀ v w', K v w' → K' v w') {a' : Act} {w' : World} (hp : PostI a t K .normal a' w') : PostI a t K' .normal a' w' :=
  ⟨hp.1, hp.2.choose, h _ _ hp.2.choose_spec.1, hp.2.choose_spec.2⟩
theorem PostI.mono1 {o : Oper} {a b : Act} {t : Option Tmp} {w : World} {K K' : Value → World → Prop} (hK : ∀ v w', K v w' → K' v w') (h : wpList P ops (PostI b t K) [o] a w) : wpList P ops (PostI b t K') [o] a w := by
  simp only [wpList] at h ⊢
  split
  · rename_i hw
    rw [if_pos hw] at h
    rcases h with h | ⟨_, _, _, hf⟩
    case inr => exact hf.elim
    refine .inl ?_
    unfold Oper.wp at *
    generalize (execOp a.eval o).run P w = r at *
    cases r with
    | ok n w' =>
      cases n <;> simp only [Oper.upon] at h ⊢
      case value u => exact PostI.of hK h
      case skip => exact PostI.of hK h
      case defer d => exact PostI.of hK h
      case enter f args =>
        refine Calls.mono h fun e w'' he => ?_
        cases e with
        | returned u => exact PostI.of hK he
        | panicked c => exact he.elim
        | outgrown => obtain ⟨_, _, hf⟩ := he; exact hf.elim
      case row row args => exact Rows.mono h fun u w'' he => PostI.of hK he
    | halt x w' =>
      cases x <;> simp only [Oper.upon] at h ⊢
      case panic u => exact h.elim
  · rename_i hw
    rw [if_neg hw] at h
    exact PostI.of hK h
theorem PostI.some {a a' : Act} {w' : World} {d : Tmp} {K : Value → World → Prop} (v : Value) (hd : a'.defers = a.defers) (hv : nth a'.tmps.toList d = Option.some v) (hK : K v w') : PostI a (Option.some d) K .normal a' w' :=
  ⟨hd, v, hK, fun _ h => by injection h with h; subst h; rw [nth_eq] at hv; rw [← hv, Array.getElem?_toList]⟩

def valF (W : Value → Prop) : Fact := fun _ v => W v
/-- Obligations of a region in which operation h writes into memory that the region made. Fs: facts as they are before h; Ws: what is left of them behind h. -/
def FromH (P : Program) (ops : Array Oper) (Q : Exit → Act → World → Prop) (a0 : Act) (w0 : World) (T0 : List (Option Tmp)) (B : Array Nat) (h : Nat) : Nat → List Oper → List (List (Nat × Tmp)) → List (Option Tmp) → List Fact → List Fact → Prop
  | i, o :: l, d :: D, t :: T, Fs, Ws =>
    (i = h ∧ ∃ F, Mono F ∧ (∀ w, Ext w0 w → DepsV Fs w d (fun a => wpList P ops (PostI a t fun v w' => Ext w0 w' ∧ F w' v) [o] a w) a0) ∧ FromH P ops Q a0 w0 T0 B h (i + 1) l D T (Fs ++ [F]) (Ws ++ [F])) ∨
    (anc B h i = true ∧ ∃ F, ∃ W : Value → Prop, Mono F ∧ (∀ w v, F w v → W v) ∧ (∀ w, Ext w0 w → DepsV Fs w d (fun a => wpList P ops (PostI a t fun v w' => Ext w w' ∧ F w' v) [o] a w) a0) ∧ FromH P ops Q a0 w0 T0 B h (i + 1) l D T (Fs ++ [F]) (Ws ++ [valF W])) ∨
    (i ≠ h ∧ anc B h i = false ∧ ∃ W : Value → Prop, (∀ w, Ext w0 w → DepsV Ws w d (fun a => wpList P ops (PostI a t fun v w' => Ext w w' ∧ W v) [o] a w) a0) ∧ FromH P ops Q a0 w0 T0 B h (i + 1) l D T (Fs ++ [valF W]) (Ws ++ [valF W]))
  | _, l, _, _, _, Ws => ∀ w, Ext w0 w → EndV w Ws T0 (fun a => wpList P ops Q l a w) a0

/-- What an operation of FromH says. -/
def SaysH (P : Program) (ops : Array Oper) (a0 : Act) (w0 : World) (B : Array Nat) (h i : Nat) (o : Oper) (d : List (Nat × Tmp)) (t : Option Tmp) (Gs Vs : List Fact) : Prop :=
  (i = h ∧ Mono (fat Gs i) ∧ fat Vs i = fat Gs i ∧ ∀ w, Ext w0 w → DepsV (Gs.take i) w d (fun a => wpList P ops (PostI a t fun v w' => Ext w0 w' ∧ fat Gs i w' v) [o] a w) a0) ∨
  (anc B h i = true ∧ Mono (fat Gs i) ∧ (∀ w w' v, fat Gs i w v → fat Vs i w' v) ∧ (∀ w w' v, fat Vs i w v → fat Vs i w' v) ∧ ∀ w, Ext w0 w → DepsV (Gs.take i) w d (fun a => wpList P ops (PostI a t fun v w' => Ext w w' ∧ fat Gs i w' v) [o] a w) a0) ∨
  (i ≠ h ∧ anc B h i = false ∧ fat Vs i = fat Gs i ∧ (∀ w w' v, fat Gs i w v → fat Gs i w' v) ∧ ∀ w, Ext w0 w → DepsV (Vs.take i) w d (fun a => wpList P ops (PostI a t fun v w' => Ext w w' ∧ fat Gs i w' v) [o] a w) a0)

theorem fat_app (Fs : List Fact) (F : Fact) (Gs : List Fact) : fat (Fs ++ F :: Gs) Fs.length = F := by
  induction Fs with
  | nil => rfl
  | cons a Fs ih => exact ih
theorem FromH.out {h : Nat} : ∀ (l : List Oper) (D : List (List (Nat × Tmp))) (T : List (Option Tmp)) (Fs Ws : List Fact), Ws.length = Fs.length → FromH P ops Q a0 w0 T0 B h Fs.length l D T Fs Ws → D.length ≤ l.length → T.length = D.length →
    ∃ Gs Vs : List Fact, Gs.length = D.length ∧ Vs.length = D.length ∧ (∀ i, i < D.length → ∀ o, l[i]? = some o → SaysH P ops a0 w0 B h (Fs.length + i) o (D.getD i []) (T.getD i none) (Fs ++ Gs) (Ws ++ Vs)) ∧
      (∀ w, Ext w0 w → EndV w (Ws ++ Vs) T0 (fun a => wpList P ops Q (l.drop D.length) a w) a0) := by
  intro l D
  induction D generalizing l with
  | nil =>
    intro T Fs Ws hlW hF _ hT
    refine ⟨[], [], rfl, rfl, fun i hi => by simp at hi, ?_⟩
    cases l <;> simpa [FromH] using hF
  | cons d D ih =>
    intro T Fs Ws hlW hF hl hT
    cases l with
    | nil => simp at hl
    | cons o l =>
      cases T with
      | nil => simp at hT
      | cons t T =>
        have key : ∀ (F V : Fact), FromH P ops Q a0 w0 T0 B h (Fs.length + 1) l D T (Fs ++ [F]) (Ws ++ [V]) →
            (∀ Gs Vs, SaysH P ops a0 w0 B h Fs.length o d t (Fs ++ F :: Gs) (Ws ++ V :: Vs)) →
            ∃ Gs Vs : List Fact, Gs.length = (d :: D).length ∧ Vs.length = (d :: D).length ∧ (∀ i, i < (d :: D).length → ∀ o', (o :: l)[i]? = some o' → SaysH P ops a0 w0 B h (Fs.length + i) o' ((d :: D).getD i []) ((t :: T).getD i none) (Fs ++ Gs) (Ws ++ Vs)) ∧
              (∀ w, Ext w0 w → EndV w (Ws ++ Vs) T0 (fun a => wpList P ops Q ((o :: l).drop (d :: D).length) a w) a0) := fun F V hrest hsay => by
          obtain ⟨Gs, Vs, h1, h2, h3, h4⟩ := ih l T (Fs ++ [F]) (Ws ++ [V]) (by simp [hlW]) (by simpa using hrest) (by simpa using hl) (by simpa using hT)
          refine ⟨F :: Gs, V :: Vs, by simp [h1], by simp [h2], fun i hi o' ho' => ?_, fun w hx => by simpa using h4 w hx⟩
          cases i with
          | zero =>
            obtain rfl : o = o' := by simpa using ho'
            exact hsay Gs Vs
          | succ i =>
            have := h3 i (by simpa using hi) o' (by simpa using ho')
            simp only [List.length_append, List.length_singleton, List.append_assoc, List.singleton_append] at this
            rw [show Fs.length + (i + 1) = Fs.length + 1 + i from by omega]
            simpa using this
        have tk : ∀ (F : Fact) (Gs : List Fact), (Fs ++ F :: Gs).take Fs.length = Fs := fun F Gs => by simp
        have tk2 : ∀ (F : Fact) (Gs : List Fact), (Ws ++ F :: Gs).take Fs.length = Ws := fun F Gs => by rw [← hlW]; simp
        have fw : ∀ (F : Fact) (Gs : List Fact), fat (Ws ++ F :: Gs) Fs.length = F := fun F Gs => by rw [← hlW]; exact fat_app _ _ _
        rcases hF with ⟨hi, F, hm, hop, hrest⟩ | ⟨hi, F, W, hm, hFW, hop, hrest⟩ | ⟨hi, hi2, W, hop, hrest⟩
        · exact key F F hrest fun Gs Vs => .inl ⟨hi, by rw [fat_app]; exact hm, by rw [fat_app, fw], by rw [fat_app, tk]; exact hop⟩
        · exact key F (valF W) hrest fun Gs Vs => .inr (.inl ⟨hi, by rw [fat_app]; exact hm, by rw [fat_app, fw]; exact fun w _ v hh => hFW w v hh, by rw [fw]; exact fun _ _ _ hh => hh, by rw [fat_app, tk]; exact hop⟩)
        · exact key (valF W) (valF W) hrest fun Gs Vs => .inr (.inr ⟨hi, hi2, by rw [fat_app, fw], by rw [fat_app]; exact fun _ _ _ hh => hh, by rw [fat_app, tk2]; exact hop⟩)

theorem SaysH.mono {h i : Nat} {o : Oper} {d : List (Nat × Tmp)} {t : Option Tmp} {Gs Vs : List Fact} (s : SaysH P ops a0 w0 B h i o d t Gs Vs) : Mono (fat Gs i) := by
  rcases s with ⟨_, hm, _⟩ | ⟨_, hm, _⟩ | ⟨_, _, _, hm, _⟩
  · exact hm
  · exact hm
  · exact fun w w' v _ hh => hm w w' v hh

/-- **A region that draws its order, by facts, with one step h that writes into memory that the region made.** -/
theorem region_factsH {id : Nat} {l : List Oper} (h : Nat) (D : List (List (Nat × Tmp))) (T : List (Option Tmp)) (hm : P.follows .mixedOrders = true) (hc : chk l.toArray (Region.before l.toArray) D T = true) (hh : h < D.length)
    (hF : FromH P l.toArray Q a0 w0 T (Region.before l.toArray) h 0 l D T [] []) : (Code.region id l.toArray true).wp P Q a0 w0 := by
  have C := Chk.of hc
  obtain ⟨Gs, Vs, hlen, hlenV, hS0, hend⟩ := FromH.out l D T [] [] rfl hF (by simpa using C.le) C.len
  have hS : ∀ i, i < D.length → ∀ o, l[i]? = some o → SaysH P l.toArray a0 w0 (Region.before l.toArray) h i o (D.getD i []) (T.getD i none) Gs Vs := fun i hi o ho => by simpa using hS0 i hi o ho
  have hle := C.le
  have hex : ∀ i, i < D.length → ∃ o, l[i]? = some o := fun i hi => ⟨_, List.getElem?_eq_getElem (by simp at hle; omega)⟩
  have hlt : ∀ i j, i < D.length → j < l.toArray.size → anc (Region.before l.toArray) i j = true → j < i := fun i j hi hj ha => C.anc_lt i (by omega) j hj ha
  have hmono : ∀ i, i < D.length → Mono (fat Gs i) := fun i hi => by obtain ⟨o, ho⟩ := hex i hi; exact (hS i hi o ho).mono
  have hanc : ∀ i, i < D.length → anc (Region.before l.toArray) h i = true → (∀ w w' v, fat Gs i w v → fat Vs i w' v) ∧ ∀ w w' v, fat Vs i w v → fat Vs i w' v := fun i hi ha => by
    obtain ⟨o, ho⟩ := hex i hi
    have hih := hlt h i hh (by omega) ha
    rcases hS i hi o ho with ⟨e, _⟩ | ⟨_, _, k1, k2, _⟩ | ⟨_, e, _⟩
    · omega
    · exact ⟨k1, k2⟩
    · rw [ha] at e; cases e
  have hnot : ∀ i, i < D.length → anc (Region.before l.toArray) h i = false → fat Vs i = fat Gs i ∧ (i ≠ h → ∀ w w' v, fat Gs i w v → fat Gs i w' v) := fun i hi ha => by
    obtain ⟨o, ho⟩ := hex i hi
    rcases hS i hi o ho with ⟨e, _, k, _⟩ | ⟨e, _⟩ | ⟨_, _, k1, k2, _⟩
    · exact ⟨k, fun hne => absurd e hne⟩
    · rw [ha] at e; cases e
    · exact ⟨k1, fun _ => k2⟩
  have hdeps : ∀ i, i < D.length → ∀ x ∈ D.getD i [], anc (Region.before l.toArray) i x.1 = true ∧ x.1 < i := fun i hi x hx => by
    obtain ⟨o, ho⟩ := hex i hi
    obtain ⟨h1, h2⟩ := (C.op i o (by simpa using ho)).deps hi x hx
    have hxs : x.1 < l.toArray.size := by
      cases hq : l.toArray[x.1]? with
      | none => rw [hq] at h2; cases h2
      | some _ => exact (Array.getElem?_eq_some_iff.1 hq).1
    exact ⟨h1, hlt i x.1 hi hxs h1⟩
  refine wp_region_any hm ?_
  refine C.headI (a0 := a0) l rfl (fun L vs w => Ext w0 w ∧ ∀ i, i < D.length → L i = true → if L h && anc (Region.before l.toArray) h i then fat Vs i w (vs i) else fat Gs i w (vs i)) ?_ ?_ _ _ (fun _ => undef) a0 _ (by simp) ?_ ?_ ?_ ?_ ?_
  · intro i o L vs w hi ho hLi hdone hclosed hI
    obtain ⟨hx, hf⟩ := hI
    have hdst : T.getD i none = o.dst := (C.op i o (by simpa using ho)).dst hi
    have hihh : L h = true → anc (Region.before l.toArray) h i = false := fun hLh => by
      cases ha : anc (Region.before l.toArray) h i
      · rfl
      · have := hclosed h (by omega) hLh i (by omega) ha
        rw [hLi] at this; cases this
    rcases hS i hi o ho with ⟨rfl, hm1, hVG, hop⟩ | ⟨ha, hm1, k1, k2, hop⟩ | ⟨hne, hna, hVG, hind, hop⟩
    · -- the writing step
      have hobl := DepsV.elim vs (D.getD i []) a0 (hop w hx) (fun x hxm => by
        obtain ⟨q1, q2⟩ := hdeps i hi x hxm
        rw [fat_take _ _ _ q2]
        have := hf x.1 (by omega) (hdone x.1 (by omega) q1)
        rw [hLi] at this; exact this)
      rw [hdst] at hobl
      refine PostI.mono1 (fun v w' hv => ?_) hobl
      refine ⟨hv.1, fun k hk hLk => ?_⟩
      have hself : anc (Region.before l.toArray) i i = false := by
        cases hq : anc (Region.before l.toArray) i i
        · rfl
        · exact absurd (hlt i i hi (by omega) hq) (Nat.lt_irrefl _)
      by_cases hki : k = i
      · subst hki; simp only [BEq.rfl, Bool.true_or, Bool.true_and, hself, if_true]; exact hv.2
      · have hLk2 : L k = true := by simpa [hki] using hLk
        have h0 := hf k hk hLk2
        rw [hLi, Bool.false_and] at h0
        simp only [if_neg hki, BEq.rfl, Bool.true_or, Bool.true_and] at h0 ⊢
        cases hak : anc (Region.before l.toArray) i k
        · simp only [Bool.false_eq_true, if_false] at h0 ⊢
          exact (hnot k hk hak).2 hki _ _ _ h0
        · simp only [Bool.false_eq_true, if_false, if_true] at h0 ⊢
          exact (hanc k hk hak).1 _ _ _ h0
    · -- before it
      have hLh : L h = false := by
        cases hq : L h
        · rfl
        · rw [hihh hq] at ha; cases ha
      have hobl := DepsV.elim vs (D.getD i []) a0 (hop w hx) (fun x hxm => by
        obtain ⟨q1, q2⟩ := hdeps i hi x hxm
        rw [fat_take _ _ _ q2]
        have := hf x.1 (by omega) (hdone x.1 (by omega) q1)
        rw [hLh] at this; exact this)
      rw [hdst] at hobl
      refine PostI.mono1 (fun v w' hv => ?_) hobl
      refine ⟨hx.trans hv.1, fun k hk hLk => ?_⟩
      have hhi : h ≠ i := fun e => by subst e; exact absurd (hlt h h hh (by omega) ha) (Nat.lt_irrefl _)
      have e1 : (h == i || L h) = false := by rw [hLh]; simp [hhi]
      simp only [e1, Bool.false_and, Bool.false_eq_true, if_false]
      by_cases hki : k = i
      · subst hki; rw [if_pos rfl]; exact hv.2
      · have hLk2 : L k = true := by simpa [hki] using hLk
        have h0 := hf k hk hLk2
        rw [hLh, Bool.false_and] at h0
        rw [if_neg hki]
        exact hmono k hk _ _ _ hv.1 (by simpa using h0)
    · -- beside it
      have hobl := DepsV.elim vs (D.getD i []) a0 (hop w hx) (fun x hxm => by
        obtain ⟨q1, q2⟩ := hdeps i hi x hxm
        rw [fat_take _ _ _ q2]
        have h0 := hf x.1 (by omega) (hdone x.1 (by omega) q1)
        cases hax : anc (Region.before l.toArray) h x.1
        · rw [hax, Bool.and_false] at h0
          rw [(hnot x.1 (by omega) hax).1]; simpa using h0
        · rw [hax, Bool.and_true] at h0
          cases hLh : L h
          · rw [hLh] at h0; exact (hanc x.1 (by omega) hax).1 _ _ _ (by simpa using h0)
          · rw [hLh] at h0; simpa using h0)
      rw [hdst] at hobl
      refine PostI.mono1 (fun v w' hv => ?_) hobl
      refine ⟨hx.trans hv.1, fun k hk hLk => ?_⟩
      have e1 : (h == i || L h) = L h := by
        have : (h == i) = false := by simp; exact fun e => hne e.symm
        rw [this, Bool.false_or]
      simp only [e1]
      by_cases hki : k = i
      · subst hki; rw [if_pos rfl, hna, Bool.and_false]; exact hv.2
      · have hLk2 : L k = true := by simpa [hki] using hLk
        have h0 := hf k hk hLk2
        rw [if_neg hki]
        split
        · rename_i hq
          rw [if_pos hq] at h0
          exact (hanc k hk (by rw [Bool.and_eq_true] at hq; exact hq.2)).2 _ _ _ h0
        · rename_i hq
          rw [if_neg hq] at h0
          exact hmono k hk _ _ _ hv.1 h0
  · intro vs w hI
    obtain ⟨hx, hf⟩ := hI
    refine EndV.elim vs Vs T 0 a0 (by simpa using hend w hx) (by rw [hlenV, C.len]) (fun j hj => ?_)
    rw [Nat.zero_add]
    have hjD : j < D.length := by omega
    have h0 := hf j hjD (by simp [hjD])
    cases ha : anc (Region.before l.toArray) h j
    · rw [ha, Bool.and_false] at h0
      rw [(hnot j hjD ha).1]; simpa using h0
    · rw [ha] at h0
      simpa [hh] using h0
  · have key : ∀ n k, k ≤ n → cnt (fun i => (Array.replicate n false).getD i false) k = k := by
      intro n k
      induction k with
      | zero => intro _; rfl
      | succ k ih => intro hk; rw [cnt, ih (by omega)]; simp [Array.getD]
    exact key _ _ (Nat.le_refl _)
  · intro i o ho hl
    simp [Array.getD] at hl
  · intro i hi _; simp [Array.getD]
  · have e : (fun i => (Array.replicate l.toArray.size false).getD i false) = fun _ => false := funext fun i => by simp [Array.getD]
    rw [e]; exact Desc.start _
  · refine ⟨(Ext.refl w0).drew, fun i _ hl => ?_⟩
    simp [Array.getD] at hl
section
variable {h i : Nat} {o : Oper} {l : List Oper} {d : List (Nat × Tmp)} {t : Option Tmp} {Fs Ws : List Fact}
theorem FromH.preEq (v : Value) (ha : anc B h i = true) (hop : ∀ w, Ext w0 w → DepsV Fs w d (fun a => wpList P ops (PostI a t fun u w' => Ext w w' ∧ eqF v w' u) [o] a w) a0)
    (hrest : FromH P ops Q a0 w0 T0 B h (i + 1) l D T (Fs ++ [eqF v]) (Ws ++ [valF (· = v)])) : FromH P ops Q a0 w0 T0 B h i (o :: l) (d :: D) (t :: T) Fs Ws :=
  .inr (.inl ⟨ha, eqF v, (· = v), fun _ _ _ _ hh => hh, fun _ _ hh => hh, hop, hrest⟩)
theorem FromH.pre (F : Fact) (W : Value → Prop) (ha : anc B h i = true) (hm : Mono F) (hw : ∀ w v, F w v → W v) (hop : ∀ w, Ext w0 w → DepsV Fs w d (fun a => wpList P ops (PostI a t fun u w' => Ext w w' ∧ F w' u) [o] a w) a0)
    (hrest : FromH P ops Q a0 w0 T0 B h (i + 1) l D T (Fs ++ [F]) (Ws ++ [valF W])) : FromH P ops Q a0 w0 T0 B h i (o :: l) (d :: D) (t :: T) Fs Ws :=
  .inr (.inl ⟨ha, F, W, hm, hw, hop, hrest⟩)
theorem FromH.wr (F : Fact) (he : i = h) (hm : Mono F) (hop : ∀ w, Ext w0 w → DepsV Fs w d (fun a => wpList P ops (PostI a t fun u w' => Ext w0 w' ∧ F w' u) [o] a w) a0)
    (hrest : FromH P ops Q a0 w0 T0 B h (i + 1) l D T (Fs ++ [F]) (Ws ++ [F])) : FromH P ops Q a0 w0 T0 B h i (o :: l) (d :: D) (t :: T) Fs Ws :=
  .inl ⟨he, F, hm, hop, hrest⟩
theorem FromH.beq (v : Value) (hne : i ≠ h) (ha : anc B h i = false) (hop : ∀ w, Ext w0 w → DepsV Ws w d (fun a => wpList P ops (PostI a t fun u w' => Ext w w' ∧ u = v) [o] a w) a0)
    (hrest : FromH P ops Q a0 w0 T0 B h (i + 1) l D T (Fs ++ [valF (· = v)]) (Ws ++ [valF (· = v)])) : FromH P ops Q a0 w0 T0 B h i (o :: l) (d :: D) (t :: T) Fs Ws :=
  .inr (.inr ⟨hne, ha, (· = v), hop, hrest⟩)
theorem FromH.be (W : Value → Prop) (hne : i ≠ h) (ha : anc B h i = false) (hop : ∀ w, Ext w0 w → DepsV Ws w d (fun a => wpList P ops (PostI a t fun u w' => Ext w w' ∧ W u) [o] a w) a0)
    (hrest : FromH P ops Q a0 w0 T0 B h (i + 1) l D T (Fs ++ [valF W]) (Ws ++ [valF W])) : FromH P ops Q a0 w0 T0 B h i (o :: l) (d :: D) (t :: T) Fs Ws :=
  .inr (.inr ⟨hne, ha, W, hop, hrest⟩)
theorem FromH.fin (hh : ∀ w, Ext w0 w → EndV w Ws T0 (fun a => wpList P ops Q l a w) a0) : FromH P ops Q a0 w0 T0 B h i l [] T Fs Ws := by
  cases l <;> exact hh
end
end
end Go.Proofs.Ytndiaamoapidoaa
