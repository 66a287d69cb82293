/- A region that draws its order and holds one step that writes into memory that was there. Turned by gen/regg.py from XRegH. -/
import Derived.Test.YtndiaamoapidoaaRegH
namespace Go.Proofs.Ytndiaamoapidoaa
open Go.RowKit
section
variable {P : Program} {ops : Array Oper} {Q : Exit → Act → World → Prop} {a0 : Act} {w0 : World} {R : World → Prop} {B : Array Nat} {D : List (List (Nat × Tmp))} {T T0 : List (Option Tmp)}
def FromG (P : Program) (ops : Array Oper) (Q : Exit → Act → World → Prop) (a0 : Act) (w0 : World) (R : World → Prop) (T0 : List (Option Tmp)) (B : Array Nat) (h : Nat) : Nat → List Oper → List (List (Nat × Tmp)) → List (Option Tmp) → List Fact → List Fact → Prop
  | i, o :: l, d :: D, t :: T, Fs, Ws =>
    (i = h ∧ ∃ F, Mono F ∧ (∀ w, Ext w0 w → DepsV Fs w d (fun a => wpList P ops (PostI a t fun v w' => R w' ∧ F w' v) [o] a w) a0) ∧ FromG P ops Q a0 w0 R T0 B h (i + 1) l D T (Fs ++ [F]) (Ws ++ [F])) ∨
    (anc B h i = true ∧ ∃ F, ∃ W : Value → Prop, Mono F ∧ (∀ w v, F w v → W v) ∧ (∀ w, Ext w0 w → DepsV Fs w d (fun a => wpList P ops (PostI a t fun v w' => Ext w w' ∧ F w' v) [o] a w) a0) ∧ FromG P ops Q a0 w0 R T0 B h (i + 1) l D T (Fs ++ [F]) (Ws ++ [valF W])) ∨
    (i ≠ h ∧ anc B h i = false ∧ ∃ W : Value → Prop, (∀ w, R w → DepsV Ws w d (fun a => wpList P ops (PostI a t fun v w' => Ext w w' ∧ W v) [o] a w) a0) ∧ FromG P ops Q a0 w0 R T0 B h (i + 1) l D T (Fs ++ [valF W]) (Ws ++ [valF W]))
  | _, l, _, _, _, Ws => ∀ w, R w → EndV w Ws T0 (fun a => wpList P ops Q l a w) a0

/-- What an operation of FromG says. -/
def SaysG (P : Program) (ops : Array Oper) (a0 : Act) (w0 : World) (R : World → Prop) (B : Array Nat) (h i : Nat) (o : Oper) (d : List (Nat × Tmp)) (t : Option Tmp) (Gs Vs : List Fact) : Prop :=
  (i = h ∧ Mono (fat Gs i) ∧ fat Vs i = fat Gs i ∧ ∀ w, Ext w0 w → DepsV (Gs.take i) w d (fun a => wpList P ops (PostI a t fun v w' => R w' ∧ fat Gs i w' v) [o] a w) a0) ∨
  (anc B h i = true ∧ Mono (fat Gs i) ∧ (∀ w w' v, fat Gs i w v → fat Vs i w' v) ∧ (∀ w w' v, fat Vs i w v → fat Vs i w' v) ∧ ∀ w, Ext w0 w → DepsV (Gs.take i) w d (fun a => wpList P ops (PostI a t fun v w' => Ext w w' ∧ fat Gs i w' v) [o] a w) a0) ∨
  (i ≠ h ∧ anc B h i = false ∧ fat Vs i = fat Gs i ∧ (∀ w w' v, fat Gs i w v → fat Gs i w' v) ∧ ∀ w, R w → DepsV (Vs.take i) w d (fun a => wpList P ops (PostI a t fun v w' => Ext w w' ∧ fat Gs i w' v) [o] a w) a0)

theorem FromG.out {h : Nat} : ∀ (l : List Oper) (D : List (List (Nat × Tmp))) (T : List (Option Tmp)) (Fs Ws : List Fact), Ws.length = Fs.length → FromG P ops Q a0 w0 R T0 B h Fs.length l D T Fs Ws → D.length ≤ l.length → T.length = D.length →
    ∃ Gs Vs : List Fact, Gs.length = D.length ∧ Vs.length = D.length ∧ (∀ i, i < D.length → ∀ o, l[i]? = some o → SaysG P ops a0 w0 R B h (Fs.length + i) o (D.getD i []) (T.getD i none) (Fs ++ Gs) (Ws ++ Vs)) ∧
      (∀ w, R w → EndV w (Ws ++ Vs) T0 (fun a => wpList P ops Q (l.drop D.length) a w) a0) := by
  intro l D
  induction D generalizing l with
  | nil =>
    intro T Fs Ws hlW hF _ hT
    refine ⟨[], [], rfl, rfl, fun i hi => by simp at hi, ?_⟩
    cases l <;> simpa [FromG] using hF
  | cons d D ih =>
    intro T Fs Ws hlW hF hl hT
    cases l with
    | nil => simp at hl
    | cons o l =>
      cases T with
      | nil => simp at hT
      | cons t T =>
        have key : ∀ (F V : Fact), FromG P ops Q a0 w0 R T0 B h (Fs.length + 1) l D T (Fs ++ [F]) (Ws ++ [V]) →
            (∀ Gs Vs, SaysG P ops a0 w0 R B h Fs.length o d t (Fs ++ F :: Gs) (Ws ++ V :: Vs)) →
            ∃ Gs Vs : List Fact, Gs.length = (d :: D).length ∧ Vs.length = (d :: D).length ∧ (∀ i, i < (d :: D).length → ∀ o', (o :: l)[i]? = some o' → SaysG P ops a0 w0 R B h (Fs.length + i) o' ((d :: D).getD i []) ((t :: T).getD i none) (Fs ++ Gs) (Ws ++ Vs)) ∧
              (∀ w, R w → EndV w (Ws ++ Vs) T0 (fun a => wpList P ops Q ((o :: l).drop (d :: D).length) a w) a0) := fun F V hrest hsay => by
          obtain ⟨Gs, Vs, h1, h2, h3, h4⟩ := ih l T (Fs ++ [F]) (Ws ++ [V]) (by simp [hlW]) (by simpa using hrest) (by simpa using hl) (by simpa using hT)
          refine ⟨F :: Gs, V :: Vs, by simp [h1], by simp [h2], fun i hi o' ho' => ?_, fun w hx => by simpa using h4 w hx⟩
          cases i with
          | zero =>
            obtain rfl : o = o' := by simpa using ho'
            exact hsay Gs Vs
          | succ i =>
            have := h3 i (by simpa using hi) o' (by simpa using ho')
            simp only [List.length_append, List.length_singleton, List.append_assoc, List.singleton_append] at this
            rw [show Fs.length + (i + 1) = Fs.length + 1 + i from by omega]
            simpa using this
        have tk : ∀ (F : Fact) (Gs : List Fact), (Fs ++ F :: Gs).take Fs.length = Fs := fun F Gs => by simp
        have tk2 : ∀ (F : Fact) (Gs : List Fact), (Ws ++ F :: Gs).take Fs.length = Ws := fun F Gs => by rw [← hlW]; simp
        have fw : ∀ (F : Fact) (Gs : List Fact), fat (Ws ++ F :: Gs) Fs.length = F := fun F Gs => by rw [← hlW]; exact fat_app _ _ _
        rcases hF with ⟨hi, F, hm, hop, hrest⟩ | ⟨hi, F, W, hm, hFW, hop, hrest⟩ | ⟨hi, hi2, W, hop, hrest⟩
        · exact key F F hrest fun Gs Vs => .inl ⟨hi, by rw [fat_app]; exact hm, by rw [fat_app, fw], by rw [fat_app, tk]; exact hop⟩
        · exact key F (valF W) hrest fun Gs Vs => .inr (.inl ⟨hi, by rw [fat_app]; exact hm, by rw [fat_app, fw]; exact fun w _ v hh => hFW w v hh, by rw [fw]; exact fun _ _ _ hh => hh, by rw [fat_app, tk]; exact hop⟩)
        · exact key (valF W) (valF W) hrest fun Gs Vs => .inr (.inr ⟨hi, hi2, by rw [fat_app, fw], by rw [fat_app]; exact fun _ _ _ hh => hh, by rw [fat_app, tk2]; exact hop⟩)

theorem SaysG.mono {h i : Nat} {o : Oper} {d : List (Nat × Tmp)} {t : Option Tmp} {Gs Vs : List Fact} (s : SaysG P ops a0 w0 R B h i o d t Gs Vs) : Mono (fat Gs i) := by
  rcases s with ⟨_, hm, _⟩ | ⟨_, hm, _⟩ | ⟨_, _, _, hm, _⟩
  · exact hm
  · exact hm
  · exact fun w w' v _ hh => hm w w' v hh

/-- **A region that draws its order, by facts, with one step h that writes into memory that the region made.** -/
theorem region_factsG {id : Nat} {l : List Oper} (R : World → Prop) (hR0 : ∀ w, Ext w0 w → R w) (hR : ∀ w w', R w → Ext w w' → R w') (h : Nat) (D : List (List (Nat × Tmp))) (T : List (Option Tmp)) (hm : P.follows .mixedOrders = true) (hc : chk l.toArray (Region.before l.toArray) D T = true) (hh : h < D.length)
    (hF : FromG P l.toArray Q a0 w0 R T (Region.before l.toArray) h 0 l D T [] []) : (Code.region id l.toArray true).wp P Q a0 w0 := by
  have C := Chk.of hc
  obtain ⟨Gs, Vs, hlen, hlenV, hS0, hend⟩ := FromG.out l D T [] [] rfl hF (by simpa using C.le) C.len
  have hS : ∀ i, i < D.length → ∀ o, l[i]? = some o → SaysG P l.toArray a0 w0 R (Region.before l.toArray) h i o (D.getD i []) (T.getD i none) Gs Vs := fun i hi o ho => by simpa using hS0 i hi o ho
  have hle := C.le
  have hex : ∀ i, i < D.length → ∃ o, l[i]? = some o := fun i hi => ⟨_, List.getElem?_eq_getElem (by simp at hle; omega)⟩
  have hlt : ∀ i j, i < D.length → j < l.toArray.size → anc (Region.before l.toArray) i j = true → j < i := fun i j hi hj ha => C.anc_lt i (by omega) j hj ha
  have hmono : ∀ i, i < D.length → Mono (fat Gs i) := fun i hi => by obtain ⟨o, ho⟩ := hex i hi; exact (hS i hi o ho).mono
  have hanc : ∀ i, i < D.length → anc (Region.before l.toArray) h i = true → (∀ w w' v, fat Gs i w v → fat Vs i w' v) ∧ ∀ w w' v, fat Vs i w v → fat Vs i w' v := fun i hi ha => by
    obtain ⟨o, ho⟩ := hex i hi
    have hih := hlt h i hh (by omega) ha
    rcases hS i hi o ho with ⟨e, _⟩ | ⟨_, _, k1, k2, _⟩ | ⟨_, e, _⟩
    · omega
    · exact ⟨k1, k2⟩
    · rw [ha] at e; cases e
  have hnot : ∀ i, i < D.length → anc (Region.before l.toArray) h i = false → fat Vs i = fat Gs i ∧ (i ≠ h → ∀ w w' v, fat Gs i w v → fat Gs i w' v) := fun i hi ha => by
    obtain ⟨o, ho⟩ := hex i hi
    rcases hS i hi o ho with ⟨e, _, k, _⟩ | ⟨e, _⟩ | ⟨_, _, k1, k2, _⟩
    · exact ⟨k, fun hne => absurd e hne⟩
    · rw [ha] at e; cases e
    · exact ⟨k1, fun _ => k2⟩
  have hdeps : ∀ i, i < D.length → ∀ x ∈ D.getD i [], anc (Region.before l.toArray) i x.1 = true ∧ x.1 < i := fun i hi x hx => by
    obtain ⟨o, ho⟩ := hex i hi
    obtain ⟨h1, h2⟩ := (C.op i o (by simpa using ho)).deps hi x hx
    have hxs : x.1 < l.toArray.size := by
      cases hq : l.toArray[x.1]? with
      | none => rw [hq] at h2; cases h2
      | some _ => exact (Array.getElem?_eq_some_iff.1 hq).1
    exact ⟨h1, hlt i x.1 hi hxs h1⟩
  refine wp_region_any hm ?_
  refine C.headI (a0 := a0) l rfl (fun L vs w => ((L h = false → Ext w0 w) ∧ R w) ∧ ∀ i, i < D.length → L i = true → if L h && anc (Region.before l.toArray) h i then fat Vs i w (vs i) else fat Gs i w (vs i)) ?_ ?_ _ _ (fun _ => undef) a0 _ (by simp) ?_ ?_ ?_ ?_ ?_
  · intro i o L vs w hi ho hLi hdone hclosed hI
    obtain ⟨⟨hx, hxR⟩, hf⟩ := hI
    have hdst : T.getD i none = o.dst := (C.op i o (by simpa using ho)).dst hi
    have hihh : L h = true → anc (Region.before l.toArray) h i = false := fun hLh => by
      cases ha : anc (Region.before l.toArray) h i
      · rfl
      · have := hclosed h (by omega) hLh i (by omega) ha
        rw [hLi] at this; cases this
    rcases hS i hi o ho with ⟨rfl, hm1, hVG, hop⟩ | ⟨ha, hm1, k1, k2, hop⟩ | ⟨hne, hna, hVG, hind, hop⟩
    · -- the writing step
      have hobl := DepsV.elim vs (D.getD i []) a0 (hop w (hx hLi)) (fun x hxm => by
        obtain ⟨q1, q2⟩ := hdeps i hi x hxm
        rw [fat_take _ _ _ q2]
        have := hf x.1 (by omega) (hdone x.1 (by omega) q1)
        rw [hLi] at this; exact this)
      rw [hdst] at hobl
      refine PostI.mono1 (fun v w' hv => ?_) hobl
      refine ⟨⟨fun e => by simp at e, hv.1⟩, fun k hk hLk => ?_⟩
      have hself : anc (Region.before l.toArray) i i = false := by
        cases hq : anc (Region.before l.toArray) i i
        · rfl
        · exact absurd (hlt i i hi (by omega) hq) (Nat.lt_irrefl _)
      by_cases hki : k = i
      · subst hki; simp only [BEq.rfl, Bool.true_or, Bool.true_and, hself, if_true]; exact hv.2
      · have hLk2 : L k = true := by simpa [hki] using hLk
        have h0 := hf k hk hLk2
        rw [hLi, Bool.false_and] at h0
        simp only [if_neg hki, BEq.rfl, Bool.true_or, Bool.true_and] at h0 ⊢
        cases hak : anc (Region.before l.toArray) i k
        · simp only [Bool.false_eq_true, if_false] at h0 ⊢
          exact (hnot k hk hak).2 hki _ _ _ h0
        · simp only [Bool.false_eq_true, if_false, if_true] at h0 ⊢
          exact (hanc k hk hak).1 _ _ _ h0
    · -- before it
      have hLh : L h = false := by
        cases hq : L h
        · rfl
        · rw [hihh hq] at ha; cases ha
      have hobl := DepsV.elim vs (D.getD i []) a0 (hop w (hx hLh)) (fun x hxm => by
        obtain ⟨q1, q2⟩ := hdeps i hi x hxm
        rw [fat_take _ _ _ q2]
        have := hf x.1 (by omega) (hdone x.1 (by omega) q1)
        rw [hLh] at this; exact this)
      rw [hdst] at hobl
      refine PostI.mono1 (fun v w' hv => ?_) hobl
      refine ⟨⟨fun _ => (hx hLh).trans hv.1, hR _ _ hxR hv.1⟩, fun k hk hLk => ?_⟩
      have hhi : h ≠ i := fun e => by subst e; exact absurd (hlt h h hh (by omega) ha) (Nat.lt_irrefl _)
      have e1 : (h == i || L h) = false := by rw [hLh]; simp [hhi]
      simp only [e1, Bool.false_and, Bool.false_eq_true, if_false]
      by_cases hki : k = i
      · subst hki; rw [if_pos rfl]; exact hv.2
      · have hLk2 : L k = true := by simpa [hki] using hLk
        have h0 := hf k hk hLk2
        rw [hLh, Bool.false_and] at h0
        rw [if_neg hki]
        exact hmono k hk _ _ _ hv.1 (by simpa using h0)
    · -- beside it
      have hobl := DepsV.elim vs (D.getD i []) a0 (hop w hxR) (fun x hxm => by
        obtain ⟨q1, q2⟩ := hdeps i hi x hxm
        rw [fat_take _ _ _ q2]
        have h0 := hf x.1 (by omega) (hdone x.1 (by omega) q1)
        cases hax : anc (Region.before l.toArray) h x.1
        · rw [hax, Bool.and_false] at h0
          rw [(hnot x.1 (by omega) hax).1]; simpa using h0
        · rw [hax, Bool.and_true] at h0
          cases hLh : L h
          · rw [hLh] at h0; exact (hanc x.1 (by omega) hax).1 _ _ _ (by simpa using h0)
          · rw [hLh] at h0; simpa using h0)
      rw [hdst] at hobl
      refine PostI.mono1 (fun v w' hv => ?_) hobl
      refine ⟨⟨fun e => (hx (by cases hq : L h with
        | false => rfl
        | true => simp [hq] at e)).trans hv.1, hR _ _ hxR hv.1⟩, fun k hk hLk => ?_⟩
      have e1 : (h == i || L h) = L h := by
        have : (h == i) = false := by simp; exact fun e => hne e.symm
        rw [this, Bool.false_or]
      simp only [e1]
      by_cases hki : k = i
      · subst hki; rw [if_pos rfl, hna, Bool.and_false]; exact hv.2
      · have hLk2 : L k = true := by simpa [hki] using hLk
        have h0 := hf k hk hLk2
        rw [if_neg hki]
        split
        · rename_i hq
          rw [if_pos hq] at h0
          exact (hanc k hk (by rw [Bool.and_eq_true] at hq; exact hq.2)).2 _ _ _ h0
        · rename_i hq
          rw [if_neg hq] at h0
          exact hmono k hk _ _ _ hv.1 h0
  · intro vs w hI
    obtain ⟨⟨_, hx⟩, hf⟩ := hI
    refine EndV.elim vs Vs T 0 a0 (by simpa using hend w hx) (by rw [hlenV, C.len]) (fun j hj => ?_)
    rw [Nat.zero_add]
    have hjD : j < D.length := by omega
    have h0 := hf j hjD (by simp [hjD])
    cases ha : anc (Region.before l.toArray) h j
    · rw [ha, Bool.and_false] at h0
      rw [(hnot j hjD ha).1]; simpa using h0
    · rw [ha] at h0
      simpa [hh] using h0
  · have key : ∀ n k, k ≤ n → cnt (fun i => (Array.replicate n false).getD i false) k = k := by
      intro n k
      induction k with
      | zero => intro _; rfl
      | succ k ih => intro hk; rw [cnt, ih (by omega)]; simp [Array.getD]
    exact key _ _ (Nat.le_refl _)
  · intro i o ho hl
    simp [Array.getD] at hl
  · intro i hi _; simp [Array.getD]
  · have e : (fun i => (Array.replicate l.toArray.size false).getD i false) = fun _ => false := funext fun i => by simp [Array.getD]
    rw [e]; exact Desc.start _
  · refine ⟨⟨fun _ => (Ext.refl w0).drew, hR0 _ (Ext.refl w0).drew⟩, fun i _ hl => ?_⟩
    simp [Array.getD] at hl
section
variable {h i : Nat} {o : Oper} {l : List Oper} {d : List (Nat × Tmp)} {t : Option Tmp} {Fs Ws : List Fact}
theorem FromG.preEq (v : Value) (ha : anc B h i = true) (hop : ∀ w, Ext w0 w → DepsV Fs w d (fun a => wpList P ops (PostI a t fun u w' => Ext w w' ∧ eqF v w' u) [o] a w) a0)
    (hrest : FromG P ops Q a0 w0 R T0 B h (i + 1) l D T (Fs ++ [eqF v]) (Ws ++ [valF (· = v)])) : FromG P ops Q a0 w0 R T0 B h i (o :: l) (d :: D) (t :: T) Fs Ws :=
  .inr (.inl ⟨ha, eqF v, (· = v), fun _ _ _ _ hh => hh, fun _ _ hh => hh, hop, hrest⟩)
theorem FromG.pre (F : Fact) (W : Value → Prop) (ha : anc B h i = true) (hm : Mono F) (hw : ∀ w v, F w v → W v) (hop : ∀ w, Ext w0 w → DepsV Fs w d (fun a => wpList P ops (PostI a t fun u w' => Ext w w' ∧ F w' u) [o] a w) a0)
    (hrest : FromG P ops Q a0 w0 R T0 B h (i + 1) l D T (Fs ++ [F]) (Ws ++ [valF W])) : FromG P ops Q a0 w0 R T0 B h i (o :: l) (d :: D) (t :: T) Fs Ws :=
  .inr (.inl ⟨ha, F, W, hm, hw, hop, hrest⟩)
theorem FromG.wr (F : Fact) (he : i = h) (hm : Mono F) (hop : ∀ w, Ext w0 w → DepsV Fs w d (fun a => wpList P ops (PostI a t fun u w' => R w' ∧ F w' u) [o] a w) a0)
    (hrest : FromG P ops Q a0 w0 R T0 B h (i + 1) l D T (Fs ++ [F]) (Ws ++ [F])) : FromG P ops Q a0 w0 R T0 B h i (o :: l) (d :: D) (t :: T) Fs Ws :=
  .inl ⟨he, F, hm, hop, hrest⟩
theorem FromG.beq (v : Value) (hne : i ≠ h) (ha : anc B h i = false) (hop : ∀ w, R w → DepsV Ws w d (fun a => wpList P ops (PostI a t fun u w' => Ext w w' ∧ u = v) [o] a w) a0)
    (hrest : FromG P ops Q a0 w0 R T0 B h (i + 1) l D T (Fs ++ [valF (· = v)]) (Ws ++ [valF (· = v)])) : FromG P ops Q a0 w0 R T0 B h i (o :: l) (d :: D) (t :: T) Fs Ws :=
  .inr (.inr ⟨hne, ha, (· = v), hop, hrest⟩)
theorem FromG.be (W : Value → Prop) (hne : i ≠ h) (ha : anc B h i = false) (hop : ∀ w, R w → DepsV Ws w d (fun a => wpList P ops (PostI a t fun u w' => Ext w w' ∧ W u) [o] a w) a0)
    (hrest : FromG P ops Q a0 w0 R T0 B h (i + 1) l D T (Fs ++ [valF W]) (Ws ++ [valF W])) : FromG P ops Q a0 w0 R T0 B h i (o :: l) (d :: D) (t :: T) Fs Ws :=
  .inr (.inr ⟨hne, ha, W, hop, hrest⟩)
theorem FromG.fin (hh : ∀ w, R w → EndV w Ws T0 (fun a => wpList P ops Q l a w) a0) : FromG P ops Q a0 w0 R T0 B h i l [] T Fs Ws := by
  cases l <;> exact hh
end
end
end Go.Proofs.Ytndiaamoapidoaa
