/- Contracts: the document's lines, Close. -/
import Derived.Test.YtgnngifnoaagjaaCd12
import Derived.Test.YtgnngifnoaagjaaRegM
namespace Go.Proofs.Ytgnngifnoaagjaa
open Go.RowKit

theorem ownsRow_keep {w w' : World} {base e size n : Nat} {v : Value} {xs : List Value} (h : w.ownsRow base e size v n xs) (hk : ∀ k, v.ownBlock = some k → w'.heap[k]? = w.heap[k]?) : w'.ownsRow base e size v n xs := by
  refine ⟨h.1, ?_⟩
  rcases h.2 with hn | ⟨g, cap, cur, rfl, hb, hgg, rest⟩
  · exact .inl hn
  · exact .inr ⟨g, cap, cur, rfl, hb, (hk g rfl).trans hgg, rest⟩
/-- append(v, x), x a number that was laid into a cell of its own, with the place of what is returned. -/
theorem wpList_appU1 {ops : Array Oper} {rest : List Oper} {o : Oper} {a : Act} {w : World} {Q : Exit → Act → World → Prop} (hgd : o.guard = none) (s x : Operand)
    (ho : o.op = .call { callee := .builtin .append, args := #[s, x], argTypes := #[25, 25] })
    (base : Nat) (v : Value) (l : List Nat) (hs : a.eval s = v) (hown : Own w base v l) (g y c : Nat)
    (hx : a.eval x = .slice (some ⟨g, 0, none⟩) 1 c) (hr : w.cell? ⟨g, 0, none⟩ = some (.int .u64 (y : Int))) (hl : l.length + 1 ≤ 1000000000) (hbase : base ≤ w.heap.size)
    (h : ∀ v' w', Own w' base v' (l ++ [y]) → (∀ w0, Ext w0 w → w0.heap.size ≤ base → Ext w0 w') → (∀ k, k < w.heap.size → v.ownBlock ≠ some k → w'.heap[k]? = w.heap[k]?) → w.heap.size ≤ w'.heap.size → (v'.ownBlock = v.ownBlock ∨ v'.ownBlock = some w.heap.size) → wpList Try.prog ops Q rest (a.put o.dst v') w') : wpList Try.prog ops Q (o :: rest) a w := by
  obtain ⟨i0, hi, hz0, hz1, hz2⟩ := info_parts info_u64
  refine wpList_appG hgd s x 25 22 i0 (.int .u64 0) 1 8 ho Try.underlying25 hi hz0 hz1 hz2 rfl (by decide) (by decide) base v l.length (rowL l) hs hown ⟨g, 0, none⟩ 1 c (rowL [y]) hx (by simp [rowL]) ?_ (one_rowL _) (by decide) hl hbase ?_
  · intro j u hu
    have hj : j = 0 := by
      rcases Nat.eq_zero_or_pos j with e | e
      · exact e
      · rw [List.getElem?_eq_none (by simp [rowL]; omega)] at hu; cases hu
    subst hj
    have hadd : (⟨g, 0, none⟩ : Addr).add 0 = ⟨g, 0, none⟩ := by unfold Addr.add; split <;> simp_all
    rw [hadd, hr]
    simpa [rowL] using hu
  · intro v' w' h2 h3 h4 h5 h6
    refine h v' w' ?_ h3 h4 h5 h6
    unfold Own
    rw [rowL_app, List.length_append]; exact h2

def RlPost (w : World) (R : List (Nat × List Nat)) (e : Ending) (w' : World) : Prop :=
  ∃ v1 v2 L, e = .returned (.tuple #[v1, v2]) ∧ Own w' w.heap.size v1 (R.map (·.1)) ∧ OwnV w' w.heap.size v2 L ∧ Rows2 w' L (R.map (·.2)) ∧ Ext w w'
def RlRel (p N K : Nat) (a b : List Nat) (e : Int) (w1 : World) (v1 v2 s : Value) (wr : World) : Prop :=
  ∃ (j : Nat) (L : List SlC), s = .int .u64 j ∧ j ≤ p ∧ Own wr w1.heap.size v1 ((lineK p N K a b e j).map (·.1)) ∧ OwnV wr w1.heap.size v2 L ∧ Rows2 wr L ((lineK p N K a b e j).map (·.2)) ∧
    (∀ i, i < L.length → Off v2 wr.heap.size (L.getD i (none, 0, 0)).1) ∧ (∀ i, i < L.length → Off v1 wr.heap.size (L.getD i (none, 0, 0)).1) ∧ (∀ k, v1.ownBlock = some k → v2.ownBlock ≠ some k) ∧ Ext w1 wr
theorem RfoldLn_c (p N : Nat) (x y : List Nat) (hv : vld p = true) (hx : x.length = N) (hy : y.length = N) (hN : N ≤ 1000) (r g : Nat) (A B C : Option Addr) (ca cb : Nat) (w : World) (h0 : w.cell? ⟨g, 0, none⟩ = some (celV (A, N, ca))) (h1 : w.cell? ⟨g, 1, none⟩ = some (celV (B, N, cb))) (hA : Rd w A x) (hB : Rd w B y) (hC : Rd w C [1, r]) :
    Calls Try.prog 33 #[.int .u64 p, .slice (some ⟨g, 0, none⟩) 2 2, .slice C 2 2] w (SlPost w (lnw p N x y r)) := by
  have := RFold_c p [x, y] [1, r] (some ⟨g, 0, none⟩) C 2 2 w ((Rows2.two (c := ca) (d := cb) hA hB).rdR (RdV.two (by rw [hx]; exact h0) (by rw [hy]; exact h1))) hC (by simp) (by simp; omega)
  rw [lnw_fold hv hx hy] at this
  exact this
theorem append_two {v1 v2 u1 : Value} {wr wa w6 : World} {base : Nat} {rs : List Nat} {L : List SlC} {rows : List (List Nat)} {l : List Nat} {a5 : Option Addr}
    (h1 : Own wr base v1 rs) (h2 : OwnV wr base v2 L) (hr : Rows2 wr L rows) (o2 : ∀ i, i < L.length → Off v2 wr.heap.size (L.getD i (none, 0, 0)).1) (o1 : ∀ i, i < L.length → Off v1 wr.heap.size (L.getD i (none, 0, 0)).1) (hd : ∀ k, v1.ownBlock = some k → v2.ownBlock ≠ some k)
    (hx : Ext wr wa) (h5 : Rd wa a5 l) (p5 : ∀ q : Addr, a5 = some q → wr.heap.size ≤ q.block ∧ q.block < wa.heap.size)
    (k6 : ∀ k, k < wa.heap.size → v1.ownBlock ≠ some k → w6.heap[k]? = wa.heap[k]?) (s6 : wa.heap.size ≤ w6.heap.size) (b6 : u1.ownBlock = v1.ownBlock ∨ u1.ownBlock = some wa.heap.size) :
    OwnV w6 base v2 L ∧ Rows2 w6 L rows ∧ Rd w6 a5 l ∧ (∀ i, i < L.length → Off v2 w6.heap.size (L.getD i (none, 0, 0)).1) ∧ (∀ i, i < L.length → Off u1 w6.heap.size (L.getD i (none, 0, 0)).1) ∧ Off u1 w6.heap.size a5 ∧ Off v2 w6.heap.size a5 ∧ (∀ k, u1.ownBlock = some k → v2.ownBlock ≠ some k) := by
  have hsz := hx.size
  have b1 : ∀ k, v1.ownBlock = some k → k < wr.heap.size := fun k hk => (World.ownsRow.lt h1 k hk).2
  have b2 : ∀ k, v2.ownBlock = some k → k < wr.heap.size := fun k hk => (World.ownsRow.lt h2 k hk).2
  have q5 : Off v1 wa.heap.size a5 := fun q hq => ⟨(p5 q hq).2, fun h => by have := b1 _ h; have := (p5 q hq).1; omega⟩
  refine ⟨ownsRow_keep (h2.grow hx) (fun k hk => k6 k (by have := b2 k hk; omega) (fun h => hd k h hk)), ⟨hr.1, fun i hi => ⟨(hr.2 i hi).1, ((hr.2 i hi).2.ext hx).keepV (o1 i (by rw [hr.1]; exact hi)) hsz k6⟩⟩, h5.keepV q5 (Nat.le_refl _) k6,
    fun i hi q hq => ⟨by have := (o2 i hi q hq).1; omega, (o2 i hi q hq).2⟩, fun i hi q hq => ⟨by have := (o1 i hi q hq).1; omega, fun h => ?_⟩, fun q hq => ⟨by have := (p5 q hq).2; omega, fun h => ?_⟩, fun q hq => ⟨by have := (p5 q hq).2; omega, fun h => by have := b2 _ h; have := (p5 q hq).1; omega⟩, fun k hk h => ?_⟩
  · rcases b6 with e | e
    · rw [e] at h; exact (o1 i hi q hq).2 h
    · rw [e] at h; injection h with h; have := (o1 i hi q hq).1; omega
  · rcases b6 with e | e
    · rw [e] at h; exact (q5 q hq).2 h
    · rw [e] at h; injection h with h; have := (p5 q hq).2; omega
  · rcases b6 with e | e
    · rw [e] at hk; exact hd k hk h
    · rw [e] at hk; injection hk with hk; have := b2 _ h; omega

set_option maxRecDepth 100000 in
set_option maxHeartbeats 8000000 in
theorem RLines_c (p N K : Nat) (l m : List Nat) (e : Int) (a b : Option Addr) (c d : Nat) (w : World) (hc : cval p N K = true) (hp : p ≤ 257) (hl : l.length = N) (hm : m.length = N) (he : 2 * e ≤ (N : Int) - (K : Int)) (ha : Rd w a l) (hb : Rd w b m) :
    Calls Try.prog 60 #[.agg #[.int .u64 p, .int .i64 (N : Int), .int .i64 (K : Int)], .slice a N c, .slice b N d, .int .i64 e] w (RlPost w (lineM p N K l m e)) := by
  have HA := Lib.hid ha
  have HB := Lib.hid hb
  clear ha hb
  have h0 : (w.alloc (.cells #[.int .u64 p, .int .i64 (N : Int), .int .i64 (K : Int)] 24)).cell? ⟨w.heap.size, 0, none⟩ = some (.int .u64 p) := by simp
  have h1 : (w.alloc (.cells #[.int .u64 p, .int .i64 (N : Int), .int .i64 (K : Int)] 24)).cell? ⟨w.heap.size, 1, none⟩ = some (.int .i64 (N : Int)) := by simp
  have h2 : (w.alloc (.cells #[.int .u64 p, .int .i64 (N : Int), .int .i64 (K : Int)] 24)).cell? ⟨w.heap.size, 2, none⟩ = some (.int .i64 (K : Int)) := by simp
  obtain ⟨hv, f, K', N', hf, hN, hN', hK', hK1, hK2, hNp, hd, ho⟩ := cval_spec hc
  obtain rfl : N' = N := by omega
  obtain rfl : K' = K := by omega
  have hN2 : N' ≤ 256 := by rw [hN]; exact Nat.pow_le_pow_right (n := 2) (by omega) hf
  have HC := Lib.hid hc
  have HV := Lib.hid hv
  have HB1 := Lib.hid hl
  have HB2 := Lib.hid hm
  have NS := fun (x : List Nat) (hx : x.length = N') => show rNear p N' K' x e = nearM p N' K' x e from by
    have hd2 : (p - 1) % 2 ^ f = 0 := by rw [← hN]; exact hd
    rw [hN] at hx ⊢
    exact near_same2 hv hd2 (by rw [← hN]; exact hK2) x hx e (by rw [← hN]; exact he)
  have NC := Lib.hid (fun (x : List Nat) w' (a : Option Addr) (c : Nat) (hr : Rd w' a x) (hx : x.length = N') => by
    have := RNear_c p N' K' x e a c w' HC.out hr (by omega)
    rw [NS x hx] at this
    exact this)
  have FC := Lib.hid (fun (r g : Nat) (A B C : Option Addr) (ca cb : Nat) w' h0 h1 hA hB hC => RfoldLn_c p N' l m HV.out HB1.out HB2.out (by omega) r g A B C ca cb w' h0 h1 hA hB hC)
  clear hc hl hm he hN hN' hK' hd ho hv NS
  go_enter Try.func60, Try.ntmps60
  go_wp2_with fail
  have X : Ext w (w.alloc (.cells #[.int .u64 p, .int .i64 (N' : Int), .int .i64 (K' : Int)] 24)) := (Ext.refl _).alloc _
  obtain ⟨w2, hw2⟩ : ∃ q, q = w.alloc (.cells #[.int .u64 p, .int .i64 (N' : Int), .int .i64 (K' : Int)] 24) := ⟨_, rfl⟩
  rw [← hw2] at X h0 h1 h2
  rw [← hw2]
  clear hw2
  have XW2 := Lib.hid X
  go_loopw [10, 11, 12] (RlRel p N' K' l m e w2) (fun _ _ i _ => p - (intOf i).toNat)
  case atStart => exact ⟨0, [], rfl, Nat.zero_le _, Own.nil _ _, OwnV.nil _ _, Rows2.nil _, fun i hi => absurd hi (by simp), fun i hi => absurd hi (by simp), fun k hk => (by cases hk), Ext.refl _⟩
  case round =>
    obtain ⟨j, L0, rfl, hj, ho1, ho2, hr, hoff2, hoff1, hdis, hext⟩ := hrel
    replace h0 := hext.cell h0
    replace h1 := hext.cell h1
    replace h2 := hext.cell h2
    replace X := X.trans hext
    have HO1 := Lib.hid ho1
    have HO2 := Lib.hid ho2
    have HR := Lib.hid hr
    have HF1 := Lib.hid hoff1
    have HF2 := Lib.hid hoff2
    have HD := Lib.hid hdis
    have HXX := Lib.hid hext
    have HLEN := Lib.hid (show L0.length ≤ 257 ∧ ((lineK p N' K' l m e j).map (·.1)).length ≤ 257 from by
      have := hr.1; have := lineK_len p N' K' l m e j; simp at this ⊢; constructor <;> (try simp_all) <;> omega)
    clear ho1 ho2 hr hoff1 hoff2 hdis hext
    by_cases hlt : j < p
    · have E1 : Hid (lineK p N' K' l m e (j + 1) = lineK p N' K' l m e j ++ (match nearM p N' K' (lnw p N' l m j) e with | some x => [(j, x)] | none => [])) := Lib.hid rfl
      obtain ⟨LW, hLW⟩ : ∃ L, L = lnw p N' l m j := ⟨_, rfl⟩
      have hwl : LW.length = N' := by rw [hLW]; exact lnw_len _ _ _ _ _
      have HWL := Lib.hid hwl
      have FCJ := FC.out j
      have NCJ := NC.out LW
      rw [← hLW] at E1 FCJ
      have HFC := Lib.hid FCJ
      clear hLW hwl FCJ
      cases hnm : nearM p N' K' LW e with
      | none =>
        rw [hnm] at NCJ
        have HE1 : Hid (lineK p N' K' l m e (j + 1) = lineK p N' K' l m e j ++ []) := Lib.hid (by rw [E1.out, hnm])
        have HNC : Hid (∀ w' (a : Option Addr) (c : Nat), Rd w' a LW → LW.length = N' → Calls Try.prog 28 #[.agg #[.int .u64 p, .int .i64 N', .int .i64 K'], .slice a N' c, .int .i64 e] w' fun e w'' => ∃ v, e = .returned (.tuple #[v, .bool false]) ∧ Own w'' w'.heap.size v [] ∧ Ext w' w'') := Lib.hid (fun w' a c h hl => by have := NCJ w' a c h hl; rw [hl] at this; exact this)
        clear NCJ E1 hnm
        go_wp2_with fail
        refine region_factsL [[], [], [(1, 23)], [], [], [(3, 25), (4, 26)], [], [(6, 28)], [(2, 24), (5, 27), (7, 29)], [], [(0, 22), (8, 30), (9, 31)], [(10, 32)], [(11, 21)], [(11, 21)], [(12, 33)], [(13, 34)]] [some 22, some 23, some 24, some 25, some 26, some 27, some 28, some 29, some 30, some 31, some 32, some 21, some 33, some 34, some 13, some 14] [false, true, true, true, true, false, false, false, false, false, false, false, true, false, false, false, false, false, false, false, false, false, false, false, false, false, false, false, false, false, false, false, false, false, false, false, false, false, false, false, false, false, false, false, false, false] (by kernel_rfl) (by kernel_rfl) (by kernel_rfl) ?_
        dsimp only [maskL]
        with_reducible apply FromM.eq
        · intro w' hx; have h0x := hx.cell h0; have h1x := hx.cell h1; have h2x := hx.cell h2; (try dsimp only [List.nil_append, List.cons_append, DepsL, DepsL1, setO, setN, favs, opsOf]); go_wp2; exact OpPostE.some _ rfl rfl (Ext.refl _) rfl
        with_reducible apply FromM.eq
        · intro w' hx; (try dsimp only [List.nil_append, List.cons_append, DepsL, DepsL1, setO, setN, favs, opsOf]); go_wp2; exact OpPostE.some _ rfl rfl (Ext.refl _) rfl
        with_reducible apply FromM.eq
        · intro w' hx; have h0x := hx.cell h0; have h1x := hx.cell h1; have h2x := hx.cell h2; (try dsimp only [List.nil_append, List.cons_append, DepsL, DepsL1, setO, setN, favs, opsOf]); go_wp2; exact OpPostE.some _ rfl rfl (Ext.refl _) rfl
        with_reducible apply FromM.eq
        · intro w' hx; (try dsimp only [List.nil_append, List.cons_append, DepsL, DepsL1, setO, setN, favs, opsOf]); go_wp2; exact OpPostE.some _ rfl rfl (Ext.refl _) rfl
        with_reducible apply FromM.eq
        · intro w' hx; (try dsimp only [List.nil_append, List.cons_append, DepsL, DepsL1, setO, setN, favs, opsOf]); go_wp2; exact OpPostE.some _ rfl rfl (Ext.refl _) rfl
        -- 5: t27
        refine FromM.step (TwoF (a, N', c) (b, N', d)) TwoF.mono ?_ ?_
        · intro w' hx; have h0x := hx.cell h0; have h1x := hx.cell h1; have h2x := hx.cell h2; (try dsimp only [List.nil_append, List.cons_append, DepsL, DepsL1, setO, setN, favs, opsOf]); go_wp2; exact OpPostE.some _ rfl rfl ((Ext.refl _).alloc _) ⟨_, rfl, by simp [celV], by simp [celV]⟩
        with_reducible apply FromM.eq
        · intro w' hx; (try dsimp only [List.nil_append, List.cons_append, DepsL, DepsL1, setO, setN, favs, opsOf]); go_wp2; exact OpPostE.some _ rfl rfl (Ext.refl _) rfl
        -- 7: t29
        refine FromM.step (TwoN 1 j) TwoN.mono ?_ ?_
        · intro w' hx; have h0x := hx.cell h0; have h1x := hx.cell h1; have h2x := hx.cell h2; (try dsimp only [List.nil_append, List.cons_append, DepsL, DepsL1, setO, setN, favs, opsOf]); go_wp2; exact OpPostE.some _ rfl rfl ((Ext.refl _).alloc _) ⟨_, rfl, Rd.two (by simp) (by simp)⟩
        refine FromM.step (OwnF wr.heap.size LW) (OwnF.mono) ?_ ?_
        · intro w' hx; (try dsimp only [List.nil_append, List.cons_append, DepsL, DepsL1, setO, setN, favs, opsOf]); rintro v5 k5; rintro v7 k7; obtain ⟨g5, rfl, q0, q1⟩ := k5; obtain ⟨g7, rfl, q2⟩ := k7;
          refine op_call 33 [.tmp 24, .tmp 27, .tmp 29] _ _ _ rfl rfl rfl rfl rfl rfl (fun _ _ => Try.call33 _ _) (HFC.out _ _ _ _ _ _ _ q0 q1 (HA.out.ext (X.trans hx)) (HB.out.ext (X.trans hx)) q2) (fun e w2 h_ => ?_); obtain ⟨v, rfl, ho, hn'⟩ := h_; exact ⟨_, rfl, hn', (ho.base hx.size)⟩
        with_reducible apply FromM.eq
        · intro w' hx; (try dsimp only [List.nil_append, List.cons_append, DepsL, DepsL1, setO, setN, favs, opsOf]); go_wp2; exact OpPostE.some _ rfl rfl (Ext.refl _) rfl
        refine FromM.step (N2F wr.heap.size [] false) (N2F.mono) ?_ ?_
        · intro w' hx; (try dsimp only [List.nil_append, List.cons_append, DepsL, DepsL1, setO, setN, favs, opsOf]); rintro v8 k8; obtain ⟨a8, c8, rfl, _, r8⟩ := Own.formN k8 N' HWL.out;
          refine op_call 28 [.tmp 22, .tmp 30, .tmp 31] _ _ _ rfl rfl rfl rfl rfl rfl (fun _ _ => Try.call28 _ _) (HNC.out _ _ _ r8 HWL.out) (fun e w2 h_ => ?_); obtain ⟨v, rfl, ho, hn'⟩ := h_; exact ⟨_, rfl, hn', ⟨v, rfl, ho.base hx.size⟩⟩
        refine FromM.step (N2F wr.heap.size [] false) (N2F.mono) ?_ ?_
        · intro w' hx; (try dsimp only [List.nil_append, List.cons_append, DepsL, DepsL1, setO, setN, favs, opsOf]); rintro v10 k10; go_wp2; exact OpPostE.some _ rfl rfl (Ext.refl _) k10
        -- 12: t33
        refine FromM.step (OwnF wr.heap.size []) OwnF.mono ?_ ?_
        · intro w' hx; (try dsimp only [List.nil_append, List.cons_append, DepsL, DepsL1, setO, setN, favs, opsOf]); rintro v11_ h11_; obtain ⟨u, rfl, hu⟩ := h11_; go_wp2; exact OpPostE.some _ rfl rfl (Ext.refl _) hu
        -- 13: t34
        with_reducible apply FromM.eq
        · intro w' hx; (try dsimp only [List.nil_append, List.cons_append, DepsL, DepsL1, setO, setN, favs, opsOf]); rintro v11_ h11_; obtain ⟨u, rfl, hu⟩ := h11_; go_wp2; exact OpPostE.some _ rfl rfl (Ext.refl _) rfl
        -- 14: t13
        refine FromM.step (OwnF wr.heap.size []) OwnF.mono ?_ ?_
        · intro w' hx; (try dsimp only [List.nil_append, List.cons_append, DepsL, DepsL1, setO, setN, favs, opsOf]); rintro v12 k12; go_wp2; exact OpPostE.some _ rfl rfl (Ext.refl _) k12
        with_reducible apply FromM.eq
        · intro w' hx; (try dsimp only [List.nil_append, List.cons_append, DepsL, DepsL1, setO, setN, favs, opsOf]); go_wp2; exact OpPostE.some _ rfl rfl (Ext.refl _) rfl
        with_reducible refine FromM.fin ?_
        intro w' hx
        (try dsimp only [List.nil_append, List.cons_append, EndL, DepsL1, setO, setN]); rintro v5 k5 v7 k7 v8 k8 v10 k10 v11_ h11_ v12 k12 v14 k14
        obtain ⟨u5, rfl, _⟩ := k10
        obtain ⟨u6, rfl, _⟩ := h11_
        replace X := X.trans hx
        have HX5 := Lib.hid hx
        clear hx k5 k7 k8 k12
        obtain ⟨ua, uc, hvv, _, _⟩ := Own.formN k14 0 rfl
        subst hvv
        clear k14
        go_wp2_with fail
        go_roundw
        case rel => exact ⟨j + 1, L0, by go_num, by omega, by rw [HE1.out, List.append_nil]; exact HO1.out.grow HX5.out, HO2.out.grow HX5.out, by rw [HE1.out, List.append_nil]; exact HR.out.ext HX5.out, fun i hi q hq => ⟨by have := (HF2.out i hi q hq).1; have := HX5.out.size; omega, (HF2.out i hi q hq).2⟩, fun i hi q hq => ⟨by have := (HF1.out i hi q hq).1; have := HX5.out.size; omega, (HF1.out i hi q hq).2⟩, HD.out, HXX.out.trans HX5.out⟩
        case measure => simp [intOf]; omega
      | some Y =>
        have hyl : Y.length = N' := by
          obtain ⟨f, _, q2, _⟩ := near_sound hnm
          rw [q2, cword_len]
        have HYL := Lib.hid hyl
        clear hyl
        rw [hnm] at NCJ
        have HE1 : Hid (lineK p N' K' l m e (j + 1) = lineK p N' K' l m e j ++ [(j, Y)]) := Lib.hid (by rw [E1.out, hnm])
        have HNC : Hid (∀ w' (a : Option Addr) (c : Nat), Rd w' a LW → LW.length = N' → Calls Try.prog 28 #[.agg #[.int .u64 p, .int .i64 N', .int .i64 K'], .slice a N' c, .int .i64 e] w' fun e w'' => ∃ v, e = .returned (.tuple #[v, .bool true]) ∧ Own w'' w'.heap.size v Y ∧ Ext w' w'') := Lib.hid (fun w' a c h hl => by have := NCJ w' a c h hl; rw [hl] at this; exact this)
        clear NCJ E1 hnm
        go_wp2_with fail
        refine region_factsL [[], [], [(1, 23)], [], [], [(3, 25), (4, 26)], [], [(6, 28)], [(2, 24), (5, 27), (7, 29)], [], [(0, 22), (8, 30), (9, 31)], [(10, 32)], [(11, 21)], [(11, 21)], [(12, 33)], [(13, 34)]] [some 22, some 23, some 24, some 25, some 26, some 27, some 28, some 29, some 30, some 31, some 32, some 21, some 33, some 34, some 13, some 14] [false, true, true, true, true, false, false, false, false, false, false, false, true, false, false, false, false, false, false, false, false, false, false, false, false, false, false, false, false, false, false, false, false, false, false, false, false, false, false, false, false, false, false, false, false, false] (by kernel_rfl) (by kernel_rfl) (by kernel_rfl) ?_
        dsimp only [maskL]
        with_reducible apply FromM.eq
        · intro w' hx; have h0x := hx.cell h0; have h1x := hx.cell h1; have h2x := hx.cell h2; (try dsimp only [List.nil_append, List.cons_append, DepsL, DepsL1, setO, setN, favs, opsOf]); go_wp2; exact OpPostE.some _ rfl rfl (Ext.refl _) rfl
        with_reducible apply FromM.eq
        · intro w' hx; (try dsimp only [List.nil_append, List.cons_append, DepsL, DepsL1, setO, setN, favs, opsOf]); go_wp2; exact OpPostE.some _ rfl rfl (Ext.refl _) rfl
        with_reducible apply FromM.eq
        · intro w' hx; have h0x := hx.cell h0; have h1x := hx.cell h1; have h2x := hx.cell h2; (try dsimp only [List.nil_append, List.cons_append, DepsL, DepsL1, setO, setN, favs, opsOf]); go_wp2; exact OpPostE.some _ rfl rfl (Ext.refl _) rfl
        with_reducible apply FromM.eq
        · intro w' hx; (try dsimp only [List.nil_append, List.cons_append, DepsL, DepsL1, setO, setN, favs, opsOf]); go_wp2; exact OpPostE.some _ rfl rfl (Ext.refl _) rfl
        with_reducible apply FromM.eq
        · intro w' hx; (try dsimp only [List.nil_append, List.cons_append, DepsL, DepsL1, setO, setN, favs, opsOf]); go_wp2; exact OpPostE.some _ rfl rfl (Ext.refl _) rfl
        -- 5: t27
        refine FromM.step (TwoF (a, N', c) (b, N', d)) TwoF.mono ?_ ?_
        · intro w' hx; have h0x := hx.cell h0; have h1x := hx.cell h1; have h2x := hx.cell h2; (try dsimp only [List.nil_append, List.cons_append, DepsL, DepsL1, setO, setN, favs, opsOf]); go_wp2; exact OpPostE.some _ rfl rfl ((Ext.refl _).alloc _) ⟨_, rfl, by simp [celV], by simp [celV]⟩
        with_reducible apply FromM.eq
        · intro w' hx; (try dsimp only [List.nil_append, List.cons_append, DepsL, DepsL1, setO, setN, favs, opsOf]); go_wp2; exact OpPostE.some _ rfl rfl (Ext.refl _) rfl
        -- 7: t29
        refine FromM.step (TwoN 1 j) TwoN.mono ?_ ?_
        · intro w' hx; have h0x := hx.cell h0; have h1x := hx.cell h1; have h2x := hx.cell h2; (try dsimp only [List.nil_append, List.cons_append, DepsL, DepsL1, setO, setN, favs, opsOf]); go_wp2; exact OpPostE.some _ rfl rfl ((Ext.refl _).alloc _) ⟨_, rfl, Rd.two (by simp) (by simp)⟩
        refine FromM.step (OwnF wr.heap.size LW) (OwnF.mono) ?_ ?_
        · intro w' hx; (try dsimp only [List.nil_append, List.cons_append, DepsL, DepsL1, setO, setN, favs, opsOf]); rintro v5 k5; rintro v7 k7; obtain ⟨g5, rfl, q0, q1⟩ := k5; obtain ⟨g7, rfl, q2⟩ := k7;
          refine op_call 33 [.tmp 24, .tmp 27, .tmp 29] _ _ _ rfl rfl rfl rfl rfl rfl (fun _ _ => Try.call33 _ _) (HFC.out _ _ _ _ _ _ _ q0 q1 (HA.out.ext (X.trans hx)) (HB.out.ext (X.trans hx)) q2) (fun e w2 h_ => ?_); obtain ⟨v, rfl, ho, hn'⟩ := h_; exact ⟨_, rfl, hn', (ho.base hx.size)⟩
        with_reducible apply FromM.eq
        · intro w' hx; (try dsimp only [List.nil_append, List.cons_append, DepsL, DepsL1, setO, setN, favs, opsOf]); go_wp2; exact OpPostE.some _ rfl rfl (Ext.refl _) rfl
        refine FromM.step (N2F wr.heap.size Y true) (N2F.mono) ?_ ?_
        · intro w' hx; (try dsimp only [List.nil_append, List.cons_append, DepsL, DepsL1, setO, setN, favs, opsOf]); rintro v8 k8; obtain ⟨a8, c8, rfl, _, r8⟩ := Own.formN k8 N' HWL.out;
          refine op_call 28 [.tmp 22, .tmp 30, .tmp 31] _ _ _ rfl rfl rfl rfl rfl rfl (fun _ _ => Try.call28 _ _) (HNC.out _ _ _ r8 HWL.out) (fun e w2 h_ => ?_); obtain ⟨v, rfl, ho, hn'⟩ := h_; exact ⟨_, rfl, hn', ⟨v, rfl, ho.base hx.size⟩⟩
        refine FromM.step (N2F wr.heap.size Y true) (N2F.mono) ?_ ?_
        · intro w' hx; (try dsimp only [List.nil_append, List.cons_append, DepsL, DepsL1, setO, setN, favs, opsOf]); rintro v10 k10; go_wp2; exact OpPostE.some _ rfl rfl (Ext.refl _) k10
        -- 12: t33
        refine FromM.step (OwnF wr.heap.size Y) OwnF.mono ?_ ?_
        · intro w' hx; (try dsimp only [List.nil_append, List.cons_append, DepsL, DepsL1, setO, setN, favs, opsOf]); rintro v11_ h11_; obtain ⟨u, rfl, hu⟩ := h11_; go_wp2; exact OpPostE.some _ rfl rfl (Ext.refl _) hu
        -- 13: t34
        with_reducible apply FromM.eq
        · intro w' hx; (try dsimp only [List.nil_append, List.cons_append, DepsL, DepsL1, setO, setN, favs, opsOf]); rintro v11_ h11_; obtain ⟨u, rfl, hu⟩ := h11_; go_wp2; exact OpPostE.some _ rfl rfl (Ext.refl _) rfl
        -- 14: t13
        refine FromM.step (OwnF wr.heap.size Y) OwnF.mono ?_ ?_
        · intro w' hx; (try dsimp only [List.nil_append, List.cons_append, DepsL, DepsL1, setO, setN, favs, opsOf]); rintro v12 k12; go_wp2; exact OpPostE.some _ rfl rfl (Ext.refl _) k12
        with_reducible apply FromM.eq
        · intro w' hx; (try dsimp only [List.nil_append, List.cons_append, DepsL, DepsL1, setO, setN, favs, opsOf]); go_wp2; exact OpPostE.some _ rfl rfl (Ext.refl _) rfl
        with_reducible refine FromM.fin ?_
        intro w' hx
        (try dsimp only [List.nil_append, List.cons_append, EndL, DepsL1, setO, setN]); rintro v5 k5 v7 k7 v8 k8 v10 k10 v11_ h11_ v12 k12 v14 k14
        obtain ⟨u5, rfl, _⟩ := k10
        obtain ⟨u6, rfl, _⟩ := h11_
        replace X := X.trans hx
        have HX5 := Lib.hid hx
        have K14 := Lib.hid k14
        clear hx k5 k7 k8 k12
        obtain ⟨ua, uc, hvv, _, r14⟩ := Own.formN k14 N' HYL.out
        subst hvv
        have R14 := Lib.hid r14
        have HOW := Lib.hid (HO1.out.grow HX5.out)
        clear k14 r14
        obtain ⟨wq, hwq⟩ : ∃ q : World, q = w' := ⟨_, rfl⟩
        subst hwq
        have HSZ : Hid (w2.heap.size ≤ wq.heap.size) := Lib.hid (by have := HXX.out.size; have := HX5.out.size; omega)
        go_wp2_with (first
          | (at_builtin
             refine wpList_appU1 rfl (.tmp 36) (.tmp 38) rfl w2.heap.size _ _ rfl (HOW.out.grow ((Ext.refl _).alloc _)) wq.heap.size j 1 rfl (by simp) (by have := HLEN.out.2; omega) (by have := HSZ.out; simp; omega) ?_; intro v6 w6 o6 x6 k6 s6 b6
             have X6 := Lib.hid (x6 _ ((HXX.out.trans HX5.out).trans ((Ext.refl _).alloc _)) (Nat.le_refl _))
             have AT := Lib.hid (append_two HO1.out HO2.out HR.out HF2.out HF1.out HD.out (HX5.out.trans ((Ext.refl _).alloc _)) (R14.out.ext ((Ext.refl _).alloc _)) (fun q hq => by
               have := K14.out.place q hq
               exact ⟨this.1, by simp; omega⟩) k6 s6 b6)
             have O6 := Lib.hid o6
             have HSZ6 : Hid (w2.heap.size ≤ w6.heap.size) := Lib.hid (by have := HSZ.out; simp at s6; omega)
             clear x6 k6 s6 b6 o6)
          | (at_builtin; refine wpList_appV1 rfl (.tmp 40) (.tmp 42) rfl w2.heap.size _ _ rfl (AT.out.1.grow ((Ext.refl _).alloc _)) w6.heap.size ua N' uc 1 rfl (by simp) (by have := HLEN.out.1; omega) (by have := HSZ6.out; simp; omega) ?_; intro v8 w8 o8 x8 k8 s8 b8))
        have X8 := Lib.hid (x8 _ (X6.out.trans ((Ext.refl _).alloc _)) (Nat.le_refl _))
        have ST := Lib.hid (Rows2.step (c5 := uc) AT.out.2.1 AT.out.2.2.2.1 ((Ext.refl _).alloc _) (AT.out.2.2.1.ext ((Ext.refl _).alloc _)) (fun q hq => ⟨by have := (AT.out.2.2.2.2.2.2.1 q hq).1; simp; omega, (AT.out.2.2.2.2.2.2.1 q hq).2⟩) k8 s8 b8)
        have O8 := Lib.hid o8
        have b6' : ∀ k, v6.ownBlock = some k → k < w6.heap.size := fun k hk => (World.ownsRow.lt O6.out k hk).2
        have O6' : Hid (Own w8 w2.heap.size v6 (List.map (·.1) (lineK p N' K' l m e j) ++ [j])) := Lib.hid (ownsRow_keep (O6.out.grow ((Ext.refl _).alloc _)) (fun k hk => k8 k (by have := b6' k hk; simp; omega) (fun h => AT.out.2.2.2.2.2.2.2 k hk h)))
        have F1 : Hid (∀ i, i < (L0 ++ [(ua, N', uc)]).length → Off v6 w8.heap.size ((L0 ++ [(ua, N', uc)]).getD i (none, 0, 0)).1) := Lib.hid (fun i hi q hq => by
          rw [List.getD_eq_getElem?_getD] at hq
          by_cases hlt2 : i < L0.length
          · rw [List.getElem?_append_left hlt2, ← List.getD_eq_getElem?_getD] at hq
            have := AT.out.2.2.2.2.1 i hlt2 q hq
            simp at s8
            exact ⟨by omega, this.2⟩
          · have hi2 : i = L0.length := by simp at hi; omega
            subst hi2
            rw [List.getElem?_append_right (Nat.le_refl _)] at hq
            have := AT.out.2.2.2.2.2.1 q (by simpa using hq)
            simp at s8
            exact ⟨by omega, this.2⟩)
        have D8 : Hid (∀ k, v6.ownBlock = some k → v8.ownBlock ≠ some k) := Lib.hid (fun k hk h => by
          rcases b8 with e | e
          · rw [e] at h; exact AT.out.2.2.2.2.2.2.2 k hk h
          · rw [e] at h; injection h with h; have := b6' k hk; simp at h; omega)
        clear x8 k8 s8 b8 o8 b6'
        go_wp2_with fail
        go_roundw
        case rel => exact ⟨j + 1, _, by go_num, by omega, by rw [HE1.out, List.map_append]; exact O6'.out, O8.out, by rw [HE1.out, List.map_append]; have := ST.out.1; rw [HYL.out] at this; exact this, by have := ST.out.2; rw [HYL.out] at this; exact this, F1.out, D8.out, X8.out⟩
        case measure => simp [intOf]; omega
    · obtain rfl : j = p := by omega
      go_wp2_with fail
      go_ret2
      exact ⟨_, _, L0, rfl, HO1.out.base XW2.out.size, HO2.out.base XW2.out.size, HR.out, X⟩

set_option maxRecDepth 100000 in
set_option maxHeartbeats 2000000 in
theorem RClose_c (p N K : Nat) (l m : List Nat) (e : Int) (a b : Option Addr) (c d : Nat) (w : World) (hc : cval p N K = true) (hp : p ≤ 257) (hl : l.length = N) (hm : m.length = N) (he : 2 * e ≤ (N : Int) - (K : Int)) (ha : Rd w a l) (hb : Rd w b m) :
    Calls Try.prog 37 #[.agg #[.int .u64 p, .int .i64 (N : Int), .int .i64 (K : Int)], .slice a N c, .slice b N d, .int .i64 e] w fun e' w' => e' = .returned (.int .i64 ((lineM p N K l m e).length : Nat)) ∧ Ext w w' := by
  have HA := Lib.hid ha
  have HB := Lib.hid hb
  clear ha hb
  have h0 : (w.alloc (.cells #[.int .u64 p, .int .i64 (N : Int), .int .i64 (K : Int)] 24)).cell? ⟨w.heap.size, 0, none⟩ = some (.int .u64 p) := by simp
  have h1 : (w.alloc (.cells #[.int .u64 p, .int .i64 (N : Int), .int .i64 (K : Int)] 24)).cell? ⟨w.heap.size, 1, none⟩ = some (.int .i64 (N : Int)) := by simp
  have h2 : (w.alloc (.cells #[.int .u64 p, .int .i64 (N : Int), .int .i64 (K : Int)] 24)).cell? ⟨w.heap.size, 2, none⟩ = some (.int .i64 (K : Int)) := by simp
  have LC := Lib.hid (fun w' h1 h2 => RLines_c p N K l m e a b c d w' hc hp hl hm he h1 h2)
  obtain ⟨R, hR⟩ : ∃ R, R = lineM p N K l m e := ⟨_, rfl⟩
  rw [← hR] at LC
  rw [← hR]
  clear hR hc hp hl hm he
  go_enter Try.func37, Try.ntmps37
  go_wp2_with fail
  refine (LC.out _ (HA.out.ext ((Ext.refl _).alloc _)) (HB.out.ext ((Ext.refl _).alloc _))).mono ?_; rintro e w1 ⟨v1, v2, L, rfl, o1, o2, r1, x1⟩
  obtain ⟨a1, c1, hv, _, _⟩ := o1.form
  rw [List.length_map] at hv
  subst hv
  have X := x1.box
  clear o1 o2 r1 x1
  go_wp2_with fail
  go_ret
  exact ⟨rfl, X⟩
end Go.Proofs.Ytgnngifnoaagjaa
