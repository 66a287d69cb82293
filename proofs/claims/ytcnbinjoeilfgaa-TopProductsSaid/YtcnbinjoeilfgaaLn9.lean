/- Contract: linear.Solve, of a system that elimination solves without a gap. -/
import Derived.Test.YtcnbinjoeilfgaaLn8
namespace Go.Proofs.Ytcnbinjoeilfgaa
open Go.RowKit
/-- append(v, x) where no room is left: a new block. -/
def NewF (base n : Nat) (l : List Nat) : Fact := fun w v => ∃ g c, v = .slice (some ⟨g, 0, none⟩) n c ∧ base ≤ g ∧ Arr w g l c
theorem NewF.mono {base n : Nat} {l : List Nat} : Mono (NewF base n l) := fun _ _ _ hx ⟨g, c, hv, hb, ha⟩ => ⟨g, c, hv, hb, ha.ext hx⟩
def One1F (z : Nat) : Fact := fun w v => ∃ g, v = .slice (some ⟨g, 0, none⟩) 1 1 ∧ w.cell? ⟨g, 0, none⟩ = some (.int .u64 (z : Int))
theorem One1F.mono {z : Nat} : Mono (One1F z) := fun _ _ _ hx ⟨g, hv, hc⟩ => ⟨g, hv, hx.cell hc⟩
theorem wpList_appFull {ops : Array Oper} {rest : List Oper} {o : Oper} {a : Act} {w : World} {Q : Exit → Act → World → Prop} (hgd : o.guard = none) (s x : Operand)
    (ho : o.op = .call { callee := .builtin .append, args := #[s, x], argTypes := #[23, 23] })
    (g n : Nat) (l : List Nat) (hs : a.eval s = .slice (some ⟨g, 0, none⟩) n n) (ha : Arr w g l n) (hn : l.length = n) (gx y c : Nat)
    (hx : a.eval x = .slice (some ⟨gx, 0, none⟩) 1 c) (hr : w.cell? ⟨gx, 0, none⟩ = some (.int .u64 (y : Int))) (hl : n + 1 ≤ 1000000000)
    (h : ∀ v' w', NewF w.heap.size (n + 1) (l ++ [y]) w' v' → Ext w w' → wpList Try.prog ops Q rest (a.put o.dst v') w') : wpList Try.prog ops Q (o :: rest) a w := by
  subst hn
  have hown : Own w 0 (.slice (some ⟨g, 0, none⟩) l.length l.length) l := ha.own (Nat.zero_le _)
  obtain ⟨i0, hi, hz0, hz1, hz2⟩ := info_parts info_u64
  have hadd : ∀ (g j : Nat), (⟨g, 0, none⟩ : Addr).add j = ⟨g, j, none⟩ := fun g j => by unfold Addr.add; split <;> simp_all
  have hnews : ∀ j u, (rowL [y])[j]? = some u → w.cell? ((⟨gx, 0, none⟩ : Addr).add j) = some u := fun j u hu => by
    have hj : j = 0 := by
      rcases Nat.eq_zero_or_pos j with e | e
      · exact e
      · rw [List.getElem?_eq_none (by simp [rowL]; omega)] at hu; cases hu
    subst hj
    rw [hadd, hr]; simpa [rowL] using hu
  have holds : ∀ j u, (rowL l)[j]? = some u → w.cell? ((⟨g, 0, none⟩ : Addr).add j) = some u := fun j u hu => by
    have hj : j < l.length := by
      rcases Nat.lt_or_ge j l.length with hj | hj
      · exact hj
      · rw [List.getElem?_eq_none (by rw [rowL_len]; exact hj)] at hu; cases hu
    rw [hadd, ha.at hj, ← hu, rowL_get l j hj]
  obtain ⟨v', w', hr2, h2, h3, _⟩ := run_append_own (P := Try.prog) w 0 23 o.type 22 i0 (.int .u64 0) 1 8 Try.underlying23 hi hz0 hz1 hz2 rfl (by decide) _ l.length (rowL l) hown ⟨gx, 0, none⟩ 1 c (rowL [y]) (by simp [rowL]) hnews (one_rowL _) (by simp only [maxLen]; omega) (by omega) (Nat.zero_le _)
  have hg := run_append_grow (P := Try.prog) w 23 o.type 22 i0 (.int .u64 0) Try.underlying23 hi hz0 ⟨g, 0, none⟩ l.length l.length (rowL l) (by rw [rowL_len, hz1, Nat.mul_one]) holds ⟨gx, 0, none⟩ 1 c (rowL [y]) (by simp [rowL, hz1]) hnews (by omega) (by omega) (growslice_fits (by omega) (by rw [hz2]; omega))
  refine wpList_plain hgd fun K hK => ?_
  have hrun := hr2
  rw [hg] at hr2
  injection hr2 with e1 e2
  unfold Oper.wp execOp
  simp only [ho, resolve, invoke, builtin, Sem.run_bind, Sem.run_pure, Result.andThen_ok, List.map_toArray, List.map_cons, List.map_nil, hs, hx, hrun]
  refine hK _ _ (h v' w' ?_ ?_)
  · have h4 : Own w' 0 v' (l ++ [y]) := by
      unfold Own; rw [rowL_app, List.length_append]; exact h2
    obtain ⟨g', c', hv, _, _, ha'⟩ := h4.arr (by simp)
    rw [List.length_append] at hv
    refine ⟨g', c', hv, ?_, ha'⟩
    rw [hv] at e1
    injection e1 with q _ _
    injection q with q
    injection q with q
    omega
  · rw [← e2]; exact (Ext.refl _).drew.alloc _

/-- The first j rows with the right hand side behind them. -/
def augK (p : Nat) (rows : List (List Nat)) (b : List Nat) (j : Nat) : List (List Nat) := (List.range rows.length).map (fun i => if i < j then (rows.getD i []).map (fred p) ++ [fred p (b.getD i 0)] else (rows.getD i []).map (fred p))
theorem augK_len (p : Nat) (rows : List (List Nat)) (b : List Nat) (j : Nat) : (augK p rows b j).length = rows.length := by unfold augK; simp
theorem augK_get {p : Nat} {rows : List (List Nat)} {b : List Nat} {j i : Nat} (hi : i < rows.length) : (augK p rows b j).getD i [] = if i < j then (rows.getD i []).map (fred p) ++ [fred p (b.getD i 0)] else (rows.getD i []).map (fred p) := by
  unfold augK; simp [List.getD, hi]
theorem augK_zero (p : Nat) (rows : List (List Nat)) (b : List Nat) : augK p rows b 0 = redM p rows := by
  unfold augK redM
  apply List.ext_getElem
  · simp
  · intro i h1 h2
    have : i < rows.length := by simpa using h2
    simp [List.getD, this]
theorem augK_step {p : Nat} {rows : List (List Nat)} {b : List Nat} {j : Nat} (hj : j < rows.length) : (augK p rows b j).set j ((rows.getD j []).map (fred p) ++ [fred p (b.getD j 0)]) = augK p rows b (j + 1) := by
  apply List.ext_getElem
  · rw [List.length_set, augK_len, augK_len]
  · intro k h1 h2
    have hk : k < rows.length := by rw [augK_len] at h2; exact h2
    have e1 := set_getD (augK p rows b j) [] ((rows.getD j []).map (fred p) ++ [fred p (b.getD j 0)]) j k (by rw [augK_len]; exact hj)
    rw [augK_get hk] at e1
    have e2 := augK_get (p := p) (b := b) (j := j + 1) hk
    rw [List.getD_eq_getElem?_getD, List.getElem?_eq_getElem h1, Option.getD_some] at e1
    rw [List.getD_eq_getElem?_getD, List.getElem?_eq_getElem h2, Option.getD_some] at e2
    rw [e1, e2]
    by_cases e : k = j
    · subst e; rw [if_pos rfl, if_pos (by omega)]
    · rw [if_neg e]
      by_cases h : k < j
      · rw [if_pos h, if_pos (by omega)]
      · rw [if_neg h, if_neg (by omega)]
theorem augK_red {p n : Nat} {rows : List (List Nat)} {b : List Nat} (hv : vld p = true) (hn : rows.length = n) (h : ∀ i, i < rows.length → (rows.getD i []).length = n) : Redd p (n + 1) (augK p rows b n) := by
  have hp := vld_bd hv
  refine ⟨fun i hi => ?_, fun i j => ?_⟩
  · rw [augK_len] at hi
    rw [augK_get hi, if_pos (by omega), List.length_append, List.length_map, h i hi, List.length_singleton]
  · rcases Nat.lt_or_ge i rows.length with hi | hi
    · rw [augK_get hi, if_pos (by omega), List.getD_eq_getElem?_getD]
      cases hq : ((rows.getD i []).map (fred p) ++ [fred p (b.getD i 0)])[j]?
      · simp; omega
      · rename_i x
        have hm := List.mem_of_getElem? hq
        simp at hm
        rcases hm with ⟨y, _, rfl⟩ | rfl
        · simp; exact fred_lt hv _
        · simp; exact fred_lt hv _
    · rw [show (augK p rows b n).getD i [] = [] from by rw [List.getD_eq_getElem?_getD, List.getElem?_eq_none (by rw [augK_len]; exact hi)]; rfl]
      simpa using (show 0 < p by omega)
def SvRel (p n : Nat) (rows : List (List Nat)) (b : List Nat) (gm : Nat) (w2 : World) (s : Value) (wr : World) : Prop :=
  ∃ (j : Nat) (L : List SlC), s = .int .i64 j ∧ j ≤ n ∧ L.length = n ∧ Mat wr w2.heap.size gm L (augK p rows b j) ∧ (∀ i, j ≤ i → i < n → (L.getD i (none, 0, 0)).2.2 = n) ∧ Ext w2 wr
def SvNone (w1 : World) (s : Value) (wr : World) : Prop := s = .int .i64 0 ∧ wr = w1
def SvOut (n g : Nat) (R : List (List Nat)) (w1 : World) (s : Value) (wr : World) : Prop :=
  ∃ j : Nat, s = .int .i64 j ∧ j ≤ n ∧ Arr wr g (tab n (fun t => if t < j then (R.getD t []).getD n 0 else 0)) n ∧ Ext w1 wr
/-- The solution: the last column. -/
def solR (n : Nat) (R : List (List Nat)) : List Nat := tab n (fun t => (R.getD t []).getD n 0)
def SvPost (w : World) (l : List Nat) (e : Ending) (w' : World) : Prop := ∃ v, e = .returned (.tuple #[v, .bool true]) ∧ Own w' w.heap.size v l ∧ Ext w w'
set_option maxRecDepth 100000 in
set_option maxHeartbeats 8000000 in
theorem Solve_c (p n : Nat) (rows : List (List Nat)) (b : List Nat) (hv : vld p = true) (h : MV rows n) (hn : rows.length = n) (hbl : b.length = n) (hp : (elimE p (augK p rows b n) n).2.1 = List.range n) (aa bb : Option Addr) (c d : Nat) (w : World) (ha : RdR w aa rows) (hb : Rd w bb b) :
    Calls Try.prog 37 #[.agg #[.int .u64 p], .slice aa n c, .slice bb n d] w (SvPost w (solR n (elimE p (augK p rows b n) n).1)) := by
  have FC := Lib.hid (fun w' (h2 : RdR w' aa rows) => by have q := fits_c p rows n hv h aa c w' h2; rw [hn] at q; exact q)
  have CC := Lib.hid (fun w' (h2 : RdR w' aa rows) => by have q := columns_c rows n h aa c w' h2; rw [hn] at q; exact q)
  have RC := Lib.hid (fun w' (h2 : RdR w' aa rows) => by have q := lreduced_c p rows n h aa c w' h2; rw [hn] at q; exact q)
  have EC := Lib.hid (fun (gm : Nat) (L : List SlC) (w0 w : World) (hM : Mat w w0.heap.size gm L (augK p rows b n)) (hL : L.length = n) (hX : Ext w0 w) =>
    elim_c p gm n (n + 1) n L (augK p rows b n) w0 w hv hM (by rw [augK_len, hn]; exact hL) hX (augK_red hv hn h.len) (by rw [augK_len]; exact hn) (by have := h.n; omega) (by have := h.w; omega) (by omega))
  have EOK : Hid (ElOk p (n + 1) n (elimE p (augK p rows b n) n)) := Lib.hid (elimE_ok hv (augK_red (b := b) hv hn h.len) (by rw [augK_len]; exact hn) n)
  have HA := Lib.hid ha
  have HB := Lib.hid hb
  have HBL := Lib.hid hbl
  have HN := Lib.hid hn
  have HM := Lib.hid h
  have V := Lib.hid hv
  have HP := Lib.hid hp
  have hn64 : n ≤ 64 := by have := h.w; omega
  have hn0 : 0 < n := by have := h.pos; omega
  have hmk := make_c n n (Nat.le_refl _) (by omega)
  have h0 : (w.alloc (.cells #[.int .u64 p] 29)).cell? ⟨w.heap.size, 0, none⟩ = some (.int .u64 p) := by simp
  clear ha h hv hp hb hn hbl
  go_enter Try.func37, Try.ntmps37
  go_wp2_with fail
  refine (FC.out _ (HA.out.ext ((Ext.refl _).alloc _))).mono ?_; rintro e w1 ⟨rfl, x1⟩
  replace h0 := x1.cell h0
  have X := x1.box
  clear x1
  go_wp2_with fail
  refine (CC.out _ (HA.out.ext X)).mono ?_; rintro e w2 ⟨rfl, x2⟩
  replace h0 := x2.cell h0
  replace X := X.trans x2
  clear x2
  go_wp2_with fail
  refine (RC.out _ (HA.out.ext X)).mono ?_; rintro e w3 ⟨gm, L, rfl, hL, mt, hcp, x3⟩
  have hrl : (redM p rows).length = n := by rw [redM_len]; exact HN.out
  rw [hrl] at hL hcp ⊢
  have H0 := Lib.hid h0
  have HX := Lib.hid X
  have H1 : Hid (Mat w3 w2.heap.size gm L (augK p rows b 0) ∧ L.length = n ∧ (∀ i, i < n → (L.getD i (none, 0, 0)).2.2 = n) ∧ Ext w2 w3) := Lib.hid ⟨by rw [augK_zero]; exact mt, hL, hcp, x3⟩
  clear hL mt hcp x3 h0 X hrl
  go_wp2_with fail
  go_loopw [37] (SvRel p n rows b gm w2) (fun s _ => n - (intOf s).toNat)
  case atStart => exact ⟨0, L, rfl, Nat.zero_le _, H1.out.2.1, H1.out.1, fun i _ hi => H1.out.2.2.1 i hi, H1.out.2.2.2⟩
  case round =>
    clear H1 L
    obtain ⟨j, L, rfl, hj, hL, mt, hcp, hext⟩ := hrel
    have HL := Lib.hid hL
    have HMT := Lib.hid mt
    have HCP := Lib.hid hcp
    have HE := Lib.hid hext
    have h0 := hext.cell H0.out
    clear hL mt hcp hext
    by_cases hlt : j < n
    · have hjr : j < rows.length := by rw [HN.out]; exact hlt
      have hjA : j < (augK p rows b j).length := by rw [augK_len]; exact hjr
      have RJ : Hid ((augK p rows b j).getD j [] = (rows.getD j []).map (fred p)) := Lib.hid (by rw [augK_get hjr, if_neg (by omega)])
      have RL : Hid (((rows.getD j []).map (fred p)).length = n) := Lib.hid (by rw [List.length_map]; exact HM.out.len j hjr)
      have kh := HMT.out.head hjA
      rw [RJ.out, RL.out, HCP.out j (Nat.le_refl _) hlt] at kh
      have ar := (HMT.out.row j hjA).arr
      rw [RJ.out, HCP.out j (Nat.le_refl _) hlt] at ar
      obtain ⟨gj, hgj⟩ : ∃ q, q = rowG L j := ⟨_, rfl⟩
      rw [← hgj] at kh ar
      have AR := Lib.hid ar
      obtain ⟨gb, ob, rfl, qb⟩ := HB.out.at (by rw [HBL.out]; exact hn0)
      have cb := (HX.out.trans HE.out).cell (qb j (by rw [HBL.out]; exact hlt))
      have ES := Lib.hid (augK_step (p := p) (b := b) hjr)
      obtain ⟨x, hx0⟩ : ∃ x, x = b.getD j 0 := ⟨_, rfl⟩
      rw [← hx0] at cb ES
      have HJA := Lib.hid hjA
      clear qb hgj hx0 ar hjr hjA
      obtain ⟨wo, hwo⟩ : ∃ q : World, q = wr := ⟨_, rfl⟩
      subst hwo
      go_wp2_with fail
      refine region_factsL [[], [], [], [], [(2, 44), (3, 45)], [(4, 46)], [], [], [(6, 48), (7, 49)], [(8, 50)], [(5, 47), (9, 51)]] [some 42, some 43, some 44, some 45, some 46, some 47, some 48, some 49, some 50, some 51, some 52] [false, false, false, true, false, false, false, false, false, true, true, true, false, false, false, false, false, false, false, false, false, false, false, false, false, false, false, false, false, false, false, false, false, false, false, false, false, false, false, false, false, false, false, false, false, false, false, false, false, false, false, false, false, false, false, false, false, false, false, false, false, false, false, false, false, false, false, false, false, false, false, false, false, false, false, false, false, false, false, false, false, false, false, false, false, false, false, false, false, false, false, false, false, false, false, false, false, false] (by kernel_rfl) (by kernel_rfl) (by kernel_rfl) ?_
      dsimp only [maskL]
      with_reducible apply FromM.eq
      · intro w' hx; (try dsimp only [List.nil_append, List.cons_append, DepsL, DepsL1, setO, setN, favs, opsOf]); go_wp2; exact OpPostE.some _ rfl rfl (Ext.refl _) rfl
      with_reducible apply FromM.eq
      · intro w' hx; (try dsimp only [List.nil_append, List.cons_append, DepsL, DepsL1, setO, setN, favs, opsOf]); go_wp2; exact OpPostE.some _ rfl rfl (Ext.refl _) rfl
      with_reducible apply FromM.eq
      · intro w' hx; (try dsimp only [List.nil_append, List.cons_append, DepsL, DepsL1, setO, setN, favs, opsOf]); go_wp2; exact OpPostE.some _ rfl rfl (Ext.refl _) rfl
      with_reducible apply FromM.eq
      · intro w' hx; (try dsimp only [List.nil_append, List.cons_append, DepsL, DepsL1, setO, setN, favs, opsOf]); go_wp2; exact OpPostE.some _ rfl rfl (Ext.refl _) rfl
      with_reducible apply FromM.eq
      · intro w' hx; (try dsimp only [List.nil_append, List.cons_append, DepsL, DepsL1, setO, setN, favs, opsOf]); go_wp2; exact OpPostE.some _ rfl rfl (Ext.refl _) rfl
      with_reducible apply FromM.eq
      · intro w' hx; have h0x := hx.cell h0; have khx := hx.cell kh; (try dsimp only [List.nil_append, List.cons_append, DepsL, DepsL1, setO, setN, favs, opsOf]); go_wp2; exact OpPostE.some _ rfl rfl (Ext.refl _) rfl
      with_reducible apply FromM.eq
      · intro w' hx; have h0x := hx.cell h0; have khx := hx.cell kh; (try dsimp only [List.nil_append, List.cons_append, DepsL, DepsL1, setO, setN, favs, opsOf]); go_wp2; exact OpPostE.some _ rfl rfl (Ext.refl _) rfl
      with_reducible apply FromM.eq
      · intro w' hx; (try dsimp only [List.nil_append, List.cons_append, DepsL, DepsL1, setO, setN, favs, opsOf]); go_wp2; exact OpPostE.some _ rfl rfl (Ext.refl _) rfl
      with_reducible apply FromM.eq
      · intro w' hx; (try dsimp only [List.nil_append, List.cons_append, DepsL, DepsL1, setO, setN, favs, opsOf]); refine op_call 46 [.tmp 48, .tmp 49] _ _ _ rfl rfl rfl rfl rfl rfl (fun _ _ => Try.call46 _ _) (Reduce_c _ _ _) (fun e w2 h_ => ?_); obtain ⟨rfl, hb2⟩ := h_; exact ⟨_, rfl, hb2, rfl⟩
      -- 9: t51
      refine FromM.step (One1F (fred p x)) One1F.mono ?_ ?_
      · intro w' hx; have h0x := hx.cell h0; have khx := hx.cell kh; (try dsimp only [List.nil_append, List.cons_append, DepsL, DepsL1, setO, setN, favs, opsOf]); go_wp2; exact OpPostE.some _ rfl rfl ((Ext.refl _).alloc _) ⟨_, rfl, by simp⟩
      -- 10: t52
      refine FromM.step (NewF wo.heap.size (n + 1) ((rows.getD j []).map (fred p) ++ [fred p x])) NewF.mono ?_ ?_
      · intro w' hx; have h0x := hx.cell h0; have khx := hx.cell kh; (try dsimp only [List.nil_append, List.cons_append, DepsL, DepsL1, setO, setN, favs, opsOf]); rintro v9 h9; obtain ⟨g9, rfl, hg9⟩ := h9; go_wp2_with (at_builtin; refine wpList_appFull rfl (.tmp 47) (.tmp 51) rfl gj n _ rfl (AR.out.ext hx) RL.out g9 (fred p x) 1 rfl hg9 (by omega) ?_; rintro v' w8 ⟨g8, c8, rfl, hb8, ha8⟩ hx8); exact OpPostE.some _ rfl rfl hx8 ⟨g8, c8, rfl, Nat.le_trans hx.size hb8, ha8⟩
      with_reducible refine FromM.fin ?_
      intro w' hx
      (try dsimp only [List.nil_append, List.cons_append, EndL, DepsL1, setO, setN]); rintro v9 h9 v10 h10
      obtain ⟨g10, c10, rfl, hb10, ha10⟩ := h10
      have M6 := HMT.out.ext hx
      have hgl := HMT.out.heads.lt
      have f6 := M6.heads.frozen j
      have k6 := M6.heads.at (i := j) (by rw [HL.out]; exact hlt)
      have S6 := M6.put (i := j) HJA.out ha10 (Nat.le_trans HE.out.size hb10) (by omega) (fun i hi _ q => by have := (HMT.out.row i hi).arr.lt; omega)
      rw [ES.out, List.length_append, RL.out] at S6
      have HS6 := Lib.hid S6
      have HGM := Lib.hid HMT.out.new
      have HC6 : Hid (∀ i, j + 1 ≤ i → i < n → ((L.set j (some (⟨g10, 0, none⟩ : Addr), n + 1, c10)).getD i (none, 0, 0)).2.2 = n) := Lib.hid (fun i h1 h2 => by
        rw [set_getD _ _ _ _ _ (by rw [HL.out]; exact hlt), if_neg (by omega)]
        exact HCP.out i (by omega) h2)
      have HE6 := Lib.hid ((HE.out.trans hx).setNew (p := ⟨gm, j, none⟩) HGM.out (.slice (some ⟨g10, 0, none⟩) (n + 1) c10))
      clear M6 S6 hx h0 kh cb hgl ha10
      go_wp2_with fail
      go_roundw
      case rel => exact ⟨j + 1, L.set j (some (⟨g10, 0, none⟩ : Addr), n + 1, c10), by go_num, by omega, by rw [List.length_set]; exact HL.out, HS6.out, HC6.out, HE6.out⟩
      case measure => simp [intOf]; omega
    · obtain rfl : j = n := by omega
      go_wp2_with fail
      refine (EC.out gm L w2 wr HMT.out HL.out HE.out).mono ?_; rintro e w4 ⟨v, L4, rfl, hE⟩
      rw [HP.out] at hE
      obtain ⟨a8, c8, h8, _, _, rd8⟩ := hE.piv.form
      rw [List.length_map, List.length_range] at h8
      subst h8
      obtain ⟨R, hR⟩ : ∃ q, q = (elimE p (augK p rows b j) j).1 := ⟨_, rfl⟩
      have HR := Lib.hid hR
      rw [← hR] at hE
      have RN : Hid (R.length = j) := Lib.hid (by rw [hR]; exact EOK.out.len)
      have RR : Hid (∀ i, i < j → (R.getD i []).length = j + 1) := Lib.hid (fun i hi => by rw [hR]; exact EOK.out.red.len i (by rw [EOK.out.len]; exact hi))
      have X4 := HX.out.trans hE.ext
      have HX4 := Lib.hid X4
      have HE4 := Lib.hid hE
      have RD8 := Lib.hid rd8
      rw [← HR.out]
      clear hE rd8 hR h0 X4
      go_wp2_with fail
      go_loopw [67] (SvNone w4) (fun _ _ => 0)
      case atStart => exact ⟨rfl, rfl⟩
      case round =>
        obtain ⟨rfl, hw⟩ := hrel
        subst hw
        go_wp2_with fail
        clear hmk
        go_loopw [81] (SvOut j wr.heap.size R wr) (fun s _ => j - (intOf s).toNat)
        case atStart =>
          refine ⟨0, rfl, Nat.zero_le _, ?_, (Ext.refl _).alloc _⟩
          have := Arr.ofBlk (Blk.new wr (rowA (List.replicate j 0))) (by simp; omega)
          rw [List.length_replicate] at this
          rw [show tab j (fun t => if t < 0 then (R.getD t []).getD j 0 else 0) = List.replicate j 0 from by unfold tab; apply List.ext_getElem <;> simp]; exact this
        case round =>
          obtain ⟨k, rfl, hk, ag, hext⟩ := hrel
          have HAG := Lib.hid ag
          have HE5 := Lib.hid hext
          clear ag hext
          by_cases hkj : k < j
          · obtain ⟨gp, op, rfl, qp⟩ := (RD8.out.ext HE5.out).at (by simp; omega)
            have cp := qp k (by simp; exact hkj)
            rw [show ((List.range j).map Int.ofNat).getD k 0 = (k : Int) from by simp [List.getD, hkj]] at cp
            have hkR : k < R.length := by rw [RN.out]; exact hkj
            have M5 := HE4.out.mat.ext HE5.out
            have kh := M5.head hkR
            rw [RR.out k hkj] at kh
            have ke := M5.at (i := k) (j := j) hkR (by rw [RR.out k hkj]; omega)
            have f5 := HAG.out.frozen k
            have k5 := HAG.out.at (i := k) (by rw [tab_len]; exact hkj)
            have E5 : Hid ((tab j (fun t => if t < k then (R.getD t []).getD j 0 else 0)).set k ((R.getD k []).getD j 0) = tab j (fun t => if t < k + 1 then (R.getD t []).getD j 0 else 0)) := Lib.hid (tab_upd fun t _ => by
              by_cases e : t = k
              · subst e; rw [if_pos (by omega), if_pos rfl]
              · rw [if_neg e]
                by_cases h : t < k
                · rw [if_pos h, if_pos (by omega)]
                · rw [if_neg h, if_neg (by omega)])
            obtain ⟨y, hy⟩ : ∃ q, q = (R.getD k []).getD j 0 := ⟨_, rfl⟩
            rw [← hy] at ke E5
            have A5 : Hid (Arr (wr.setCell ⟨_, k, none⟩ (.int .u64 (y : Int))) _ _ j) := Lib.hid (HAG.out.set k y (by rw [tab_len]; exact hkj))
            rw [E5.out] at A5
            obtain ⟨gk, hgk⟩ : ∃ q, q = rowG L4 k := ⟨_, rfl⟩
            rw [← hgk] at kh ke
            clear hy hgk M5 qp hkR
            go_wp2_with fail
            go_roundw
            case rel => exact ⟨k + 1, by go_num, by omega, A5.out, HE5.out.setNew (Nat.le_refl _) _⟩
            case measure => simp [intOf]; omega
          · obtain rfl : k = j := by omega
            have O5 := Lib.hid (HAG.out.own (base := w.heap.size) HX4.out.size)
            rw [tab_len, tab_congr (G := fun t => (R.getD t []).getD k 0) (fun t ht => by rw [if_pos ht])] at O5
            have X5 := HX4.out.trans HE5.out
            clear HAG
            go_wp2_with fail
            go_returns
            exact ⟨_, rfl, by unfold solR; rw [← HR.out]; exact O5.out, X5⟩
end Go.Proofs.Ytcnbinjoeilfgaa
