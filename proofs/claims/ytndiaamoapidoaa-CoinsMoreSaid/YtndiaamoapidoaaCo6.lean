/- The search of package coins: (*search).from, the step and the whole. -/
import Derived.Test.YtndiaamoapidoaaCo5
namespace Go.Proofs.Ytndiaamoapidoaa
open Go.RowKit

def FrRel (f : Nat → Bst → Bst) (w0 : World) (ps : Nat) (A : Option Addr) (n C t : Nat) (now : List Int) (m i : Nat) (B : Bst) (v1 : Value) (wr : World) : Prop :=
  ∃ (j : Nat) (B' : Bst), v1 = .int .i64 j ∧ i ≤ j ∧ j ≤ n ∧ SS w0 ps A n C t now B' wr ∧ lo f (n - (j + m)) j B' = lo f (n - (i + m)) i B
theorem lo_step (f : Nat → Bst → Bst) (n j m : Nat) (B : Bst) (h : j + m + 1 ≤ n) : lo f (n - (j + m)) j B = lo f (n - (j + 1 + m)) (j + 1) (f j B) := by
  rw [show n - (j + m) = n - (j + 1 + m) + 1 from by omega]; rfl

theorem now_app {ps : Nat} {w0 wr w6 : World} {A : Option Addr} {n C t : Nat} {nv bv v' : Value} {now bb : List Int} {j : Int} {fo lv : Value}
    (hb : SB wr ps #[.slice A n C, .int .u64 (t : Int), nv, fo, bv, lv]) (hn : OwnI wr (ps + 1) nv now) (ho : OwnI wr (ps + 1) bv bb) (hd : ∀ k, nv.ownBlock = some k → bv.ownBlock ≠ some k) (hx : Ext w0 wr) (h0 : w0.heap.size ≤ ps) (o : Obj)
    (ho6 : OwnI w6 (ps + 1) v' (now ++ [j])) (hx6 : ∀ w0, Ext w0 (wr.alloc o) → w0.heap.size ≤ ps + 1 → Ext w0 w6) (hk6 : ∀ k, k < (wr.alloc o).heap.size → nv.ownBlock ≠ some k → w6.heap[k]? = (wr.alloc o).heap[k]?) (hw6 : v'.ownBlock = nv.ownBlock ∨ v'.ownBlock = some (wr.alloc o).heap.size) :
    ∃ a6 k6, v' = .slice a6 (now.length + 1) k6 ∧ SB w6 ps #[.slice A n C, .int .u64 (t : Int), nv, fo, bv, lv] ∧ OwnI w6 (ps + 1) v' (now ++ [j]) ∧ OwnI w6 (ps + 1) bv bb ∧ (∀ k, v'.ownBlock = some k → bv.ownBlock ≠ some k) ∧ Ext w0 w6 := by
  obtain ⟨a6, k6, hv6, _, _, _⟩ := ho6.form
  have hpl := SB.lt hb
  refine ⟨a6, k6, by simpa using hv6, (hk6 ps (by simp; omega) hn.ne).trans ((Below.block ((Ext.refl wr).alloc _) ps hpl).trans hb), ho6, ?_, ?_, hx6 _ (hx.trans ((Ext.refl wr).alloc _)) (by omega)⟩
  · exact (ho.grow ((Ext.refl wr).alloc o)).keep (fun k hk e => hk6 k hk (fun e2 => hd k e2 e))
  · intro k e e3
    rcases hw6 with e2 | e2
    · exact hd k (e2 ▸ e) e3
    · have hq := ho.ltB e3
      rw [e2] at e
      injection e with e
      simp at e; omega

set_option maxRecDepth 100000 in
set_option maxHeartbeats 8000000 in
theorem from_step (vs : List Nat) (t : Nat) (A : Option Addr) (C : Nat) (w0 : World) (ps : Nat) (h0 : w0.heap.size ≤ ps) (hr : Rd w0 A vs) (hlen : vs.length ≤ 24) (hsm : smallL vs = true) (m : Nat) (hm : m + 1 ≤ 24)
    (ih : ∀ (i sum : Nat) (now : List Int) (B : Bst) (w : World) (ii mm ss : Int), SS w0 ps A vs.length C t now B w → ii = i → mm = m → ss = sum → i ≤ vs.length → sum ≤ 4294967295 * i → now.length ≤ i →
      Calls Try.prog 24 #[.pointer (some ⟨ps, 0, none⟩), .int .i64 ii, .int .i64 mm, .int .u64 ss] w fun e w' => e = .returned (.tuple #[]) ∧ SS w0 ps A vs.length C t now (fromM vs t m i sum now B) w')
    (i sum : Nat) (now : List Int) (B : Bst) (w : World) (h : SS w0 ps A vs.length C t now B w) (hd : ¬ (B.isSome = true ∧ lst B = t)) (hi : i ≤ vs.length) (hsum : sum ≤ 4294967295 * i) (hnl : now.length ≤ i) :
    Calls Try.prog 24 #[.pointer (some ⟨ps, 0, none⟩), .int .i64 i, .int .i64 ((m : Int) + 1), .int .u64 sum] w fun e w' => e = .returned (.tuple #[]) ∧ SS w0 ps A vs.length C t now (lo (fun j B => fromM vs t m (j + 1) (sum + vs.getD j 0) (now ++ [(j : Int)]) B) (vs.length - (i + m)) i B) w' := by
  have HS := Lib.hid h
  have HR := Lib.hid hr
  have IH := Lib.hid ih
  have HSM := Lib.hid (of_decide_eq_true hsm)
  obtain ⟨nv, bv, hb, hn, ho, hdis, hx⟩ := h
  have c0 : w.cell? ⟨ps, 0, none⟩ = some (.slice A vs.length C) := SB.cell hb 0
  have c1 : w.cell? ⟨ps, 1, none⟩ = some (.int .u64 (t : Int)) := SB.cell hb 1
  have c3 : w.cell? ⟨ps, 3, none⟩ = some (.bool B.isSome) := SB.cell hb 3
  have c5 : w.cell? ⟨ps, 5, none⟩ = some (.int .u64 ((lst B : Nat) : Int)) := SB.cell hb 5
  clear hb hn ho hdis hx hr ih hsm
  cases B with
  | none =>
    simp only [Option.isSome_none] at c3
    obtain ⟨BB, hBB⟩ : ∃ BB : Bst, BB = none := ⟨_, rfl⟩
    rw [← hBB] at HS ⊢
    clear hd hBB
    obtain ⟨f, hf⟩ : ∃ f, f = (fun j B => fromM vs t m (j + 1) (sum + vs.getD j 0) (now ++ [(j : Int)]) B) := ⟨_, rfl⟩
    rw [← hf]
    have HF := Lib.hid hf
    clear hf
    have hm0 : (((m : Int) + 1) == 0) = false := beq_eq_false_iff_ne.2 (by omega)
    go_enter Try.func24, Try.ntmps24
    go_wp2_with fail
    go_quiet (fail)
    go_wp2_with fail
    go_loopw [1] (FrRel f w0 ps A vs.length C t now m i BB) (fun j _ => vs.length + 1 - (intOf j).toNat)
    case atStart => exact ⟨i, BB, rfl, Nat.le_refl _, hi, HS.out.ext (below_drewN (Ext.refl w) _), rfl⟩
    case round =>
      clear c0 c1 c3 c5
      obtain ⟨j, B', rfl, hij, hjn, hS, hlo⟩ := hrel
      have HSj := Lib.hid hS
      have HLO := Lib.hid hlo
      obtain ⟨nv, bv, hb, hn, ho, hdis, hx⟩ := hS
      have c0 : wr.cell? ⟨ps, 0, none⟩ = some (.slice A vs.length C) := SB.cell hb 0
      by_cases hlt : j + m + 1 ≤ vs.length
      · obtain ⟨gv, ov, hA, hcv⟩ := HR.out.at (by omega)
        have hgv : gv < ps := by
          have := World.block_lt_of_cell? w0 _ (hcv j (by omega))
          simp only at this; omega
        have hcj0 := hcv j (by omega)
        have hxv := HSM.out j (by omega)
        have STEP := Lib.hid (lo_step f vs.length j m B' hlt)
        have hfj : f j B' = fromM vs t m (j + 1) (sum + vs.getD j 0) (now ++ [(j : Int)]) B' := by rw [HF.out]
        have HFJ := Lib.hid hfj
        clear hfj
        obtain ⟨x, hx0⟩ : ∃ x, x = vs.getD j 0 := ⟨_, rfl⟩
        rw [← hx0] at hcj0 hxv HFJ
        obtain ⟨na, nc, hnv, _, _, nr⟩ := hn.form
        have c2 : wr.cell? ⟨ps, 2, none⟩ = some (.slice na now.length nc) := by rw [← hnv]; exact SB.cell hb 2
        have HB := Lib.hid hb
        have HN := Lib.hid hn
        have HO := Lib.hid ho
        have HD := Lib.hid hdis
        have HX := Lib.hid hx
        have HNV := Lib.hid hnv
        have hpl := SB.lt hb
        subst hA
        clear hb hn ho hdis hx hlo hx0 hcv hnv nr
        go_wp2_with (at_builtin; refine wpList_app1J rfl (.tmp 81) (.tmp 83) rfl (ps + 1) nv now (HNV.out ▸ rfl) (HN.out.grow ((Ext.refl _).alloc _)) wr.heap.size (j : Int) 1 rfl (by simp) (by omega) (by simp; omega) ?_; intro v' w6 ho6 hx6 hk6 hs6 hw6; obtain ⟨a6, k6, rfl, hb6, hn6, hbo6, hd6, x6⟩ := now_app HB.out HN.out HO.out HD.out HX.out h0 _ ho6 hx6 hk6 hw6; have HB6 := Lib.hid hb6; have HO6 := Lib.hid hn6; have HBO := Lib.hid hbo6; have HD6 := Lib.hid hd6; have X6 := Lib.hid x6; have c06 : w6.cell? ⟨ps, 0, none⟩ = some (.slice (some ⟨gv, ov, none⟩) vs.length C) := SB.cell hb6 0; have f26 := SB.frozen hb6 2; have c26 : w6.cell? ⟨ps, 2, none⟩ = some nv := SB.cell hb6 2; have cj6 : w6.cell? ⟨gv, ov + j, none⟩ = some (.int .u64 (x : Int)) := x6.cell hcj0; clear ho6 hx6 hk6 hs6 hw6 hb6 hn6 hbo6 hd6 x6)
        have HSS : Hid (SS w0 ps (some ⟨gv, ov, none⟩) vs.length C t (now ++ [(j : Int)]) B' (w6.setCell ⟨ps, 2, none⟩ (.slice a6 (now.length + 1) k6))) := Lib.hid (by
          have hbt := But.set w6 ps 2 (.slice a6 (now.length + 1) k6)
          exact ⟨_, bv, SB.set_ HB6.out 2 _, hbt.ownI HO6.out HO6.out.ne, hbt.ownI HBO.out HBO.out.ne, HD6.out, hbt.ext X6.out h0⟩)
        refine (IH.out (j + 1) (sum + x) _ B' _ _ _ _ HSS.out (by omega) (by omega) (by omega) (by omega) (by omega) (by simp; omega)).mono ?_
        rintro e w8 ⟨rfl, s8⟩
        rw [← HFJ.out] at s8
        clear HSS HB6 HO6 HBO HD6 X6 c06 f26 cj6 c26
        obtain ⟨nv8, bv8, hb8, hn8, ho8, hd8, hx8⟩ := s8
        obtain ⟨a8, k8, hv8, _, _, _⟩ := hn8.form
        replace hv8 : nv8 = .slice a8 (now.length + 1) k8 := by simpa using hv8
        have c2 : w8.cell? ⟨ps, 2, none⟩ = some (.slice a8 (now.length + 1) k8) := by rw [← hv8]; exact SB.cell hb8 2
        have hlk8 : now.length + 1 ≤ k8 := by
          have hq : (now ++ [(j : Int)]).length ≤ k8 := by assumption
          simpa using hq
        have B8 := Lib.hid hb8
        have N8 := Lib.hid hn8
        have O8 := Lib.hid ho8
        have D8 := Lib.hid hd8
        have X8 := Lib.hid hx8
        have V8 := Lib.hid hv8
        clear hb8 hn8 ho8 hd8 hx8 hv8
        go_wp2_with fail
        refine region_facts [[], [], [(1, 103)], [(2, 104)], [(3, 105)], [], [(5, 107)], [(6, 108)], [(7, 109)], [(8, 110)], [(9, 111)], [(4, 106), (10, 112)], [(0, 102)], [(12, 114)]] [some 102, some 103, some 104, some 105, some 106, some 107, some 108, some 109, some 110, some 111, some 112, some 113, some 114, some 115] (by kernel_rfl) (by kernel_rfl) ?_
        with_reducible apply From.eq
        · intro w' hx; have c2x := hx.cell c2; (try dsimp only [List.nil_append, List.cons_append]); dsimp only [DepsV, fat, eqF]; go_wp2; exact OpPost.some _ rfl rfl (Ext.refl _) rfl
        with_reducible apply From.eq
        · intro w' hx; have c2x := hx.cell c2; (try dsimp only [List.nil_append, List.cons_append]); dsimp only [DepsV, fat, eqF]; go_wp2; exact OpPost.some _ rfl rfl (Ext.refl _) rfl
        with_reducible apply From.eq
        · intro w' hx; have c2x := hx.cell c2; (try dsimp only [List.nil_append, List.cons_append]); dsimp only [DepsV, fat, eqF]; rintro _ rfl; go_wp2; exact OpPost.some _ rfl rfl (Ext.refl _) rfl
        with_reducible apply From.eq
        · intro w' hx; have c2x := hx.cell c2; (try dsimp only [List.nil_append, List.cons_append]); dsimp only [DepsV, fat, eqF]; rintro _ rfl; go_wp2; exact OpPost.some _ rfl rfl (Ext.refl _) rfl
        with_reducible apply From.eq
        · intro w' hx; have c2x := hx.cell c2; (try dsimp only [List.nil_append, List.cons_append]); dsimp only [DepsV, fat, eqF]; rintro _ rfl; go_wp2; exact OpPost.some _ rfl rfl (Ext.refl _) rfl
        with_reducible apply From.eq
        · intro w' hx; have c2x := hx.cell c2; (try dsimp only [List.nil_append, List.cons_append]); dsimp only [DepsV, fat, eqF]; go_wp2; exact OpPost.some _ rfl rfl (Ext.refl _) rfl
        with_reducible apply From.eq
        · intro w' hx; have c2x := hx.cell c2; (try dsimp only [List.nil_append, List.cons_append]); dsimp only [DepsV, fat, eqF]; rintro _ rfl; go_wp2; exact OpPost.some _ rfl rfl (Ext.refl _) rfl
        with_reducible apply From.eq
        · intro w' hx; have c2x := hx.cell c2; (try dsimp only [List.nil_append, List.cons_append]); dsimp only [DepsV, fat, eqF]; rintro _ rfl; go_wp2; exact OpPost.some _ rfl rfl (Ext.refl _) rfl
        with_reducible apply From.eq
        · intro w' hx; have c2x := hx.cell c2; (try dsimp only [List.nil_append, List.cons_append]); dsimp only [DepsV, fat, eqF]; rintro _ rfl; go_wp2; exact OpPost.some _ rfl rfl (Ext.refl _) rfl
        with_reducible apply From.eq
        · intro w' hx; have c2x := hx.cell c2; (try dsimp only [List.nil_append, List.cons_append]); dsimp only [DepsV, fat, eqF]; rintro _ rfl; go_wp2; exact OpPost.some _ rfl rfl (Ext.refl _) rfl
        with_reducible apply From.eq
        · intro w' hx; have c2x := hx.cell c2; (try dsimp only [List.nil_append, List.cons_append]); dsimp only [DepsV, fat, eqF]; rintro _ rfl; go_wp2; exact OpPost.some _ rfl rfl (Ext.refl _) rfl
        with_reducible apply From.eq
        · intro w' hx; have c2x := hx.cell c2; (try dsimp only [List.nil_append, List.cons_append]); dsimp only [DepsV, fat, eqF]; rintro _ rfl _ rfl; go_wp2; exact OpPost.some _ rfl rfl (Ext.refl _) rfl
        with_reducible apply From.eq
        · intro w' hx; have c2x := hx.cell c2; (try dsimp only [List.nil_append, List.cons_append]); dsimp only [DepsV, fat, eqF]; rintro _ rfl; go_wp2; exact OpPost.some _ rfl rfl (Ext.refl _) rfl
        with_reducible apply From.eq
        · intro w' hx; have c2x := hx.cell c2; (try dsimp only [List.nil_append, List.cons_append]); dsimp only [DepsV, fat, eqF]; rintro _ rfl; go_wp2; exact OpPost.some _ rfl rfl (Ext.refl _) rfl
        with_reducible refine From.fin ?_
        intro w' hx
        (try dsimp only [List.nil_append, List.cons_append]); dsimp only [EndV, eqF]; rintro _ rfl _ rfl _ rfl _ rfl _ rfl _ rfl _ rfl _ rfl _ rfl _ rfl _ rfl _ rfl _ rfl _ rfl; simp only [Act.put, List.setIfInBounds_toArray, List.set_cons_zero, List.set_cons_succ]
        have HX9 := Lib.hid hx
        have b9 : SB w' ps _ := (Below.block hx ps (SB.lt B8.out)).trans B8.out
        have f2 := SB.frozen b9 2
        have c29 := HX9.out.cell c2
        have B9 := Lib.hid b9
        clear hx b9
        go_wp2_with fail
        go_roundw
        case rel =>
          refine ⟨j + 1, f j B', by go_num, by omega, by omega, ?_, by rw [← STEP.out]; exact HLO.out⟩
          have hbt := But.set w' ps 2 (.slice a8 now.length k8)
          have hn9 : OwnI w' (ps + 1) (.slice a8 now.length k8) now := by
            have hq : OwnI w8 (ps + 1) (.slice a8 (now ++ [(j : Int)]).length k8) (now ++ [(j : Int)]) := by
              have := N8.out
              rw [V8.out] at this; simpa using this
            have := OwnI.pre hq now.length (by simp)
            rw [List.take_left] at this
            exact this.grow HX9.out
          have ho9 := O8.out.grow HX9.out
          refine ⟨_, bv8, SB.set_ B9.out 2 _, hbt.ownI hn9 hn9.ne, hbt.ownI ho9 ho9.ne, fun k e => D8.out k ?_, hbt.ext (X8.out.trans HX9.out) h0⟩
          rw [V8.out, ← e]; cases a8 <;> rfl
        case measure => simp [intOf]; omega
      · have E : Hid (lo f (vs.length - (i + m)) i BB = B') := Lib.hid (by rw [← HLO.out, show vs.length - (j + m) = 0 from by omega]; rfl)
        clear hb hn ho hdis hx hlo
        go_wp2_with fail
        go_end0
        exact ⟨rfl, by rw [E.out]; exact HSj.out⟩
  | some b =>
    obtain ⟨b1, b2⟩ := b
    simp only [Option.isSome_some, lst] at c3 c5 hd
    have t0 : ((b2 : Int) == (t : Int)) = false := beq_eq_false_iff_ne.2 (fun e => hd ⟨trivial, by omega⟩)
    obtain ⟨BB, hBB⟩ : ∃ BB : Bst, BB = some (b1, b2) := ⟨_, rfl⟩
    rw [← hBB] at HS ⊢
    clear hd hBB
    obtain ⟨f, hf⟩ : ∃ f, f = (fun j B => fromM vs t m (j + 1) (sum + vs.getD j 0) (now ++ [(j : Int)]) B) := ⟨_, rfl⟩
    rw [← hf]
    have HF := Lib.hid hf
    clear hf
    have hm0 : (((m : Int) + 1) == 0) = false := beq_eq_false_iff_ne.2 (by omega)
    go_enter Try.func24, Try.ntmps24
    go_wp2_with fail
    go_quiet (fail)
    go_wp2_with fail
    go_loopw [1] (FrRel f w0 ps A vs.length C t now m i BB) (fun j _ => vs.length + 1 - (intOf j).toNat)
    case atStart => exact ⟨i, BB, rfl, Nat.le_refl _, hi, HS.out.ext (below_drewN (Ext.refl w) _), rfl⟩
    case round =>
      clear c0 c1 c3 c5
      obtain ⟨j, B', rfl, hij, hjn, hS, hlo⟩ := hrel
      have HSj := Lib.hid hS
      have HLO := Lib.hid hlo
      obtain ⟨nv, bv, hb, hn, ho, hdis, hx⟩ := hS
      have c0 : wr.cell? ⟨ps, 0, none⟩ = some (.slice A vs.length C) := SB.cell hb 0
      by_cases hlt : j + m + 1 ≤ vs.length
      · obtain ⟨gv, ov, hA, hcv⟩ := HR.out.at (by omega)
        have hgv : gv < ps := by
          have := World.block_lt_of_cell? w0 _ (hcv j (by omega))
          simp only at this; omega
        have hcj0 := hcv j (by omega)
        have hxv := HSM.out j (by omega)
        have STEP := Lib.hid (lo_step f vs.length j m B' hlt)
        have hfj : f j B' = fromM vs t m (j + 1) (sum + vs.getD j 0) (now ++ [(j : Int)]) B' := by rw [HF.out]
        have HFJ := Lib.hid hfj
        clear hfj
        obtain ⟨x, hx0⟩ : ∃ x, x = vs.getD j 0 := ⟨_, rfl⟩
        rw [← hx0] at hcj0 hxv HFJ
        obtain ⟨na, nc, hnv, _, _, nr⟩ := hn.form
        have c2 : wr.cell? ⟨ps, 2, none⟩ = some (.slice na now.length nc) := by rw [← hnv]; exact SB.cell hb 2
        have HB := Lib.hid hb
        have HN := Lib.hid hn
        have HO := Lib.hid ho
        have HD := Lib.hid hdis
        have HX := Lib.hid hx
        have HNV := Lib.hid hnv
        have hpl := SB.lt hb
        subst hA
        clear hb hn ho hdis hx hlo hx0 hcv hnv nr
        go_wp2_with (at_builtin; refine wpList_app1J rfl (.tmp 81) (.tmp 83) rfl (ps + 1) nv now (HNV.out ▸ rfl) (HN.out.grow ((Ext.refl _).alloc _)) wr.heap.size (j : Int) 1 rfl (by simp) (by omega) (by simp; omega) ?_; intro v' w6 ho6 hx6 hk6 hs6 hw6; obtain ⟨a6, k6, rfl, hb6, hn6, hbo6, hd6, x6⟩ := now_app HB.out HN.out HO.out HD.out HX.out h0 _ ho6 hx6 hk6 hw6; have HB6 := Lib.hid hb6; have HO6 := Lib.hid hn6; have HBO := Lib.hid hbo6; have HD6 := Lib.hid hd6; have X6 := Lib.hid x6; have c06 : w6.cell? ⟨ps, 0, none⟩ = some (.slice (some ⟨gv, ov, none⟩) vs.length C) := SB.cell hb6 0; have f26 := SB.frozen hb6 2; have c26 : w6.cell? ⟨ps, 2, none⟩ = some nv := SB.cell hb6 2; have cj6 : w6.cell? ⟨gv, ov + j, none⟩ = some (.int .u64 (x : Int)) := x6.cell hcj0; clear ho6 hx6 hk6 hs6 hw6 hb6 hn6 hbo6 hd6 x6)
        have HSS : Hid (SS w0 ps (some ⟨gv, ov, none⟩) vs.length C t (now ++ [(j : Int)]) B' (w6.setCell ⟨ps, 2, none⟩ (.slice a6 (now.length + 1) k6))) := Lib.hid (by
          have hbt := But.set w6 ps 2 (.slice a6 (now.length + 1) k6)
          exact ⟨_, bv, SB.set_ HB6.out 2 _, hbt.ownI HO6.out HO6.out.ne, hbt.ownI HBO.out HBO.out.ne, HD6.out, hbt.ext X6.out h0⟩)
        refine (IH.out (j + 1) (sum + x) _ B' _ _ _ _ HSS.out (by omega) (by omega) (by omega) (by omega) (by omega) (by simp; omega)).mono ?_
        rintro e w8 ⟨rfl, s8⟩
        rw [← HFJ.out] at s8
        clear HSS HB6 HO6 HBO HD6 X6 c06 f26 cj6 c26
        obtain ⟨nv8, bv8, hb8, hn8, ho8, hd8, hx8⟩ := s8
        obtain ⟨a8, k8, hv8, _, _, _⟩ := hn8.form
        replace hv8 : nv8 = .slice a8 (now.length + 1) k8 := by simpa using hv8
        have c2 : w8.cell? ⟨ps, 2, none⟩ = some (.slice a8 (now.length + 1) k8) := by rw [← hv8]; exact SB.cell hb8 2
        have hlk8 : now.length + 1 ≤ k8 := by
          have hq : (now ++ [(j : Int)]).length ≤ k8 := by assumption
          simpa using hq
        have B8 := Lib.hid hb8
        have N8 := Lib.hid hn8
        have O8 := Lib.hid ho8
        have D8 := Lib.hid hd8
        have X8 := Lib.hid hx8
        have V8 := Lib.hid hv8
        clear hb8 hn8 ho8 hd8 hx8 hv8
        go_wp2_with fail
        refine region_facts [[], [], [(1, 103)], [(2, 104)], [(3, 105)], [], [(5, 107)], [(6, 108)], [(7, 109)], [(8, 110)], [(9, 111)], [(4, 106), (10, 112)], [(0, 102)], [(12, 114)]] [some 102, some 103, some 104, some 105, some 106, some 107, some 108, some 109, some 110, some 111, some 112, some 113, some 114, some 115] (by kernel_rfl) (by kernel_rfl) ?_
        with_reducible apply From.eq
        · intro w' hx; have c2x := hx.cell c2; (try dsimp only [List.nil_append, List.cons_append]); dsimp only [DepsV, fat, eqF]; go_wp2; exact OpPost.some _ rfl rfl (Ext.refl _) rfl
        with_reducible apply From.eq
        · intro w' hx; have c2x := hx.cell c2; (try dsimp only [List.nil_append, List.cons_append]); dsimp only [DepsV, fat, eqF]; go_wp2; exact OpPost.some _ rfl rfl (Ext.refl _) rfl
        with_reducible apply From.eq
        · intro w' hx; have c2x := hx.cell c2; (try dsimp only [List.nil_append, List.cons_append]); dsimp only [DepsV, fat, eqF]; rintro _ rfl; go_wp2; exact OpPost.some _ rfl rfl (Ext.refl _) rfl
        with_reducible apply From.eq
        · intro w' hx; have c2x := hx.cell c2; (try dsimp only [List.nil_append, List.cons_append]); dsimp only [DepsV, fat, eqF]; rintro _ rfl; go_wp2; exact OpPost.some _ rfl rfl (Ext.refl _) rfl
        with_reducible apply From.eq
        · intro w' hx; have c2x := hx.cell c2; (try dsimp only [List.nil_append, List.cons_append]); dsimp only [DepsV, fat, eqF]; rintro _ rfl; go_wp2; exact OpPost.some _ rfl rfl (Ext.refl _) rfl
        with_reducible apply From.eq
        · intro w' hx; have c2x := hx.cell c2; (try dsimp only [List.nil_append, List.cons_append]); dsimp only [DepsV, fat, eqF]; go_wp2; exact OpPost.some _ rfl rfl (Ext.refl _) rfl
        with_reducible apply From.eq
        · intro w' hx; have c2x := hx.cell c2; (try dsimp only [List.nil_append, List.cons_append]); dsimp only [DepsV, fat, eqF]; rintro _ rfl; go_wp2; exact OpPost.some _ rfl rfl (Ext.refl _) rfl
        with_reducible apply From.eq
        · intro w' hx; have c2x := hx.cell c2; (try dsimp only [List.nil_append, List.cons_append]); dsimp only [DepsV, fat, eqF]; rintro _ rfl; go_wp2; exact OpPost.some _ rfl rfl (Ext.refl _) rfl
        with_reducible apply From.eq
        · intro w' hx; have c2x := hx.cell c2; (try dsimp only [List.nil_append, List.cons_append]); dsimp only [DepsV, fat, eqF]; rintro _ rfl; go_wp2; exact OpPost.some _ rfl rfl (Ext.refl _) rfl
        with_reducible apply From.eq
        · intro w' hx; have c2x := hx.cell c2; (try dsimp only [List.nil_append, List.cons_append]); dsimp only [DepsV, fat, eqF]; rintro _ rfl; go_wp2; exact OpPost.some _ rfl rfl (Ext.refl _) rfl
        with_reducible apply From.eq
        · intro w' hx; have c2x := hx.cell c2; (try dsimp only [List.nil_append, List.cons_append]); dsimp only [DepsV, fat, eqF]; rintro _ rfl; go_wp2; exact OpPost.some _ rfl rfl (Ext.refl _) rfl
        with_reducible apply From.eq
        · intro w' hx; have c2x := hx.cell c2; (try dsimp only [List.nil_append, List.cons_append]); dsimp only [DepsV, fat, eqF]; rintro _ rfl _ rfl; go_wp2; exact OpPost.some _ rfl rfl (Ext.refl _) rfl
        with_reducible apply From.eq
        · intro w' hx; have c2x := hx.cell c2; (try dsimp only [List.nil_append, List.cons_append]); dsimp only [DepsV, fat, eqF]; rintro _ rfl; go_wp2; exact OpPost.some _ rfl rfl (Ext.refl _) rfl
        with_reducible apply From.eq
        · intro w' hx; have c2x := hx.cell c2; (try dsimp only [List.nil_append, List.cons_append]); dsimp only [DepsV, fat, eqF]; rintro _ rfl; go_wp2; exact OpPost.some _ rfl rfl (Ext.refl _) rfl
        with_reducible refine From.fin ?_
        intro w' hx
        (try dsimp only [List.nil_append, List.cons_append]); dsimp only [EndV, eqF]; rintro _ rfl _ rfl _ rfl _ rfl _ rfl _ rfl _ rfl _ rfl _ rfl _ rfl _ rfl _ rfl _ rfl _ rfl; simp only [Act.put, List.setIfInBounds_toArray, List.set_cons_zero, List.set_cons_succ]
        have HX9 := Lib.hid hx
        have b9 : SB w' ps _ := (Below.block hx ps (SB.lt B8.out)).trans B8.out
        have f2 := SB.frozen b9 2
        have c29 := HX9.out.cell c2
        have B9 := Lib.hid b9
        clear hx b9
        go_wp2_with fail
        go_roundw
        case rel =>
          refine ⟨j + 1, f j B', by go_num, by omega, by omega, ?_, by rw [← STEP.out]; exact HLO.out⟩
          have hbt := But.set w' ps 2 (.slice a8 now.length k8)
          have hn9 : OwnI w' (ps + 1) (.slice a8 now.length k8) now := by
            have hq : OwnI w8 (ps + 1) (.slice a8 (now ++ [(j : Int)]).length k8) (now ++ [(j : Int)]) := by
              have := N8.out
              rw [V8.out] at this; simpa using this
            have := OwnI.pre hq now.length (by simp)
            rw [List.take_left] at this
            exact this.grow HX9.out
          have ho9 := O8.out.grow HX9.out
          refine ⟨_, bv8, SB.set_ B9.out 2 _, hbt.ownI hn9 hn9.ne, hbt.ownI ho9 ho9.ne, fun k e => D8.out k ?_, hbt.ext (X8.out.trans HX9.out) h0⟩
          rw [V8.out, ← e]; cases a8 <;> rfl
        case measure => simp [intOf]; omega
      · have E : Hid (lo f (vs.length - (i + m)) i BB = B') := Lib.hid (by rw [← HLO.out, show vs.length - (j + m) = 0 from by omega]; rfl)
        clear hb hn ho hdis hx hlo
        go_wp2_with fail
        go_end0
        exact ⟨rfl, by rw [E.out]; exact HSj.out⟩
end Go.Proofs.Ytndiaamoapidoaa
