/- The search of package coins: (*search).from. -/
import Derived.Test.YtndiaamoapidoaaCo4
import Derived.Test.YtndiaamoapidoaaRegG
import Derived.Test.YtndiaamoapidoaaApI
import Derived.Deep.QuietTactic
import Derived.BigQuiet
namespace Go.Proofs.Ytndiaamoapidoaa
open Go.RowKit

abbrev Bst := Option (List Int × Nat)
def lst : Bst → Nat
  | none => 0
  | some b => b.2
def bl : Bst → List Int
  | none => []
  | some b => b.1
def updB (t : Nat) (B : Bst) (now : List Int) (sum : Nat) : Bst := if t ≤ sum ∧ (B.isNone = true ∨ sum < lst B) then some (now, sum) else B
def lo (f : Nat → Bst → Bst) : Nat → Nat → Bst → Bst
  | 0, _, B => B
  | k + 1, i, B => lo f k (i + 1) (f i B)
def fromM (vs : List Nat) (t : Nat) : Nat → Nat → Nat → List Int → Bst → Bst
  | 0, _, sum, now, B => if B.isSome = true ∧ lst B = t then B else updB t B now sum
  | m + 1, i, sum, now, B => if B.isSome = true ∧ lst B = t then B else lo (fun j B => fromM vs t m (j + 1) (sum + vs.getD j 0) (now ++ [(j : Int)]) B) (vs.length - (i + m)) i B

/-- The state of a search: block ps. -/
def SS (w0 : World) (ps : Nat) (A : Option Addr) (n C t : Nat) (now : List Int) (B : Bst) (w : World) : Prop :=
  ∃ nv bv, w.heap[ps]? = some (.cells #[.slice A n C, .int .u64 (t : Int), nv, .bool B.isSome, bv, .int .u64 ((lst B : Nat) : Int)] 46 (0, 0)) ∧ OwnI w (ps + 1) nv now ∧ OwnI w (ps + 1) bv (bl B) ∧ (∀ k, nv.ownBlock = some k → bv.ownBlock ≠ some k) ∧ Ext w0 w

section
variable {w : World} {ps : Nat} {cs : Array Value}
def SB (w : World) (ps : Nat) (cs : Array Value) : Prop := w.heap[ps]? = some (.cells cs 46 (0, 0))
theorem SB.cell (h : SB w ps cs) (i : Nat) : w.cell? ⟨ps, i, none⟩ = cs[i]? := cell_of_row w ps i cs 46 (0, 0) h
theorem SB.frozen (h : SB w ps cs) (i : Nat) : w.frozen? ⟨ps, i, none⟩ = false := by
  unfold SB at h
  simp [World.frozen?, h]
theorem SB.set_ (h : SB w ps cs) (i : Nat) (u : Value) : SB (w.setCell ⟨ps, i, none⟩ u) ps (cs.setIfInBounds i u) := by
  unfold SB at h ⊢
  simp [World.setCell, Array.getElem?_modify, h]
theorem SB.lt (h : SB w ps cs) : ps < w.heap.size := (Array.getElem?_eq_some_iff.1 h).1
end
theorem But.ownI {g base : Nat} {w w' : World} {v : Value} {l : List Int} (h : But g w w') (ho : OwnI w base v l) (hne : v.ownBlock ≠ some g) : OwnI w' base v l := by
  refine ⟨ho.1, ?_⟩
  rcases ho.2 with hn | ⟨g', cap, cur, rfl, hb, hgg, rest⟩
  · exact .inl hn
  · exact .inr ⟨g', cap, cur, rfl, hb, (h.block g' (Array.getElem?_eq_some_iff.1 hgg).1 (fun e => hne (by subst e; rfl))).trans hgg, rest⟩
theorem OwnI.ne {base : Nat} {w : World} {v : Value} {l : List Int} (ho : OwnI w (base + 1) v l) : v.ownBlock ≠ some base := fun e => by
  have := ho.baseLt _ e; omega
theorem SS.ext {w0 : World} {ps : Nat} {A : Option Addr} {n C t : Nat} {now : List Int} {B : Bst} {w w' : World} (h : SS w0 ps A n C t now B w) (hx : Ext w w') : SS w0 ps A n C t now B w' := by
  obtain ⟨nv, bv, hb, h1, h2, h3, h4⟩ := h
  exact ⟨nv, bv, (Below.block hx ps (SB.lt hb)).trans hb, h1.grow hx, h2.grow hx, h3, h4.trans hx⟩
theorem from_done (vs : List Nat) (t : Nat) (A : Option Addr) (C : Nat) (w0 : World) (ps : Nat) (more i sum : Nat) (now : List Int) (B : Bst) (w : World) (h : SS w0 ps A vs.length C t now B w) (hd : B.isSome = true ∧ lst B = t) :
    Calls Try.prog 24 #[.pointer (some ⟨ps, 0, none⟩), .int .i64 i, .int .i64 more, .int .u64 sum] w fun e w' => e = .returned (.tuple #[]) ∧ SS w0 ps A vs.length C t now (fromM vs t more i sum now B) w' := by
  have hB : fromM vs t more i sum now B = B := by cases more <;> simp only [fromM, if_pos hd]
  rw [hB]
  have HS := Lib.hid h
  obtain ⟨nv, bv, hb, _, _, _, hx⟩ := h
  rw [hd.1, hd.2] at hb
  have c1 : w.cell? ⟨ps, 1, none⟩ = some (.int .u64 (t : Int)) := SB.cell hb 1
  have c3 : w.cell? ⟨ps, 3, none⟩ = some (.bool true) := SB.cell hb 3
  have c5 : w.cell? ⟨ps, 5, none⟩ = some (.int .u64 (t : Int)) := SB.cell hb 5
  clear hb hx hd hB
  go_enter Try.func24, Try.ntmps24
  go_wp2_with fail
  go_quiet (fail)
  go_wp2_with fail
  (try simp only [Exit.inBlock, Exit.then]); refine bodyPost_ret (results_none rfl _ _ _) rfl ?_
  exact ⟨rfl, HS.out.ext (below_drewN (Ext.refl _) _)⟩

/-- What a region that writes best keeps. -/
def RK (w0 w3 : World) (bv : Value) (w : World) : Prop := Ext w0 w ∧ (∀ k, k < w3.heap.size → bv.ownBlock ≠ some k → w.heap[k]? = w3.heap[k]?) ∧ w3.heap.size ≤ w.heap.size
theorem RK.mono {w0 w3 : World} {bv : Value} (w w' : World) (h : RK w0 w3 bv w) (hx : Ext w w') : RK w0 w3 bv w' :=
  ⟨h.1.trans hx, fun k hk hne => (Below.block hx k (Nat.lt_of_lt_of_le hk h.2.2)).trans (h.2.1 k hk hne), Nat.le_trans h.2.2 hx.size⟩

set_option maxRecDepth 100000 in
set_option maxHeartbeats 4000000 in
theorem from_zero (n : Nat) (t : Nat) (A : Option Addr) (C : Nat) (w0 : World) (ps : Nat) (h0 : w0.heap.size ≤ ps) (i sum : Nat) (now : List Int) (B : Bst) (w : World) (h : SS w0 ps A n C t now B w) (hd : ¬ (B.isSome = true ∧ lst B = t)) (hl : now.length ≤ 1000) :
    Calls Try.prog 24 #[.pointer (some ⟨ps, 0, none⟩), .int .i64 i, .int .i64 0, .int .u64 sum] w fun e w' => e = .returned (.tuple #[]) ∧ SS w0 ps A n C t now (updB t B now sum) w' := by
  have HS := Lib.hid h
  obtain ⟨nv, bv, hb, hn, ho, hdis, hx⟩ := h
  have c1 : w.cell? ⟨ps, 1, none⟩ = some (.int .u64 (t : Int)) := SB.cell hb 1
  have c3 : w.cell? ⟨ps, 3, none⟩ = some (.bool B.isSome) := SB.cell hb 3
  have c5 : w.cell? ⟨ps, 5, none⟩ = some (.int .u64 ((lst B : Nat) : Int)) := SB.cell hb 5
  have f3 := SB.frozen hb 3
  have f5 := SB.frozen hb 5
  by_cases hu : t ≤ sum ∧ (B.isNone = true ∨ sum < lst B)
  case neg =>
    have E : Hid (updB t B now sum = B) := Lib.hid (by unfold updB; rw [if_neg hu])
    rw [E.out]
    clear hb hn ho hdis hx
    cases B with
    | none =>
      have t1 : sum < t := by rcases Nat.lt_or_ge sum t with h | h; exact h; exact absurd ⟨h, .inl rfl⟩ hu
      simp only [Option.isSome_none] at c3
      clear hu hd
      go_enter Try.func24, Try.ntmps24
      go_wp2_with fail
      go_quiet (fail)
      go_wp2_with fail
      (try simp only [Exit.inBlock, Exit.then]); refine bodyPost_ret (results_none rfl _ _ _) rfl ?_
      exact ⟨rfl, HS.out.ext (below_drewN (Ext.refl _) _)⟩
    | some b =>
      simp only [Option.isSome_some, lst] at c3 c5 hd hu
      obtain ⟨b1, b2⟩ := b
      dsimp only at c5 hd hu
      have t0 : ((b2 : Int) == (t : Int)) = false := beq_eq_false_iff_ne.2 (fun e => hd ⟨trivial, by omega⟩)
      by_cases hts : t ≤ sum
      · have t2 : ¬ sum < b2 := fun h => hu ⟨hts, .inr h⟩
        clear hu hd
        go_enter Try.func24, Try.ntmps24
        go_wp2_with fail
        go_quiet (fail)
        go_wp2_with fail
        (try simp only [Exit.inBlock, Exit.then]); refine bodyPost_ret (results_none rfl _ _ _) rfl ?_
        exact ⟨rfl, HS.out.ext (below_drewN (Ext.refl _) _)⟩
      · clear hu hd
        go_enter Try.func24, Try.ntmps24
        go_wp2_with fail
        go_quiet (fail)
        go_wp2_with fail
        (try simp only [Exit.inBlock, Exit.then]); refine bodyPost_ret (results_none rfl _ _ _) rfl ?_
        exact ⟨rfl, HS.out.ext (below_drewN (Ext.refl _) _)⟩
  have E : Hid (updB t B now sum = some (now, sum)) := Lib.hid (by unfold updB; rw [if_pos hu])
  rw [E.out]
  have t1 := hu.1
  have HB := Lib.hid hb
  have HN := Lib.hid hn
  have HO := Lib.hid ho
  have HD := Lib.hid hdis
  have HX := Lib.hid hx
  cases B with
  | none =>
    simp only [Option.isSome_none] at c3
    clear hu hd hb hn ho hdis hx
    go_enter Try.func24, Try.ntmps24
    go_wp2_with fail
    go_quiet (fail)
    go_wp2_with fail
    generalize hw3 : World.setCell (World.setCell _ _ _) _ _ = w3
    have hb3 : SB w3 ps #[.slice A n C, .int .u64 (t : Int), nv, .bool true, bv, .int .u64 (sum : Int)] := by
      rw [← hw3]; exact (SB.set_ (SB.set_ (cs := #[.slice A n C, .int .u64 (t : Int), nv, .bool false, bv, .int .u64 ((0 : Nat) : Int)]) HB.out 3 (.bool true)) 5 (.int .u64 (sum : Int)))
    have b3 : But ps w w3 := by
      rw [← hw3]; exact ((Ext.but (below_drewN (Ext.refl _) _ : Ext w _) ps).trans (But.set _ ps 3 _)).trans (But.set _ ps 5 _)
    have x3 : Ext w0 w3 := b3.ext HX.out h0
    have n3 : OwnI w3 (ps + 1) nv now := b3.ownI HN.out HN.out.ne
    have o3 : OwnI w3 (ps + 1) bv [] := b3.ownI HO.out HO.out.ne
    clear b3 hw3
    obtain ⟨ba, bc, hbv, _, _, _⟩ := o3.form
    obtain ⟨na, nc, hnv, _, _, nr⟩ := n3.form
    have o30 : OwnI w3 (ps + 1) (.slice ba 0 bc) [] := by have := OwnI.pre (hbv ▸ o3) 0 (Nat.zero_le _); simpa using this
    have ebk : Value.ownBlock (.slice ba 0 bc) = bv.ownBlock := by rw [hbv]; cases ba <;> rfl
    have hsz3 := SB.lt hb3
    have c2 : w3.cell? ⟨ps, 2, none⟩ = some (.slice na now.length nc) := by rw [← hnv]; exact SB.cell hb3 2
    have c4 : w3.cell? ⟨ps, 4, none⟩ = some (.slice ba 0 bc) := by rw [show Value.slice ba 0 bc = bv from by rw [hbv]; first | done | rfl]; exact SB.cell hb3 4
    obtain ⟨RR, hRR⟩ : ∃ R, R = RK w0 w3 bv := ⟨_, rfl⟩
    have RR0 : ∀ w', Ext w3 w' → RR w' := fun w' hx => by rw [hRR]; exact RK.mono _ _ ⟨x3, fun _ _ _ => rfl, Nat.le_refl _⟩ hx
    have RR1 : ∀ w w', RR w → Ext w w' → RR w' := by rw [hRR]; exact RK.mono
    have X3 := Lib.hid x3
    have N3 := Lib.hid n3
    have O3 := Lib.hid o3
    have B3 := Lib.hid hb3
    have O30 := Lib.hid o30
    have NR := Lib.hid nr
    have HRR := Lib.hid hRR
    have HNV := Lib.hid hnv
    have EBK := Lib.hid ebk
    have EB0 : Hid (0 ≤ bc) := Lib.hid (Nat.zero_le _)
    clear x3 n3 o3 hb3 o30 nr hRR hnv hbv ebk
    refine region_factsG RR RR0 RR1 10 [[], [], [(1, 54)], [(2, 55)], [(3, 56)], [(4, 57)], [], [(6, 59)], [(7, 60)], [(8, 61)], [(5, 58), (9, 62)]] [some 53, some 54, some 55, some 56, some 57, some 58, some 59, some 60, some 61, some 62, some 63] (by kernel_rfl) (by kernel_rfl) (by decide) ?_
    with_reducible apply FromG.beq
    · decide
    · kernel_rfl
    · intro w' hx; (try dsimp only [List.nil_append, List.cons_append]); dsimp only [DepsV, fat, eqF, valF]; go_wp2; exact PostI.some _ rfl rfl ⟨Ext.refl _, rfl⟩
    with_reducible apply FromG.preEq
    · kernel_rfl
    · intro w' hx; have c2x := hx.cell c2; have c4x := hx.cell c4; (try dsimp only [List.nil_append, List.cons_append]); dsimp only [DepsV, fat, eqF, valF]; go_wp2; exact PostI.some _ rfl rfl ⟨Ext.refl _, rfl⟩
    with_reducible apply FromG.preEq
    · kernel_rfl
    · intro w' hx; have c2x := hx.cell c2; have c4x := hx.cell c4; (try dsimp only [List.nil_append, List.cons_append]); dsimp only [DepsV, fat, eqF, valF]; rintro _ rfl; go_wp2; exact PostI.some _ rfl rfl ⟨Ext.refl _, rfl⟩
    with_reducible apply FromG.preEq
    · kernel_rfl
    · intro w' hx; have c2x := hx.cell c2; have c4x := hx.cell c4; (try dsimp only [List.nil_append, List.cons_append]); dsimp only [DepsV, fat, eqF, valF]; rintro _ rfl; go_wp2; exact PostI.some _ rfl rfl ⟨Ext.refl _, rfl⟩
    with_reducible apply FromG.preEq
    · kernel_rfl
    · intro w' hx; have c2x := hx.cell c2; have c4x := hx.cell c4; (try dsimp only [List.nil_append, List.cons_append]); dsimp only [DepsV, fat, eqF, valF]; rintro _ rfl; go_wp2; exact PostI.some _ rfl rfl ⟨Ext.refl _, rfl⟩
    with_reducible apply FromG.preEq
    · kernel_rfl
    · intro w' hx; have c2x := hx.cell c2; have c4x := hx.cell c4; (try dsimp only [List.nil_append, List.cons_append]); dsimp only [DepsV, fat, eqF, valF]; rintro _ rfl; go_wp2; exact PostI.some _ rfl rfl ⟨Ext.refl _, rfl⟩
    with_reducible apply FromG.preEq
    · kernel_rfl
    · intro w' hx; have c2x := hx.cell c2; have c4x := hx.cell c4; (try dsimp only [List.nil_append, List.cons_append]); dsimp only [DepsV, fat, eqF, valF]; go_wp2; exact PostI.some _ rfl rfl ⟨Ext.refl _, rfl⟩
    with_reducible apply FromG.preEq
    · kernel_rfl
    · intro w' hx; have c2x := hx.cell c2; have c4x := hx.cell c4; (try dsimp only [List.nil_append, List.cons_append]); dsimp only [DepsV, fat, eqF, valF]; rintro _ rfl; go_wp2; exact PostI.some _ rfl rfl ⟨Ext.refl _, rfl⟩
    with_reducible apply FromG.preEq
    · kernel_rfl
    · intro w' hx; have c2x := hx.cell c2; have c4x := hx.cell c4; (try dsimp only [List.nil_append, List.cons_append]); dsimp only [DepsV, fat, eqF, valF]; rintro _ rfl; go_wp2; exact PostI.some _ rfl rfl ⟨Ext.refl _, rfl⟩
    with_reducible apply FromG.preEq
    · kernel_rfl
    · intro w' hx; have c2x := hx.cell c2; have c4x := hx.cell c4; (try dsimp only [List.nil_append, List.cons_append]); dsimp only [DepsV, fat, eqF, valF]; rintro _ rfl; go_wp2; exact PostI.some _ rfl rfl ⟨Ext.refl _, rfl⟩
    refine FromG.wr (fun w v => OwnI w (ps + 1) v now ∧ (v.ownBlock = bv.ownBlock ∨ ∃ k, w3.heap.size ≤ k ∧ v.ownBlock = some k)) rfl (fun _ _ _ hx h => ⟨h.1.grow hx, h.2⟩) ?_ ?_
    · intro w' hx; have c2x := hx.cell c2; have c4x := hx.cell c4; (try dsimp only [List.nil_append, List.cons_append]); dsimp only [DepsV, fat, eqF, valF]; rintro _ rfl; rintro _ rfl; go_wp2_with (at_builtin; refine wpList_appJ rfl (.tmp 58) (.tmp 62) rfl (ps + 1) (.slice ba 0 bc) [] rfl (O30.out.grow hx) na now nc rfl (NR.out.ext hx) (by simp; omega) (Nat.le_trans hsz3 hx.size) ?_; intro v' w6 ho6 hx6 hk6 hs6 hw6); refine PostI.some _ rfl rfl ⟨?_, by simpa using ho6, ?_⟩
      · rw [HRR.out]; exact ⟨hx6 _ (X3.out.trans hx) (by omega), fun k hk hne => (hk6 k (Nat.lt_of_lt_of_le hk hx.size) (by rw [EBK.out]; exact hne)).trans (Below.block hx k hk), Nat.le_trans hx.size hs6⟩
      · rcases hw6 with e | e
        · left; rw [e, EBK.out]
        · right; exact ⟨_, hx.size, e⟩
    with_reducible refine FromG.fin ?_
    intro w' hx
    (try dsimp only [List.nil_append, List.cons_append]); dsimp only [EndV, eqF, valF]; rintro _ rfl _ rfl _ rfl _ rfl _ rfl _ rfl _ rfl _ rfl _ rfl _ rfl v10 h10; simp only [Act.put, List.setIfInBounds_toArray, List.set_cons_zero, List.set_cons_succ]
    rw [HRR.out] at hx
    have HX4 := Lib.hid hx
    have HB4 : Hid (SB w' ps #[.slice A n C, .int .u64 (t : Int), nv, .bool true, bv, .int .u64 (sum : Int)]) := Lib.hid ((hx.2.1 ps hsz3 O3.out.ne).trans B3.out)
    obtain ⟨a10, k10, hv10, _, _, _⟩ := h10.1.form
    have H10 := Lib.hid h10
    have HV10 := Lib.hid hv10
    rw [hv10]
    have f4 := SB.frozen HB4.out 4
    have c44 : w'.cell? ⟨ps, 4, none⟩ = some bv := SB.cell HB4.out 4
    clear hx h10 RR0 RR1 HRR hv10
    go_wp2_with fail
    (try simp only [Exit.inBlock, Exit.then]); refine bodyPost_ret (results_none rfl _ _ _) rfl ?_
    rw [← HV10.out]
    have hbt := But.set w' ps 4 v10
    refine ⟨rfl, nv, v10, SB.set_ HB4.out 4 v10, ?_, hbt.ownI H10.out.1 H10.out.1.ne, ?_, hbt.ext HX4.out.1 h0⟩
    · refine hbt.ownI (N3.out.keep fun k hk e => HX4.out.2.1 k hk ?_) N3.out.ne
      exact HD.out k e
    · intro k e
      rcases H10.out.2 with e2 | ⟨k2, hk2, e2⟩
      · rw [e2]; exact HD.out k e
      · rw [e2]; intro e3
        have := N3.out.ltB e
        injection e3 with e3; omega
  | some b =>
    obtain ⟨b1, b2⟩ := b
    simp only [Option.isSome_some, lst] at c3 c5 hd hu
    have t0 : ((b2 : Int) == (t : Int)) = false := beq_eq_false_iff_ne.2 (fun e => hd ⟨trivial, by omega⟩)
    have t2 : sum < b2 := by rcases hu.2 with e | e; cases e; exact e
    clear hu hd hb hn ho hdis hx
    go_enter Try.func24, Try.ntmps24
    go_wp2_with fail
    go_quiet (fail)
    go_wp2_with fail
    generalize hw3 : World.setCell (World.setCell _ _ _) _ _ = w3
    have hb3 : SB w3 ps #[.slice A n C, .int .u64 (t : Int), nv, .bool true, bv, .int .u64 (sum : Int)] := by
      rw [← hw3]; exact (SB.set_ (SB.set_ (cs := #[.slice A n C, .int .u64 (t : Int), nv, .bool true, bv, .int .u64 (b2 : Int)]) HB.out 3 (.bool true)) 5 (.int .u64 (sum : Int)))
    have b3 : But ps w w3 := by
      rw [← hw3]; exact ((Ext.but (below_drewN (Ext.refl _) _ : Ext w _) ps).trans (But.set _ ps 3 _)).trans (But.set _ ps 5 _)
    have x3 : Ext w0 w3 := b3.ext HX.out h0
    have n3 : OwnI w3 (ps + 1) nv now := b3.ownI HN.out HN.out.ne
    have o3 : OwnI w3 (ps + 1) bv b1 := b3.ownI HO.out HO.out.ne
    clear b3 hw3
    obtain ⟨ba, bc, hbv, _, _, _⟩ := o3.form
    obtain ⟨na, nc, hnv, _, _, nr⟩ := n3.form
    have o30 : OwnI w3 (ps + 1) (.slice ba 0 bc) [] := by have := OwnI.pre (hbv ▸ o3) 0 (Nat.zero_le _); simpa using this
    have ebk : Value.ownBlock (.slice ba 0 bc) = bv.ownBlock := by rw [hbv]; cases ba <;> rfl
    have hsz3 := SB.lt hb3
    have c2 : w3.cell? ⟨ps, 2, none⟩ = some (.slice na now.length nc) := by rw [← hnv]; exact SB.cell hb3 2
    have c4 : w3.cell? ⟨ps, 4, none⟩ = some (.slice ba b1.length bc) := by rw [show Value.slice ba b1.length bc = bv from by rw [hbv]; first | done | rfl]; exact SB.cell hb3 4
    obtain ⟨RR, hRR⟩ : ∃ R, R = RK w0 w3 bv := ⟨_, rfl⟩
    have RR0 : ∀ w', Ext w3 w' → RR w' := fun w' hx => by rw [hRR]; exact RK.mono _ _ ⟨x3, fun _ _ _ => rfl, Nat.le_refl _⟩ hx
    have RR1 : ∀ w w', RR w → Ext w w' → RR w' := by rw [hRR]; exact RK.mono
    have X3 := Lib.hid x3
    have N3 := Lib.hid n3
    have O3 := Lib.hid o3
    have B3 := Lib.hid hb3
    have O30 := Lib.hid o30
    have NR := Lib.hid nr
    have HRR := Lib.hid hRR
    have HNV := Lib.hid hnv
    have EBK := Lib.hid ebk
    have EB0 : Hid (0 ≤ bc) := Lib.hid (Nat.zero_le _)
    clear x3 n3 o3 hb3 o30 nr hRR hnv hbv ebk
    refine region_factsG RR RR0 RR1 10 [[], [], [(1, 54)], [(2, 55)], [(3, 56)], [(4, 57)], [], [(6, 59)], [(7, 60)], [(8, 61)], [(5, 58), (9, 62)]] [some 53, some 54, some 55, some 56, some 57, some 58, some 59, some 60, some 61, some 62, some 63] (by kernel_rfl) (by kernel_rfl) (by decide) ?_
    with_reducible apply FromG.beq
    · decide
    · kernel_rfl
    · intro w' hx; (try dsimp only [List.nil_append, List.cons_append]); dsimp only [DepsV, fat, eqF, valF]; go_wp2; exact PostI.some _ rfl rfl ⟨Ext.refl _, rfl⟩
    with_reducible apply FromG.preEq
    · kernel_rfl
    · intro w' hx; have c2x := hx.cell c2; have c4x := hx.cell c4; (try dsimp only [List.nil_append, List.cons_append]); dsimp only [DepsV, fat, eqF, valF]; go_wp2; exact PostI.some _ rfl rfl ⟨Ext.refl _, rfl⟩
    with_reducible apply FromG.preEq
    · kernel_rfl
    · intro w' hx; have c2x := hx.cell c2; have c4x := hx.cell c4; (try dsimp only [List.nil_append, List.cons_append]); dsimp only [DepsV, fat, eqF, valF]; rintro _ rfl; go_wp2; exact PostI.some _ rfl rfl ⟨Ext.refl _, rfl⟩
    with_reducible apply FromG.preEq
    · kernel_rfl
    · intro w' hx; have c2x := hx.cell c2; have c4x := hx.cell c4; (try dsimp only [List.nil_append, List.cons_append]); dsimp only [DepsV, fat, eqF, valF]; rintro _ rfl; go_wp2; exact PostI.some _ rfl rfl ⟨Ext.refl _, rfl⟩
    with_reducible apply FromG.preEq
    · kernel_rfl
    · intro w' hx; have c2x := hx.cell c2; have c4x := hx.cell c4; (try dsimp only [List.nil_append, List.cons_append]); dsimp only [DepsV, fat, eqF, valF]; rintro _ rfl; go_wp2; exact PostI.some _ rfl rfl ⟨Ext.refl _, rfl⟩
    with_reducible apply FromG.preEq
    · kernel_rfl
    · intro w' hx; have c2x := hx.cell c2; have c4x := hx.cell c4; (try dsimp only [List.nil_append, List.cons_append]); dsimp only [DepsV, fat, eqF, valF]; rintro _ rfl; go_wp2; exact PostI.some _ rfl rfl ⟨Ext.refl _, rfl⟩
    with_reducible apply FromG.preEq
    · kernel_rfl
    · intro w' hx; have c2x := hx.cell c2; have c4x := hx.cell c4; (try dsimp only [List.nil_append, List.cons_append]); dsimp only [DepsV, fat, eqF, valF]; go_wp2; exact PostI.some _ rfl rfl ⟨Ext.refl _, rfl⟩
    with_reducible apply FromG.preEq
    · kernel_rfl
    · intro w' hx; have c2x := hx.cell c2; have c4x := hx.cell c4; (try dsimp only [List.nil_append, List.cons_append]); dsimp only [DepsV, fat, eqF, valF]; rintro _ rfl; go_wp2; exact PostI.some _ rfl rfl ⟨Ext.refl _, rfl⟩
    with_reducible apply FromG.preEq
    · kernel_rfl
    · intro w' hx; have c2x := hx.cell c2; have c4x := hx.cell c4; (try dsimp only [List.nil_append, List.cons_append]); dsimp only [DepsV, fat, eqF, valF]; rintro _ rfl; go_wp2; exact PostI.some _ rfl rfl ⟨Ext.refl _, rfl⟩
    with_reducible apply FromG.preEq
    · kernel_rfl
    · intro w' hx; have c2x := hx.cell c2; have c4x := hx.cell c4; (try dsimp only [List.nil_append, List.cons_append]); dsimp only [DepsV, fat, eqF, valF]; rintro _ rfl; go_wp2; exact PostI.some _ rfl rfl ⟨Ext.refl _, rfl⟩
    refine FromG.wr (fun w v => OwnI w (ps + 1) v now ∧ (v.ownBlock = bv.ownBlock ∨ ∃ k, w3.heap.size ≤ k ∧ v.ownBlock = some k)) rfl (fun _ _ _ hx h => ⟨h.1.grow hx, h.2⟩) ?_ ?_
    · intro w' hx; have c2x := hx.cell c2; have c4x := hx.cell c4; (try dsimp only [List.nil_append, List.cons_append]); dsimp only [DepsV, fat, eqF, valF]; rintro _ rfl; rintro _ rfl; go_wp2_with (at_builtin; refine wpList_appJ rfl (.tmp 58) (.tmp 62) rfl (ps + 1) (.slice ba 0 bc) [] rfl (O30.out.grow hx) na now nc rfl (NR.out.ext hx) (by simp; omega) (Nat.le_trans hsz3 hx.size) ?_; intro v' w6 ho6 hx6 hk6 hs6 hw6); refine PostI.some _ rfl rfl ⟨?_, by simpa using ho6, ?_⟩
      · rw [HRR.out]; exact ⟨hx6 _ (X3.out.trans hx) (by omega), fun k hk hne => (hk6 k (Nat.lt_of_lt_of_le hk hx.size) (by rw [EBK.out]; exact hne)).trans (Below.block hx k hk), Nat.le_trans hx.size hs6⟩
      · rcases hw6 with e | e
        · left; rw [e, EBK.out]
        · right; exact ⟨_, hx.size, e⟩
    with_reducible refine FromG.fin ?_
    intro w' hx
    (try dsimp only [List.nil_append, List.cons_append]); dsimp only [EndV, eqF, valF]; rintro _ rfl _ rfl _ rfl _ rfl _ rfl _ rfl _ rfl _ rfl _ rfl _ rfl v10 h10; simp only [Act.put, List.setIfInBounds_toArray, List.set_cons_zero, List.set_cons_succ]
    rw [HRR.out] at hx
    have HX4 := Lib.hid hx
    have HB4 : Hid (SB w' ps #[.slice A n C, .int .u64 (t : Int), nv, .bool true, bv, .int .u64 (sum : Int)]) := Lib.hid ((hx.2.1 ps hsz3 O3.out.ne).trans B3.out)
    obtain ⟨a10, k10, hv10, _, _, _⟩ := h10.1.form
    have H10 := Lib.hid h10
    have HV10 := Lib.hid hv10
    rw [hv10]
    have f4 := SB.frozen HB4.out 4
    have c44 : w'.cell? ⟨ps, 4, none⟩ = some bv := SB.cell HB4.out 4
    clear hx h10 RR0 RR1 HRR hv10
    go_wp2_with fail
    (try simp only [Exit.inBlock, Exit.then]); refine bodyPost_ret (results_none rfl _ _ _) rfl ?_
    rw [← HV10.out]
    have hbt := But.set w' ps 4 v10
    refine ⟨rfl, nv, v10, SB.set_ HB4.out 4 v10, ?_, hbt.ownI H10.out.1 H10.out.1.ne, ?_, hbt.ext HX4.out.1 h0⟩
    · refine hbt.ownI (N3.out.keep fun k hk e => HX4.out.2.1 k hk ?_) N3.out.ne
      exact HD.out k e
    · intro k e
      rcases H10.out.2 with e2 | ⟨k2, hk2, e2⟩
      · rw [e2]; exact HD.out k e
      · rw [e2]; intro e3
        have := N3.out.ltB e
        injection e3 with e3; omega
end Go.Proofs.Ytndiaamoapidoaa
