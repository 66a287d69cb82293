/- Walk of MarksetTwice. -/
import Derived.Test.YteomgccpocgffaaMk6
import Derived.Test.YteomgccpocgffaaRegH
namespace Go.Proofs.Yteomgccpocgffaa
open Go.RowKit
theorem Rd.drop {w : World} {b off : Nat} {l : List Nat} (h : ∀ i, i < l.length → w.cell? ⟨b, off + i, none⟩ = some (.int .u64 ((l.getD i 0 : Nat) : Int))) (k : Nat) : Rd w (some ⟨b, off + k, none⟩) (l.drop k) := by
  right
  refine ⟨b, off + k, rfl, fun i hi => ?_⟩
  rw [List.length_drop] at hi
  rw [Nat.add_assoc, h (k + i) (by omega)]
  simp [List.getD]
theorem own38_n (l : List Nat) (n : Nat) (hn : l.length = n) (a : Option Addr) (c : Nat) (w : World) (ha : Rd w a l) (hl : l.length ≤ 1000000) :
    Calls Try.prog 17 #[.slice a n c] w (SlPost w l) := by subst hn; exact own38_c l a c w ha hl
/-- The fact of a region: a slice of one number. -/
def OneF3 (z : Nat) : Fact := fun w v => ∃ g, v = .slice (some ⟨g, 0, none⟩) 1 1 ∧ w.cell? ⟨g, 0, none⟩ = some (.int .u64 (z : Int))
theorem OneF3.mono {z : Nat} : Mono (OneF3 z) := fun _ _ _ hx ⟨g, hv, hc⟩ => ⟨g, hv, hx.cell hc⟩

theorem addOk_bad {M l : List Nat} {k mark : Nat} (h : mark ∈ M ∨ mark ∈ l) : addOk M (l.take k ++ [mark] ++ l.drop k) = false := by
  cases e : addOk M (l.take k ++ [mark] ++ l.drop k)
  · rfl
  · obtain ⟨h1, h2⟩ := addOk_spec e
    rcases h with h | h
    · exact absurd h (h2 mark (by simp))
    · exfalso
      rw [← List.take_append_drop k l, List.mem_append] at h
      rw [List.append_assoc, List.nodup_append] at h1
      rcases h with h | h
      · exact h1.2.2 mark h mark (by simp) rfl
      · exact (List.nodup_cons.1 h1.2.1).1 h

set_option maxRecDepth 100000 in
set_option maxHeartbeats 8000000 in
theorem MarksetTwice_w (os : OpL) (a : Option Addr) (c : Nat) (l : List Nat) (ax : Option Addr) (cx : Nat) (n0 n1 : Nat) (w : World) (ha : RdO w a os) (hl : os.length ≤ 9223372036854775807) (hax : Rd w ax l) (hxl : l.length ≤ 9223372036854775807) (hxb : ∀ x ∈ l, x < 18446744073709551616) (hn0 : n0 < 256) (hn1 : n1 < 256) (hcap : l.length ≤ cx) :
    Calls Try.prog 7 #[.slice a os.length c, .slice ax l.length cx, .agg #[.int .u8 (n0 : Int), .int .u8 (n1 : Int)]] w fun e w' => e = .returned (.bool true) ∧ Ext w w' := by
  have h0 : (w.alloc (.cells #[.int .u8 (n0 : Int), .int .u8 (n1 : Int)] 43)).cell? ⟨w.heap.size, 0, none⟩ = some (.int .u8 (n0 : Int)) := by simp
  have h1 : (w.alloc (.cells #[.int .u8 (n0 : Int), .int .u8 (n1 : Int)] 43)).cell? ⟨w.heap.size, 1, none⟩ = some (.int .u8 (n1 : Int)) := by simp
  have FC := fun w' (h : RdO w' a os) => few_c os a c w' h hl
  have HA := Lib.hid ha
  have HAX := Lib.hid hax
  have HXB := Lib.hid hxb
  cases hf : fewB os
  case false =>
    rw [hf] at FC
    have HFC := Lib.hid FC
    clear FC ha hf hax hxb
    go_enter Try.func7, Try.ntmps7
    go_wp2_with fail
    refine (awake38_c _).mono ?_; rintro e w1 ⟨rfl, x1⟩
    replace h0 := x1.cell h0
    replace h1 := x1.cell h1
    have X1 := Lib.hid x1.box
    clear x1
    go_wp2_with fail
    refine (HFC.out _ (HA.out.ext X1.out)).mono ?_; rintro e w2 ⟨rfl, x2⟩
    replace h0 := x2.cell h0
    replace h1 := x2.cell h1
    have X2 := Lib.hid (X1.out.trans x2)
    clear x2
    go_wp2_with fail
    go_ret
    exact ⟨rfl, X2.out⟩
  rw [hf] at FC
  have HFC := Lib.hid FC
  have RC := Lib.hid (fun w' (h : RdO w' a os) => run_c os a c w' h hf)
  have hml := runM_len hf os.length (Nat.le_refl _)
  have HASC := Lib.hid (runM_asc os os.length)
  have hl30 : os.length ≤ 30 := by unfold fewB at hf; rw [Bool.and_eq_true] at hf; exact of_decide_eq_true hf.2
  obtain ⟨M, hM⟩ : ∃ M, M = runM os os.length := ⟨_, rfl⟩
  rw [← hM] at RC hml HASC
  have hml2 : M.length ≤ 600 := by omega
  clear FC ha hf hM hml hax hxb
  by_cases h20 : l.length ≤ 20
  case neg =>
    have t1 : decide ((20 : Int) < (l.length : Int)) = true := decide_eq_true (by omega)
    go_enter Try.func7, Try.ntmps7
    go_wp2_with fail
    refine (awake38_c _).mono ?_; rintro e w1 ⟨rfl, x1⟩
    replace h0 := x1.cell h0
    replace h1 := x1.cell h1
    have X1 := Lib.hid x1.box
    clear x1
    go_wp2_with fail
    refine (HFC.out _ (HA.out.ext X1.out)).mono ?_; rintro e w2 ⟨rfl, x2⟩
    replace h0 := x2.cell h0
    replace h1 := x2.cell h1
    have X2 := Lib.hid (X1.out.trans x2)
    clear x2
    go_wp2_with fail
    go_ret
    exact ⟨rfl, X2.out⟩
  have t1 : decide ((20 : Int) < (l.length : Int)) = false := decide_eq_false (by omega)
  by_cases hz : l.length = 0
  case pos =>
    have t2 : ((l.length : Int) == 0) = true := beq_iff_eq.2 (by omega)
    clear hz
    go_enter Try.func7, Try.ntmps7
    go_wp2_with fail
    refine (awake38_c _).mono ?_; rintro e w1 ⟨rfl, x1⟩
    replace h0 := x1.cell h0
    replace h1 := x1.cell h1
    have X1 := Lib.hid x1.box
    clear x1
    go_wp2_with fail
    refine (HFC.out _ (HA.out.ext X1.out)).mono ?_; rintro e w2 ⟨rfl, x2⟩
    replace h0 := x2.cell h0
    replace h1 := x2.cell h1
    have X2 := Lib.hid (X1.out.trans x2)
    clear x2
    go_wp2_with fail
    go_ret
    exact ⟨rfl, X2.out⟩
  have t2 : ((l.length : Int) == 0) = false := beq_eq_false_iff_ne.2 (by omega)
  obtain ⟨gx, ox, rfl, hcx⟩ := HAX.out.at (by omega)
  have HCX := Lib.hid hcx
  clear hcx
  obtain ⟨i, hi⟩ : ∃ i, i = n0 % l.length := ⟨_, rfl⟩
  have hil : i < l.length := by rw [hi]; exact Nat.mod_lt _ (by omega)
  have e1 : Int.tmod (n0 : Int) (l.length : Int) = (i : Int) := by rw [hi, Int.tmod_eq_emod_of_nonneg (by omega)]; omega
  obtain ⟨k, hk⟩ : ∃ k, k = n1 % (l.length + 1) := ⟨_, rfl⟩
  have hkl : k ≤ l.length := by have := Nat.mod_lt n1 (show 0 < l.length + 1 by omega); omega
  have e2 : Int.tmod (n1 : Int) ((l.length : Int) + 1) = (k : Int) := by rw [hk, Int.tmod_eq_emod_of_nonneg (by omega)]; simp
  obtain ⟨x, hx0⟩ : ∃ x, x = l.getD i 0 := ⟨_, rfl⟩
  have hxm : x ∈ l := by rw [hx0]; exact getD_mem hil
  have HXM := Lib.hid hxm
  have cxi : Hid (∀ w', Ext w w' → w'.cell? ⟨gx, ox + i, none⟩ = some (.int .u64 (x : Int))) := Lib.hid (fun w' h => by rw [hx0]; exact h.cell (HCX.out i hil))
  have SC := Lib.hid (fun w' a' c' ps b (h1 : St w' ps b M) (h2 : Rd w' a' M) => same_c M a' c' ps b w' h1 HASC.out h2 (by omega))
  have hp1 : 0 < l.length := by omega
  have hp2 : 0 < l.length + 1 := by omega
  clear hi hk hx0 hxm hz
  by_cases hM0 : 0 < M.length
  case neg =>
    have t3 : decide ((0 : Int) < (M.length : Int)) = false := decide_eq_false (by omega)
    go_enter Try.func7, Try.ntmps7
    go_wp2_with fail
    refine (awake38_c _).mono ?_; rintro e w1 ⟨rfl, x1⟩
    replace h0 := x1.cell h0
    replace h1 := x1.cell h1
    have X1 := Lib.hid x1.box
    clear x1
    go_wp2_with fail
    refine (HFC.out _ (HA.out.ext X1.out)).mono ?_; rintro e w2 ⟨rfl, x2⟩
    replace h0 := x2.cell h0
    replace h1 := x2.cell h1
    have X2 := Lib.hid (X1.out.trans x2)
    clear x2
    go_wp2_with fail
    refine (RC.out _ (HA.out.ext X2.out)).mono ?_; rintro e w3 ⟨ps, b, am, cm, rfl, s3, r3, hb0, x3⟩
    have S3 := Lib.hid s3
    have R3 := Lib.hid r3
    have X3 := Lib.hid (X2.out.trans x3)
    have hb : w.heap.size ≤ b := Nat.le_trans X2.out.size hb0
    replace h0 := x3.cell h0
    replace h1 := x3.cell h1
    have cx3 := cxi.out _ X3.out
    clear s3 r3 x3 hb0
    obtain ⟨q, hq0⟩ : ∃ q, q = x := ⟨_, rfl⟩
    have HQ : Hid (q ∈ M ∨ q ∈ l) := Lib.hid (.inr (by rw [hq0]; exact HXM.out))
    have HQB := Lib.hid (HXB.out q (by rw [hq0]; exact HXM.out))
    rw [← hq0] at cx3
    clear hq0
    go_wp2_with fail
    have AC := fun w' v (h1 : St w' ps b M) a' c' (hv : v = .slice a' (l.take k ++ [q] ++ l.drop k).length c') (h2 : Rd w' a' (l.take k ++ [q] ++ l.drop k)) => (show Calls Try.prog 16 #[.pointer (some ⟨ps, 0, none⟩), v] w' (AdPost w' ps b M 12) from by
      subst hv
      have := Add_c M (l.take k ++ [q] ++ l.drop k) a' c' ps b w' h1 h2 (by simp; omega) (by omega) (fun y hy => by
        rw [List.append_assoc, List.mem_append, List.mem_append, List.mem_singleton] at hy
        rcases hy with hy | rfl | hy
        · exact HXB.out y (List.mem_of_mem_take hy)
        · exact HQB.out
        · exact HXB.out y (List.mem_of_mem_drop hy))
      rw [show aRes M (l.take k ++ [q] ++ l.drop k) = M from by unfold aRes; rw [addOk_bad HQ.out]; rfl, show aErr M (l.take k ++ [q] ++ l.drop k) = 12 from by unfold aErr; rw [addOk_bad HQ.out]; rfl] at this
      exact this)
    have HAC := Lib.hid AC
    have OC := Lib.hid (fun w' (h : Ext w w') => own38_n (l.take k) k (by simp; omega) (some ⟨gx, ox, none⟩) cx w' (Rd.take (.inr ⟨gx, ox, rfl, fun i hi => h.cell (HCX.out i hi)⟩) k) (by simp; omega))
    clear AC
    refine region_factsH 6 [[], [], [(0, 69), (1, 70)], [(2, 71)], [], [(4, 73)], [(3, 72), (5, 74)], [], [], [(7, 76), (8, 77)]] [some 69, some 70, some 71, some 72, some 73, some 74, some 75, some 76, some 77, some 78] (by kernel_rfl) (by kernel_rfl) (by decide) ?_
    with_reducible apply FromH.preEq
    · kernel_rfl
    · intro w' hx; (try dsimp only [List.nil_append, List.cons_append]); dsimp only [DepsV, fat, eqF, valF]; go_wp2; exact PostI.some _ rfl rfl ⟨Ext.refl _, rfl⟩
    with_reducible apply FromH.preEq
    · kernel_rfl
    · intro w' hx; (try dsimp only [List.nil_append, List.cons_append]); dsimp only [DepsV, fat, eqF, valF]; go_wp2; exact PostI.some _ rfl rfl ⟨Ext.refl _, rfl⟩
    with_reducible apply FromH.preEq
    · kernel_rfl
    · intro w' hx; (try dsimp only [List.nil_append, List.cons_append]); dsimp only [DepsV, fat, eqF, valF]; rintro _ rfl; rintro _ rfl; go_wp2; exact PostI.some _ rfl rfl ⟨Ext.refl _, rfl⟩
    refine FromH.pre (OwnF w3.heap.size (l.take k)) (fun _ => True) (by kernel_rfl) OwnF.mono (fun _ _ _ => trivial) ?_ ?_
    · intro w' hx; (try dsimp only [List.nil_append, List.cons_append]); dsimp only [DepsV, fat, eqF, valF]; rintro _ rfl; go_wp2_with (go_at_call 17; refine (OC.out _ (X3.out.trans hx)).mono ?_; rintro e w5 ⟨v, rfl, ho, hn'⟩); exact PostI.some _ rfl rfl ⟨hn', ho.base hx.size⟩
    with_reducible apply FromH.preEq
    · kernel_rfl
    · intro w' hx; (try dsimp only [List.nil_append, List.cons_append]); dsimp only [DepsV, fat, eqF, valF]; go_wp2; exact PostI.some _ rfl rfl ⟨Ext.refl _, rfl⟩
    refine FromH.pre (OneF3 q) (fun _ => True) (by kernel_rfl) OneF3.mono (fun _ _ _ => trivial) ?_ ?_
    · intro w' hx; (try dsimp only [List.nil_append, List.cons_append]); dsimp only [DepsV, fat, eqF, valF]; rintro _ rfl; go_wp2; exact PostI.some _ rfl rfl ⟨(Ext.refl _).alloc _, _, rfl, by simp⟩
    refine FromH.wr (OwnF w3.heap.size (l.take k ++ [q])) rfl OwnF.mono ?_ ?_
    · intro w' hx; (try dsimp only [List.nil_append, List.cons_append]); dsimp only [DepsV, fat, eqF, valF]; rintro v3 h3; rintro v5 h5; obtain ⟨g5, rfl, hg5⟩ := h5; go_wp2_with (at_builtin; refine wpList_app1 rfl (.tmp 72) (.tmp 74) rfl w3.heap.size _ _ rfl h3 g5 q 1 rfl hg5 (by simp; omega) hx.size ?_; intro v' w6 hown6 hx6 _); exact PostI.some _ rfl rfl ⟨hx6 _ hx (Nat.le_refl _), hown6⟩
    with_reducible apply FromH.beq
    · decide
    · kernel_rfl
    · intro w' hx; (try dsimp only [List.nil_append, List.cons_append]); dsimp only [DepsV, fat, eqF, valF]; go_wp2; exact PostI.some _ rfl rfl ⟨Ext.refl _, rfl⟩
    with_reducible apply FromH.beq
    · decide
    · kernel_rfl
    · intro w' hx; (try dsimp only [List.nil_append, List.cons_append]); dsimp only [DepsV, fat, eqF, valF]; go_wp2; exact PostI.some _ rfl rfl ⟨Ext.refl _, rfl⟩
    refine FromH.be (fun v => ∃ A, v = .slice A (l.drop k).length (cx - k) ∧ (A = some ⟨gx, ox + k, none⟩ ∨ l.drop k = [])) (by decide) (by kernel_rfl) ?_ ?_
    · intro w' hx; (try dsimp only [List.nil_append, List.cons_append]); dsimp only [DepsV, fat, eqF, valF]; rintro _ rfl; rintro _ rfl; rcases Nat.lt_or_ge k cx with hck | hck
      · have hne : ¬ cx = k := by omega
        go_wp2; exact PostI.some _ rfl rfl ⟨Ext.refl _, _, by rw [List.length_drop], .inl rfl⟩
      · have hck2 : cx = k := by omega
        go_wp2; exact PostI.some _ rfl rfl ⟨Ext.refl _, _, by rw [List.length_drop]; first | rfl | (congr 1 <;> omega), .inr (List.drop_eq_nil_of_le (by omega))⟩
    with_reducible refine FromH.fin ?_
    intro w' hx
    (try dsimp only [List.nil_append, List.cons_append]); dsimp only [EndV, eqF, valF]; rintro _ rfl _ rfl _ rfl v3 _ _ rfl v5 _ v6 h6 _ rfl _ rfl v9 h9; simp only [Act.put, List.setIfInBounds_toArray, List.set_cons_zero, List.set_cons_succ]
    obtain ⟨A9, rfl, hA9⟩ := h9
    have RDD : Hid (Rd w' A9 (l.drop k)) := Lib.hid (by
      rcases hA9 with rfl | hA9
      · exact Rd.drop (fun i hi => (X3.out.trans hx).cell (HCX.out i hi)) k
      · rw [hA9]; exact Rd.nil _ _)
    have hsz := hx.size
    have H6 := Lib.hid h6
    have HX := Lib.hid hx
    clear hx h6 hA9
    go_wp2_with (at_builtin; refine wpList_app rfl (.tmp 75) (.tmp 78) rfl w3.heap.size _ _ rfl H6.out A9 (l.drop k) (cx - k) rfl RDD.out (by simp; omega) hsz ?_; intro v7 w7 hown7 hx7 _)
    have X7 := Lib.hid (hx7 _ HX.out (Nat.le_refl _))
    obtain ⟨a7, c7, hv7, _, _, r7⟩ := hown7.form
    have S7 := Lib.hid (S3.out.ext X7.out)
    have R7 := Lib.hid (R3.out.ext X7.out)
    have R7l := Lib.hid r7
    have HV7 := Lib.hid hv7
    clear hx7 hown7 hv7 r7 RDD H6
    go_wp2_with fail
    refine (HAC.out _ _ S7.out _ _ HV7.out R7l.out).mono ?_; rintro e w8 ⟨rfl, s8, b8⟩
    have S8 := Lib.hid s8
    have R8 := Lib.hid (S7.out.map.rd b8 R7.out)
    have X8 := Lib.hid (b8.ext (X3.out.trans X7.out) hb)
    clear s8 b8
    go_wp2_with fail
    refine (SC.out _ _ _ _ _ S8.out R8.out).mono ?_; rintro e w9 ⟨rfl, x9⟩
    go_wp2_with fail
    go_ret
    exact ⟨rfl, X8.out.trans x9⟩
  have t3 : decide ((0 : Int) < (M.length : Int)) = true := decide_eq_true (by omega)
  by_cases h128 : 128 ≤ n0
  case neg =>
    have t4 : decide ((128 : Int) ≤ (n0 : Int)) = false := decide_eq_false (by omega)
    go_enter Try.func7, Try.ntmps7
    go_wp2_with fail
    refine (awake38_c _).mono ?_; rintro e w1 ⟨rfl, x1⟩
    replace h0 := x1.cell h0
    replace h1 := x1.cell h1
    have X1 := Lib.hid x1.box
    clear x1
    go_wp2_with fail
    refine (HFC.out _ (HA.out.ext X1.out)).mono ?_; rintro e w2 ⟨rfl, x2⟩
    replace h0 := x2.cell h0
    replace h1 := x2.cell h1
    have X2 := Lib.hid (X1.out.trans x2)
    clear x2
    go_wp2_with fail
    refine (RC.out _ (HA.out.ext X2.out)).mono ?_; rintro e w3 ⟨ps, b, am, cm, rfl, s3, r3, hb0, x3⟩
    have S3 := Lib.hid s3
    have R3 := Lib.hid r3
    have X3 := Lib.hid (X2.out.trans x3)
    have hb : w.heap.size ≤ b := Nat.le_trans X2.out.size hb0
    replace h0 := x3.cell h0
    replace h1 := x3.cell h1
    have cx3 := cxi.out _ X3.out
    clear s3 r3 x3 hb0
    obtain ⟨q, hq0⟩ : ∃ q, q = x := ⟨_, rfl⟩
    have HQ : Hid (q ∈ M ∨ q ∈ l) := Lib.hid (.inr (by rw [hq0]; exact HXM.out))
    have HQB := Lib.hid (HXB.out q (by rw [hq0]; exact HXM.out))
    rw [← hq0] at cx3
    clear hq0
    go_wp2_with fail
    have AC := fun w' v (h1 : St w' ps b M) a' c' (hv : v = .slice a' (l.take k ++ [q] ++ l.drop k).length c') (h2 : Rd w' a' (l.take k ++ [q] ++ l.drop k)) => (show Calls Try.prog 16 #[.pointer (some ⟨ps, 0, none⟩), v] w' (AdPost w' ps b M 12) from by
      subst hv
      have := Add_c M (l.take k ++ [q] ++ l.drop k) a' c' ps b w' h1 h2 (by simp; omega) (by omega) (fun y hy => by
        rw [List.append_assoc, List.mem_append, List.mem_append, List.mem_singleton] at hy
        rcases hy with hy | rfl | hy
        · exact HXB.out y (List.mem_of_mem_take hy)
        · exact HQB.out
        · exact HXB.out y (List.mem_of_mem_drop hy))
      rw [show aRes M (l.take k ++ [q] ++ l.drop k) = M from by unfold aRes; rw [addOk_bad HQ.out]; rfl, show aErr M (l.take k ++ [q] ++ l.drop k) = 12 from by unfold aErr; rw [addOk_bad HQ.out]; rfl] at this
      exact this)
    have HAC := Lib.hid AC
    have OC := Lib.hid (fun w' (h : Ext w w') => own38_n (l.take k) k (by simp; omega) (some ⟨gx, ox, none⟩) cx w' (Rd.take (.inr ⟨gx, ox, rfl, fun i hi => h.cell (HCX.out i hi)⟩) k) (by simp; omega))
    clear AC
    refine region_factsH 6 [[], [], [(0, 69), (1, 70)], [(2, 71)], [], [(4, 73)], [(3, 72), (5, 74)], [], [], [(7, 76), (8, 77)]] [some 69, some 70, some 71, some 72, some 73, some 74, some 75, some 76, some 77, some 78] (by kernel_rfl) (by kernel_rfl) (by decide) ?_
    with_reducible apply FromH.preEq
    · kernel_rfl
    · intro w' hx; (try dsimp only [List.nil_append, List.cons_append]); dsimp only [DepsV, fat, eqF, valF]; go_wp2; exact PostI.some _ rfl rfl ⟨Ext.refl _, rfl⟩
    with_reducible apply FromH.preEq
    · kernel_rfl
    · intro w' hx; (try dsimp only [List.nil_append, List.cons_append]); dsimp only [DepsV, fat, eqF, valF]; go_wp2; exact PostI.some _ rfl rfl ⟨Ext.refl _, rfl⟩
    with_reducible apply FromH.preEq
    · kernel_rfl
    · intro w' hx; (try dsimp only [List.nil_append, List.cons_append]); dsimp only [DepsV, fat, eqF, valF]; rintro _ rfl; rintro _ rfl; go_wp2; exact PostI.some _ rfl rfl ⟨Ext.refl _, rfl⟩
    refine FromH.pre (OwnF w3.heap.size (l.take k)) (fun _ => True) (by kernel_rfl) OwnF.mono (fun _ _ _ => trivial) ?_ ?_
    · intro w' hx; (try dsimp only [List.nil_append, List.cons_append]); dsimp only [DepsV, fat, eqF, valF]; rintro _ rfl; go_wp2_with (go_at_call 17; refine (OC.out _ (X3.out.trans hx)).mono ?_; rintro e w5 ⟨v, rfl, ho, hn'⟩); exact PostI.some _ rfl rfl ⟨hn', ho.base hx.size⟩
    with_reducible apply FromH.preEq
    · kernel_rfl
    · intro w' hx; (try dsimp only [List.nil_append, List.cons_append]); dsimp only [DepsV, fat, eqF, valF]; go_wp2; exact PostI.some _ rfl rfl ⟨Ext.refl _, rfl⟩
    refine FromH.pre (OneF3 q) (fun _ => True) (by kernel_rfl) OneF3.mono (fun _ _ _ => trivial) ?_ ?_
    · intro w' hx; (try dsimp only [List.nil_append, List.cons_append]); dsimp only [DepsV, fat, eqF, valF]; rintro _ rfl; go_wp2; exact PostI.some _ rfl rfl ⟨(Ext.refl _).alloc _, _, rfl, by simp⟩
    refine FromH.wr (OwnF w3.heap.size (l.take k ++ [q])) rfl OwnF.mono ?_ ?_
    · intro w' hx; (try dsimp only [List.nil_append, List.cons_append]); dsimp only [DepsV, fat, eqF, valF]; rintro v3 h3; rintro v5 h5; obtain ⟨g5, rfl, hg5⟩ := h5; go_wp2_with (at_builtin; refine wpList_app1 rfl (.tmp 72) (.tmp 74) rfl w3.heap.size _ _ rfl h3 g5 q 1 rfl hg5 (by simp; omega) hx.size ?_; intro v' w6 hown6 hx6 _); exact PostI.some _ rfl rfl ⟨hx6 _ hx (Nat.le_refl _), hown6⟩
    with_reducible apply FromH.beq
    · decide
    · kernel_rfl
    · intro w' hx; (try dsimp only [List.nil_append, List.cons_append]); dsimp only [DepsV, fat, eqF, valF]; go_wp2; exact PostI.some _ rfl rfl ⟨Ext.refl _, rfl⟩
    with_reducible apply FromH.beq
    · decide
    · kernel_rfl
    · intro w' hx; (try dsimp only [List.nil_append, List.cons_append]); dsimp only [DepsV, fat, eqF, valF]; go_wp2; exact PostI.some _ rfl rfl ⟨Ext.refl _, rfl⟩
    refine FromH.be (fun v => ∃ A, v = .slice A (l.drop k).length (cx - k) ∧ (A = some ⟨gx, ox + k, none⟩ ∨ l.drop k = [])) (by decide) (by kernel_rfl) ?_ ?_
    · intro w' hx; (try dsimp only [List.nil_append, List.cons_append]); dsimp only [DepsV, fat, eqF, valF]; rintro _ rfl; rintro _ rfl; rcases Nat.lt_or_ge k cx with hck | hck
      · have hne : ¬ cx = k := by omega
        go_wp2; exact PostI.some _ rfl rfl ⟨Ext.refl _, _, by rw [List.length_drop], .inl rfl⟩
      · have hck2 : cx = k := by omega
        go_wp2; exact PostI.some _ rfl rfl ⟨Ext.refl _, _, by rw [List.length_drop]; first | rfl | (congr 1 <;> omega), .inr (List.drop_eq_nil_of_le (by omega))⟩
    with_reducible refine FromH.fin ?_
    intro w' hx
    (try dsimp only [List.nil_append, List.cons_append]); dsimp only [EndV, eqF, valF]; rintro _ rfl _ rfl _ rfl v3 _ _ rfl v5 _ v6 h6 _ rfl _ rfl v9 h9; simp only [Act.put, List.setIfInBounds_toArray, List.set_cons_zero, List.set_cons_succ]
    obtain ⟨A9, rfl, hA9⟩ := h9
    have RDD : Hid (Rd w' A9 (l.drop k)) := Lib.hid (by
      rcases hA9 with rfl | hA9
      · exact Rd.drop (fun i hi => (X3.out.trans hx).cell (HCX.out i hi)) k
      · rw [hA9]; exact Rd.nil _ _)
    have hsz := hx.size
    have H6 := Lib.hid h6
    have HX := Lib.hid hx
    clear hx h6 hA9
    go_wp2_with (at_builtin; refine wpList_app rfl (.tmp 75) (.tmp 78) rfl w3.heap.size _ _ rfl H6.out A9 (l.drop k) (cx - k) rfl RDD.out (by simp; omega) hsz ?_; intro v7 w7 hown7 hx7 _)
    have X7 := Lib.hid (hx7 _ HX.out (Nat.le_refl _))
    obtain ⟨a7, c7, hv7, _, _, r7⟩ := hown7.form
    have S7 := Lib.hid (S3.out.ext X7.out)
    have R7 := Lib.hid (R3.out.ext X7.out)
    have R7l := Lib.hid r7
    have HV7 := Lib.hid hv7
    clear hx7 hown7 hv7 r7 RDD H6
    go_wp2_with fail
    refine (HAC.out _ _ S7.out _ _ HV7.out R7l.out).mono ?_; rintro e w8 ⟨rfl, s8, b8⟩
    have S8 := Lib.hid s8
    have R8 := Lib.hid (S7.out.map.rd b8 R7.out)
    have X8 := Lib.hid (b8.ext (X3.out.trans X7.out) hb)
    clear s8 b8
    go_wp2_with fail
    refine (SC.out _ _ _ _ _ S8.out R8.out).mono ?_; rintro e w9 ⟨rfl, x9⟩
    go_wp2_with fail
    go_ret
    exact ⟨rfl, X8.out.trans x9⟩
  have t4 : decide ((128 : Int) ≤ (n0 : Int)) = true := decide_eq_true (by omega)
  obtain ⟨j, hj⟩ : ∃ j, j = n0 % M.length := ⟨_, rfl⟩
  have hjM : j < M.length := by rw [hj]; exact Nat.mod_lt _ hM0
  have e3 : Int.tmod (n0 : Int) (M.length : Int) = (j : Int) := by rw [hj, Int.tmod_eq_emod_of_nonneg (by omega)]; omega
  clear hj
  go_enter Try.func7, Try.ntmps7
  go_wp2_with fail
  refine (awake38_c _).mono ?_; rintro e w1 ⟨rfl, x1⟩
  replace h0 := x1.cell h0
  replace h1 := x1.cell h1
  have X1 := Lib.hid x1.box
  clear x1
  go_wp2_with fail
  refine (HFC.out _ (HA.out.ext X1.out)).mono ?_; rintro e w2 ⟨rfl, x2⟩
  replace h0 := x2.cell h0
  replace h1 := x2.cell h1
  have X2 := Lib.hid (X1.out.trans x2)
  clear x2
  go_wp2_with fail
  refine (RC.out _ (HA.out.ext X2.out)).mono ?_; rintro e w3 ⟨ps, b, am, cm, rfl, s3, r3, hb0, x3⟩
  have S3 := Lib.hid s3
  have R3 := Lib.hid r3
  have X3 := Lib.hid (X2.out.trans x3)
  have hb : w.heap.size ≤ b := Nat.le_trans X2.out.size hb0
  replace h0 := x3.cell h0
  replace h1 := x3.cell h1
  have cx3 := cxi.out _ X3.out
  clear s3 r3 x3 hb0
  obtain ⟨gm, om, rfl, hcm⟩ := R3.out.at hM0
  have cm := hcm j hjM
  obtain ⟨q, hq0⟩ : ∃ q, q = M.getD j 0 := ⟨_, rfl⟩
  have hqm : q ∈ M := by rw [hq0]; exact getD_mem hjM
  have HQ : Hid (q ∈ M ∨ q ∈ l) := Lib.hid (.inl hqm)
  have HQB := Lib.hid (S3.out.map.bd q hqm)
  rw [← hq0] at cm
  clear hcm hq0 hqm
  go_wp2_with fail
  have AC := fun w' v (h1 : St w' ps b M) a' c' (hv : v = .slice a' (l.take k ++ [q] ++ l.drop k).length c') (h2 : Rd w' a' (l.take k ++ [q] ++ l.drop k)) => (show Calls Try.prog 16 #[.pointer (some ⟨ps, 0, none⟩), v] w' (AdPost w' ps b M 12) from by
    subst hv
    have := Add_c M (l.take k ++ [q] ++ l.drop k) a' c' ps b w' h1 h2 (by simp; omega) (by omega) (fun y hy => by
      rw [List.append_assoc, List.mem_append, List.mem_append, List.mem_singleton] at hy
      rcases hy with hy | rfl | hy
      · exact HXB.out y (List.mem_of_mem_take hy)
      · exact HQB.out
      · exact HXB.out y (List.mem_of_mem_drop hy))
    rw [show aRes M (l.take k ++ [q] ++ l.drop k) = M from by unfold aRes; rw [addOk_bad HQ.out]; rfl, show aErr M (l.take k ++ [q] ++ l.drop k) = 12 from by unfold aErr; rw [addOk_bad HQ.out]; rfl] at this
    exact this)
  have HAC := Lib.hid AC
  have OC := Lib.hid (fun w' (h : Ext w w') => own38_n (l.take k) k (by simp; omega) (some ⟨gx, ox, none⟩) cx w' (Rd.take (.inr ⟨gx, ox, rfl, fun i hi => h.cell (HCX.out i hi)⟩) k) (by simp; omega))
  clear AC
  refine region_factsH 6 [[], [], [(0, 69), (1, 70)], [(2, 71)], [], [(4, 73)], [(3, 72), (5, 74)], [], [], [(7, 76), (8, 77)]] [some 69, some 70, some 71, some 72, some 73, some 74, some 75, some 76, some 77, some 78] (by kernel_rfl) (by kernel_rfl) (by decide) ?_
  with_reducible apply FromH.preEq
  · kernel_rfl
  · intro w' hx; (try dsimp only [List.nil_append, List.cons_append]); dsimp only [DepsV, fat, eqF, valF]; go_wp2; exact PostI.some _ rfl rfl ⟨Ext.refl _, rfl⟩
  with_reducible apply FromH.preEq
  · kernel_rfl
  · intro w' hx; (try dsimp only [List.nil_append, List.cons_append]); dsimp only [DepsV, fat, eqF, valF]; go_wp2; exact PostI.some _ rfl rfl ⟨Ext.refl _, rfl⟩
  with_reducible apply FromH.preEq
  · kernel_rfl
  · intro w' hx; (try dsimp only [List.nil_append, List.cons_append]); dsimp only [DepsV, fat, eqF, valF]; rintro _ rfl; rintro _ rfl; go_wp2; exact PostI.some _ rfl rfl ⟨Ext.refl _, rfl⟩
  refine FromH.pre (OwnF w3.heap.size (l.take k)) (fun _ => True) (by kernel_rfl) OwnF.mono (fun _ _ _ => trivial) ?_ ?_
  · intro w' hx; (try dsimp only [List.nil_append, List.cons_append]); dsimp only [DepsV, fat, eqF, valF]; rintro _ rfl; go_wp2_with (go_at_call 17; refine (OC.out _ (X3.out.trans hx)).mono ?_; rintro e w5 ⟨v, rfl, ho, hn'⟩); exact PostI.some _ rfl rfl ⟨hn', ho.base hx.size⟩
  with_reducible apply FromH.preEq
  · kernel_rfl
  · intro w' hx; (try dsimp only [List.nil_append, List.cons_append]); dsimp only [DepsV, fat, eqF, valF]; go_wp2; exact PostI.some _ rfl rfl ⟨Ext.refl _, rfl⟩
  refine FromH.pre (OneF3 q) (fun _ => True) (by kernel_rfl) OneF3.mono (fun _ _ _ => trivial) ?_ ?_
  · intro w' hx; (try dsimp only [List.nil_append, List.cons_append]); dsimp only [DepsV, fat, eqF, valF]; rintro _ rfl; go_wp2; exact PostI.some _ rfl rfl ⟨(Ext.refl _).alloc _, _, rfl, by simp⟩
  refine FromH.wr (OwnF w3.heap.size (l.take k ++ [q])) rfl OwnF.mono ?_ ?_
  · intro w' hx; (try dsimp only [List.nil_append, List.cons_append]); dsimp only [DepsV, fat, eqF, valF]; rintro v3 h3; rintro v5 h5; obtain ⟨g5, rfl, hg5⟩ := h5; go_wp2_with (at_builtin; refine wpList_app1 rfl (.tmp 72) (.tmp 74) rfl w3.heap.size _ _ rfl h3 g5 q 1 rfl hg5 (by simp; omega) hx.size ?_; intro v' w6 hown6 hx6 _); exact PostI.some _ rfl rfl ⟨hx6 _ hx (Nat.le_refl _), hown6⟩
  with_reducible apply FromH.beq
  · decide
  · kernel_rfl
  · intro w' hx; (try dsimp only [List.nil_append, List.cons_append]); dsimp only [DepsV, fat, eqF, valF]; go_wp2; exact PostI.some _ rfl rfl ⟨Ext.refl _, rfl⟩
  with_reducible apply FromH.beq
  · decide
  · kernel_rfl
  · intro w' hx; (try dsimp only [List.nil_append, List.cons_append]); dsimp only [DepsV, fat, eqF, valF]; go_wp2; exact PostI.some _ rfl rfl ⟨Ext.refl _, rfl⟩
  refine FromH.be (fun v => ∃ A, v = .slice A (l.drop k).length (cx - k) ∧ (A = some ⟨gx, ox + k, none⟩ ∨ l.drop k = [])) (by decide) (by kernel_rfl) ?_ ?_
  · intro w' hx; (try dsimp only [List.nil_append, List.cons_append]); dsimp only [DepsV, fat, eqF, valF]; rintro _ rfl; rintro _ rfl; rcases Nat.lt_or_ge k cx with hck | hck
    · have hne : ¬ cx = k := by omega
      go_wp2; exact PostI.some _ rfl rfl ⟨Ext.refl _, _, by rw [List.length_drop], .inl rfl⟩
    · have hck2 : cx = k := by omega
      go_wp2; exact PostI.some _ rfl rfl ⟨Ext.refl _, _, by rw [List.length_drop]; first | rfl | (congr 1 <;> omega), .inr (List.drop_eq_nil_of_le (by omega))⟩
  with_reducible refine FromH.fin ?_
  intro w' hx
  (try dsimp only [List.nil_append, List.cons_append]); dsimp only [EndV, eqF, valF]; rintro _ rfl _ rfl _ rfl v3 _ _ rfl v5 _ v6 h6 _ rfl _ rfl v9 h9; simp only [Act.put, List.setIfInBounds_toArray, List.set_cons_zero, List.set_cons_succ]
  obtain ⟨A9, rfl, hA9⟩ := h9
  have RDD : Hid (Rd w' A9 (l.drop k)) := Lib.hid (by
    rcases hA9 with rfl | hA9
    · exact Rd.drop (fun i hi => (X3.out.trans hx).cell (HCX.out i hi)) k
    · rw [hA9]; exact Rd.nil _ _)
  have hsz := hx.size
  have H6 := Lib.hid h6
  have HX := Lib.hid hx
  clear hx h6 hA9
  go_wp2_with (at_builtin; refine wpList_app rfl (.tmp 75) (.tmp 78) rfl w3.heap.size _ _ rfl H6.out A9 (l.drop k) (cx - k) rfl RDD.out (by simp; omega) hsz ?_; intro v7 w7 hown7 hx7 _)
  have X7 := Lib.hid (hx7 _ HX.out (Nat.le_refl _))
  obtain ⟨a7, c7, hv7, _, _, r7⟩ := hown7.form
  have S7 := Lib.hid (S3.out.ext X7.out)
  have R7 := Lib.hid (R3.out.ext X7.out)
  have R7l := Lib.hid r7
  have HV7 := Lib.hid hv7
  clear hx7 hown7 hv7 r7 RDD H6
  go_wp2_with fail
  refine (HAC.out _ _ S7.out _ _ HV7.out R7l.out).mono ?_; rintro e w8 ⟨rfl, s8, b8⟩
  have S8 := Lib.hid s8
  have R8 := Lib.hid (S7.out.map.rd b8 R7.out)
  have X8 := Lib.hid (b8.ext (X3.out.trans X7.out) hb)
  clear s8 b8
  go_wp2_with fail
  refine (SC.out _ _ _ _ _ S8.out R8.out).mono ?_; rintro e w9 ⟨rfl, x9⟩
  go_wp2_with fail
  go_ret
  exact ⟨rfl, X8.out.trans x9⟩
end Go.Proofs.Yteomgccpocgffaa
